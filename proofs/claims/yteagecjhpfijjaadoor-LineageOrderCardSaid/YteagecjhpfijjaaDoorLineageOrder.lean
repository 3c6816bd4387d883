/-
  LineageOrder returns true.
-/
import Derived.Test.YteagecjhpfijjaaDoorLineageIdentities
namespace Go.Proofs.YteagecjhpfijjaaDoor
set_option linter.unusedSimpArgs false
set_option linter.unusedVariables false
open Go.RowKit Go.WideShapes

theorem BX.zeros {w : World} {g : Nat} (h : BX w g zeroV) : w.cell? ⟨g, 0, none⟩ = some (.string ⟨#[]⟩) ∧ w.cell? ⟨g, 1, none⟩ = some (.int .i64 0) ∧ w.cell? ⟨g, 2, none⟩ = some (.int .i64 0) ∧ w.cell? ⟨g, 3, none⟩ = some (.int .i64 0) ∧ w.cell? ⟨g, 4, none⟩ = some (.int .i64 0) ∧ w.cell? ⟨g, 5, none⟩ = some (.bool false) ∧ w.cell? ⟨g, 6, none⟩ = some (.bool false) ∧ w.cell? ⟨g, 7, none⟩ = some (.bool false) ∧ w.cell? ⟨g, 8, none⟩ = some (.int .u64 0) ∧ w.cell? ⟨g, 9, none⟩ = some (.int .i64 0) ∧ w.cell? ⟨g, 10, none⟩ = some (.string ⟨#[]⟩) ∧ w.cell? ⟨g, 11, none⟩ = some (.int .i64 0) :=
  ⟨h.1 0 _ rfl, h.1 1 _ rfl, h.1 2 _ rfl, h.1 3 _ rfl, h.1 4 _ rfl, h.1 5 _ rfl, h.1 6 _ rfl, h.1 7 _ rfl, h.1 8 _ rfl, h.1 9 _ rfl, h.1 10 _ rfl, h.1 11 _ rfl⟩
set_option maxHeartbeats 8000000 in
set_option maxRecDepth 100000 in
theorem lineageOrder_any (A : Option Addr) (c : Nat) (ls : List Cg) (p : ByteArray) (n : Int) (w : World) (h : CV w A c ls) (hnil : NilC A c) (hr : CgR ls) (hlen : ls.length ≤ 3000000000000) (hp : p.size ≤ maxLen) (hn : (Lit.int .i64 n).wf = true) (hsh : w.ShapedOpen Tryd.prog) :
    Calls Tryd.prog 4 #[.slice A ls.length c, .agg #[.string p, .int .i64 n]] w fun e w' => e = .returned (.bool true) ∧ Below w.heap.size w w' := by
  have HC := Lib.hid h
  have HM := Lib.hid (ML.of hsh)
  have HSM := Lib.hid (fun W h => small_any A c ls W h hr)
  have HBD := Lib.hid (fun W h hs hm => build_any A c ls W h hs hm)
  unfold RetS at HSM
  have hp' : p.size ≤ 9223372036854775807 := hp
  have HS : At (BB w [(w.heap.size, [.string p, .int .i64 n])]) (w.alloc (.cells #[.string p, .int .i64 n] 31)) := ((BB.nil w).push [.string p, .int .i64 n] 31 rfl).at_
  clear h hr hn hp hsh
  go_enter Tryd.func4, Tryd.ntmps4
  go_wp2_with (first
    | (go_at_call 11; refine (HSM.out _ (HC.out.below (below_alloc _ _))).mono ?_; rintro e w1 ⟨q, rfl, hq, hb⟩; have HQ := Lib.hid hq; replace HS := HS.go2 (Below.refl _ _) hb; have HB := Lib.hid HS.out.low; obtain ⟨f0, f1⟩ := (HS.out.get 0 rfl).c2; clear hb hq)
    | (go_at_call 12; refine (awake_any _).mono ?_; rintro e wa ⟨rfl, hb⟩; have HBA := Lib.hid hb; clear hb))
  all_goals (first | (go_ret; exact ⟨rfl, go3 HB.out HBA.out⟩) | skip)
  refine (HBD.out _ (HC.out.below HB.out) (HQ.out (by assumption)) (HM.out.below HB.out)).mono ?_
  rintro e w2 hR
  obtain ⟨rs, A2, c2, B2, m2, d2, rfl, hrv, hdp, hb⟩ := hR.dp (HQ.out (by assumption))
  have HR2 := Lib.hid hrv
  have HLP := Lib.hid (fun W h => lline_any A2 B2 c2 m2 d2 rs p n W h hdp)
  have HPA := Lib.hid (fun v (hv : v ∈ rs) W h => lprevious_any A2 B2 c2 m2 d2 rs v.path v.num W h hdp (by have := hdp.sz v hv; omega) (okF_of (p := v.path) (by have := hdp.sz v hv; omega) (hdp.near v hv)).2)
  have HA2 := Lib.hid (show ∀ a, A2 = some a → 0 < rs.length → a.block < w2.heap.size from fun a ha h0 => by
    obtain ⟨b, o, e, hb2, _⟩ := hrv.2.2 (by rw [List.length_map]; exact h0)
    rw [ha] at e
    cases e
    exact hb2)
  have HL5 : Hid ((lineR rs (p, n)).length ≤ 500) := Lib.hid (by unfold lineR; have := List.length_filter_le (memF rs (p, n)) rs; have := hdp.len; omega)
  have HLM := Lib.hid (fun v (hv : v ∈ lineR rs (p, n)) => mem_line.1 hv)
  have HPN : Hid (∀ v ∈ lineR rs (p, n), prevN rs v.path v.num = prevR rs v) := Lib.hid (fun v hv => by
    obtain ⟨h1, h2, _⟩ := mem_line.1 hv
    unfold prevN
    rw [memR_some.2 ⟨hdp.inv.get_mem h1, h2⟩]
    rfl)
  have HLA := Lib.hid (fun i v (hv : (lineR rs (p, n))[i]? = some v) => hdp.inv.line_at hv)
  unfold RetVN at HLP
  generalize lineR rs (p, n) = ll at *
  have hsw := ((HS.go2 (Below.refl _ _) hb).out.get 0 rfl).2.2
  replace HS := (((HS.go2 (Below.refl _ _) hb).out.push [.slice A2 rs.length c2, .slice B2 m2 d2] 28 (g := w2.heap.size) rfl).push zeroV 40 (g := w2.heap.size + 1) (by simp)).at_
  replace HR2 := Lib.hid (HR2.out.below (below_two _ (.cells #[.slice A2 rs.length c2, .slice B2 m2 d2] 28) (.cells zeroV.toArray 40)))
  clear hR hrv hb f0 f1
  unfold zeroV at HS HR2
  obtain ⟨f0, f1⟩ := (HS.out.get 0 rfl).c2
  have hl5 := HL5.out
  go_wp2_with (go_at_call 18; refine (HLP.out _ HR2.out).mono ?_; rintro e w3 ⟨A3, c3, rfl, hv3, hb, hab⟩; have HA3 := Lib.hid (show ∀ a, A3 = some a → w2.heap.size + 1 < a.block from fun a ha => by have := hab a ha; simp at this; omega); have HL1 := Lib.hid hv3; have q3 := hv3.1; have q3' := hv3.2.1; rw [List.length_map] at q3; replace HR2 := Lib.hid (HR2.out.below hb); replace HS := HS.go2 (Below.refl _ _) hb; clear hb hv3 hab)
  obtain ⟨wl, rfl⟩ : ∃ wl, wl = w3 := ⟨w3, rfl⟩
  go_loopw [27] (fun s wr => ∃ (k : Nat) (o : Option Rv), k ≤ ll.length ∧ s = .int .i64 k ∧ Hid (o = (ll.take k).getLast?) ∧ Hid (BB w [(w.heap.size, [.string p, .int .i64 n]), (w2.heap.size, [.slice A2 rs.length c2, .slice B2 m2 d2]), (w2.heap.size + 1, revV (o.getD rv0))] wr) ∧ Hid (RV wr A3 c3 ll) ∧ Hid (RV wr A2 c2 rs)) (fun s _ => ll.length - (intOf s).toNat)
  case atStart => exact ⟨0, none, Nat.zero_le _, rfl, Lib.hid rfl, Lib.hid HS.out, HL1, HR2⟩
  case round =>
    clear HS f0 f1
    obtain ⟨k, o, hk, rfl, HO, HS0, HL, HR3⟩ := hrel
    have HS := HS0.out.at_
    clear HS0
    obtain ⟨f0, f1⟩ := (HS.out.get 0 rfl).c2
    obtain ⟨d0, d1⟩ := (HS.out.get 1 rfl).c2
    have lf := (HS.out.get 2 rfl).2.1
    have gl := (HS.out.get 2 rfl).2.2
    have dl := (HS.out.get 1 rfl).2.2
    have fl := (HS.out.get 0 rfl).2.2
    by_cases hlt : k < ll.length
    · obtain ⟨v, hv⟩ : ∃ v, ll[k]? = some v := ⟨_, List.getElem?_eq_getElem hlt⟩
      obtain ⟨b3, o3, rfl, hb3, x0, x1, x2, x3, x4, x5, x6, x7, x8, x9, x10, x11⟩ := HL.out.at_ hv
      have hvm := HLM.out v (List.mem_of_getElem? hv)
      have HPV := Lib.hid (HPA.out v hvm.1)
      rw [HPN.out v (List.mem_of_getElem? hv)] at HPV
      have hla := HLA.out k v hv
      have HRP : Hid (0 < rs.length) := Lib.hid (List.length_pos_of_mem hvm.1)
      have HNX : Hid (some v = (ll.take (k + 1)).getLast?) := Lib.hid (by rw [List.take_add_one, hv, List.getLast?_append]; rfl)
      have HV : At (fun w' => BX w' wr.heap.size (revV v)) (wr.alloc (.cells #[.string v.path, .int .i64 v.num, .int .i64 v.chg, .int .i64 v.act, .int .i64 v.ty.1, .bool v.ty.2.1, .bool v.ty.2.2.1, .bool v.ty.2.2.2, .int .u64 v.cid.1, .int .i64 v.cid.2, .string v.frm, .int .i64 v.fnum] 40)) := ⟨fun X Y h hb => h.below hb, BX.new wr (revV v) _ rfl⟩
      obtain ⟨v0, v1, v2, v3, v4, v5, v6, v7, v8, v9, v10, v11⟩ := HV.out.rev
      rcases Nat.eq_zero_or_pos k with hk0 | hk0
      · have hpn := (hla.1 hk0).1
        have b1 : (v.act == 1) = true := by simpa using (hla.1 hk0).2.1
        have ho : o = none := by rw [HO.out, hk0]; rfl
        subst ho
        subst hk0
        simp only [Nat.zero_mul, Nat.add_zero] at x0 x1 x2 x3 x4 x5 x6 x7 x8 x9 x10 x11
        rw [hpn] at HPV
        obtain ⟨l0, l1, l2, l3, l4, l5, l6, l7, l8, l9, l10, l11⟩ := (show BX _ (w2.heap.size + 1) zeroV from HS.out.get 2 rfl).zeros
        have hre := (fun w => rev_eq rv0 rv0 w)
        simp only [show revB rv0 rv0 = true from (revB_iff _ _).2 rfl] at hre
        clear hla hvm hv HO

        unfold RetOR at HPV
        simp only [Option.getD_none, Option.isSome_none] at HPV
        unfold aggR rv0 at HPV hre
        go_wp2_with (go_at_call 16; refine (HPV.out _ (HR3.out.below (by repeat (first | exact Below.refl _ _ | apply Below.drew | apply below_drewN | apply below_al)))).mono ?_; rintro e w3 ⟨rfl, hb⟩; have HR4 := Lib.hid (HR3.out.below (go3 (by repeat (first | exact Below.refl _ _ | apply Below.drew | apply below_drewN | apply below_al)) hb)); have HL3 := Lib.hid (HL.out.below (go3 (by repeat (first | exact Below.refl _ _ | apply Below.drew | apply below_drewN | apply below_al)) hb)); replace HV := HV.go2 (Below.refl _ _) hb; replace HS := HS.go2 (by repeat (first | exact Below.refl _ _ | apply Below.drew | apply below_drewN | apply below_al)) hb; clear hb f0 f1 d0 d1 l0 l1 l2 l3 l4 l5 l6 l7 l8 l9 l10 l11 lf; obtain ⟨f0, f1⟩ := (HS.out.get 0 rfl).c2; obtain ⟨d0, d1⟩ := (HS.out.get 1 rfl).c2; obtain ⟨l0, l1, l2, l3, l4, l5, l6, l7, l8, l9, l10, l11⟩ := (show BX _ (w2.heap.size + 1) zeroV from HS.out.get 2 rfl).zeros; have lf := (HS.out.get 2 rfl).2.1; obtain ⟨v0, v1, v2, v3, v4, v5, v6, v7, v8, v9, v10, v11⟩ := HV.out.rev; have gl := (HS.out.get 2 rfl).2.2; have vl := HV.out.2.2; have ne1 : ¬ w2.heap.size + 1 = w3.heap.size := (by omega); have ne2 : ¬ w3.heap.size = w2.heap.size + 1 := (by omega))
        go_roundw
        case rel => exact ⟨0 + 1, some v, by omega, by go_num, HNX, Lib.hid (BB.kept _ _ _ _ (BB.set12 (l := [_, _]) HS.out rfl (fun p hp => by simp only [List.mem_cons, List.not_mem_nil, or_false] at hp; rcases hp with rfl | rfl <;> simp only <;> omega) (by omega) _ _ _ _ _ _ _ _ _ _ _ _) (below_alloc _ _)), Lib.hid ((RV.other12 HL3.out (fun a ha => by have := HA3.out a ha; omega) _ _ _ _ _ _ _ _ _ _ _ _).below (below_alloc _ _)), Lib.hid ((RV.other12 HR4.out (fun a ha => by have := HA2.out a ha HRP.out; omega) _ _ _ _ _ _ _ _ _ _ _ _).below (below_alloc _ _))⟩
        case measure => simp [intOf]; omega
      · obtain ⟨j, hj⟩ : ∃ j, k = j + 1 := ⟨k - 1, by omega⟩
        obtain ⟨u, hu⟩ : ∃ u, ll[j]? = some u := ⟨_, List.getElem?_eq_getElem (by omega)⟩
        obtain ⟨hpn, hcg, ha3, ha1⟩ := hla.2 j u hj hu
        have b1 : (v.act == 1) = false := by simpa using ha1
        have ua3 : (u.act == 3) = false := by simpa using ha3
        have hcg2 : ¬ v.chg ≤ u.chg := by omega
        have hki : (0 : Int) < (k : Int) := by omega
        have hkz : ((k : Int) == 0) = false := by simp; omega
        have ho : o = some u := by rw [HO.out, hj, List.take_add_one, hu, List.getLast?_append]; rfl
        subst ho
        rw [hpn] at HPV
        obtain ⟨l0, l1, l2, l3, l4, l5, l6, l7, l8, l9, l10, l11⟩ := (show At12 _ (w2.heap.size + 1) 0 u from (HS.out.get 2 rfl).rev)
        have hre := (fun w => rev_eq u u w)
        simp only [show revB u u = true from (revB_iff _ _).2 rfl] at hre
        clear hla hvm hv HO hu hj hk0

        unfold RetOR at HPV
        simp only [Option.getD_some, Option.isSome_some] at HPV
        unfold aggR at HPV hre
        go_wp2_with (go_at_call 16; refine (HPV.out _ (HR3.out.below (by repeat (first | exact Below.refl _ _ | apply Below.drew | apply below_drewN | apply below_al)))).mono ?_; rintro e w3 ⟨rfl, hb⟩; have HR4 := Lib.hid (HR3.out.below (go3 (by repeat (first | exact Below.refl _ _ | apply Below.drew | apply below_drewN | apply below_al)) hb)); have HL3 := Lib.hid (HL.out.below (go3 (by repeat (first | exact Below.refl _ _ | apply Below.drew | apply below_drewN | apply below_al)) hb)); replace HV := HV.go2 (Below.refl _ _) hb; replace HS := HS.go2 (by repeat (first | exact Below.refl _ _ | apply Below.drew | apply below_drewN | apply below_al)) hb; clear hb f0 f1 d0 d1 l0 l1 l2 l3 l4 l5 l6 l7 l8 l9 l10 l11 lf; obtain ⟨f0, f1⟩ := (HS.out.get 0 rfl).c2; obtain ⟨d0, d1⟩ := (HS.out.get 1 rfl).c2; obtain ⟨l0, l1, l2, l3, l4, l5, l6, l7, l8, l9, l10, l11⟩ := (show At12 _ (w2.heap.size + 1) 0 u from (HS.out.get 2 rfl).rev); have lf := (HS.out.get 2 rfl).2.1; obtain ⟨v0, v1, v2, v3, v4, v5, v6, v7, v8, v9, v10, v11⟩ := HV.out.rev; have gl := (HS.out.get 2 rfl).2.2; have vl := HV.out.2.2; have ne1 : ¬ w2.heap.size + 1 = w3.heap.size := (by omega); have ne2 : ¬ w3.heap.size = w2.heap.size + 1 := (by omega))
        go_roundw
        case rel => exact ⟨k + 1, some v, by omega, by go_num, HNX, Lib.hid (BB.kept _ _ _ _ (BB.set12 (l := [_, _]) HS.out rfl (fun p hp => by simp only [List.mem_cons, List.not_mem_nil, or_false] at hp; rcases hp with rfl | rfl <;> simp only <;> omega) (by omega) _ _ _ _ _ _ _ _ _ _ _ _) (below_alloc _ _)), Lib.hid ((RV.other12 HL3.out (fun a ha => by have := HA3.out a ha; omega) _ _ _ _ _ _ _ _ _ _ _ _).below (below_alloc _ _)), Lib.hid ((RV.other12 HR4.out (fun a ha => by have := HA2.out a ha HRP.out; omega) _ _ _ _ _ _ _ _ _ _ _ _).below (below_alloc _ _))⟩
        case measure => simp [intOf]; omega
    · obtain rfl : k = ll.length := by omega
      go_wp2_with (go_at_call 12; refine (awake_any _).mono ?_; rintro e wa ⟨rfl, hb⟩; have HBA := Lib.hid hb; clear hb)
      go_ret
      exact ⟨rfl, go3 HS.out.low HBA.out⟩
end Go.Proofs.YteagecjhpfijjaaDoor

