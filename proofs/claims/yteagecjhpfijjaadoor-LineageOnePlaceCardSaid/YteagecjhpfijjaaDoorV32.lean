/-
  The walks of the two Wheres (of the program's: over its Line).
-/
import Derived.Test.YteagecjhpfijjaaDoorV31
namespace Go.Proofs.YteagecjhpfijjaaDoor
set_option linter.unusedSimpArgs false
set_option linter.unusedVariables false
open Go.RowKit Go.WideShapes

/-- revisions come back, in memory of their own -/
def RetVN (w : World) (rs : List Rv) (e : Ending) (w' : World) : Prop := ∃ A c, e = .returned (.slice A rs.length c) ∧ RV w' A c rs ∧ Below w.heap.size w w' ∧ ∀ a, A = some a → w.heap.size ≤ a.block
set_option maxHeartbeats 4000000 in
set_option maxRecDepth 100000 in
theorem rlineN_any (A B : Option Addr) (c m d : Nat) (rs : List Rv) (p : ByteArray) (n : Int) (w : World) (h : RV w A c rs) (hl : rs.length ≤ 100000) (hr : ∀ u ∈ rs, nearN u.num) :
    Calls Tryd.prog 20 #[.agg #[.slice A rs.length c, .slice B m d], .agg #[.string p, .int .i64 n]] w (RetVN w (lineR rs (p, n))) := by
  have h1 := h.1
  have h2 := h.2.1
  rw [List.length_map] at h1
  have HR := Lib.hid h
  have HRN := Lib.hid hr
  have HS : At (BB w [(w.heap.size, [.slice A rs.length c, .slice B m d]), (w.heap.size + 1, [.string p, .int .i64 n])]) ((w.alloc (.cells #[.slice A rs.length c, .slice B m d] 28)).alloc (.cells #[.string p, .int .i64 n] 31)) :=
    (((BB.nil w).push [.slice A rs.length c, .slice B m d] 28 rfl).push [.string p, .int .i64 n] 31 (g := w.heap.size + 1) (by simp)).at_
  clear h hr
  obtain ⟨d0, d1⟩ := HS.out.get 0 rfl |>.c2
  obtain ⟨f0, f1⟩ := HS.out.get 1 rfl |>.c2
  go_enter Tryd.func20, Tryd.ntmps20
  go_wp2_with fail
  go_loopw [5, 11] (fun o i wr => ∃ k : Nat, k ≤ rs.length ∧ i = .int .i64 k ∧ Hid (OR wr (w.heap.size + 1 + 1) 40 12 o (((rs.take k).filter (memF rs (p, n))).map revV)) ∧ Hid (BB w [(w.heap.size, [.slice A rs.length c, .slice B m d]), (w.heap.size + 1, [.string p, .int .i64 n])] wr) ∧ w.heap.size + 1 + 1 ≤ wr.heap.size) (fun _ i _ => rs.length - (intOf i).toNat)
  case atStart => exact ⟨0, Nat.zero_le _, rfl, Lib.hid (OR.nil _ _ _ _), Lib.hid HS.out, by simp⟩
  case round =>
    clear HS d0 d1 f0 f1
    obtain ⟨k, hk, rfl, HO, HS0, hsz⟩ := hrel
    have HS := HS0.out.at_
    clear HS0
    obtain ⟨d0, d1⟩ := HS.out.get 0 rfl |>.c2
    obtain ⟨f0, f1⟩ := HS.out.get 1 rfl |>.c2
    have g0l := (HS.out.get 0 rfl).2.2
    have g1l := (HS.out.get 1 rfl).2.2
    by_cases hlt : k < rs.length
    · obtain ⟨v, hv⟩ : ∃ v, rs[k]? = some v := ⟨_, List.getElem?_eq_getElem hlt⟩
      have HVN := Lib.hid (HRN.out v (List.mem_of_getElem? hv))
      have HFS := Lib.hid (filter_snoc (memF rs (p, n)) hv)
      have HLL : Hid (((rs.take k).filter (memF rs (p, n))).length ≤ 100000) := Lib.hid (by
        have : ((rs.take k).filter (memF rs (p, n))).length ≤ (rs.take k).length := List.length_filter_le _ _
        rw [List.length_take] at this
        omega)
      obtain ⟨b, o', e0, hb1, x0, x1, x2, x3, x4, x5, x6, x7, x8, x9, x10, x11⟩ := (HR.out.below HS.out.low).at_ hv
      have HFT := Lib.hid (fun W h => first_any A B c m d rs v W h hl HRN.out HVN.out)
      unfold RetF at HFT
      unfold aggR at HFT
      clear hv hb1
      subst e0
      go_upto_region 5 with (fail)
      have HV : At (fun w' => BX w' wr.heap.size (revV v)) (wr.alloc (.cells #[.string v.path, .int .i64 v.num, .int .i64 v.chg, .int .i64 v.act, .int .i64 v.ty.1, .bool v.ty.2.1, .bool v.ty.2.2.1, .bool v.ty.2.2.2, .int .u64 v.cid.1, .int .i64 v.cid.2, .string v.frm, .int .i64 v.fnum] 40)) := ⟨fun X Y h hb => h.below hb, BX.new wr (revV v) _ rfl⟩
      obtain ⟨v0, v1, v2, v3, v4, v5, v6, v7, v8, v9, v10, v11⟩ := HV.out.rev
      by_cases a5 : v.act = 5
      · have HN : Hid ((rs.take (k + 1)).filter (memF rs (p, n)) = (rs.take k).filter (memF rs (p, n))) := Lib.hid (by
          rw [HFS.out, if_neg (by rw [memF_iff]; exact fun h => h.1 a5), List.append_nil])
        have b5 : (v.act != 5) = false := by simpa using a5
        clear a5
        go_quiet (fail)
        all_goals
          go_wp2_with fail
          go_roundw
          case rel => exact ⟨k + 1, by omega, by go_num, Lib.hid (by rw [HN.out]; exact HO.out.below (by repeat (first | exact Below.refl _ _ | apply Below.drew | apply below_drewN | apply below_al))), Lib.hid (HS.go (by repeat (first | exact Below.refl _ _ | apply Below.drew | apply below_drewN | apply below_al))).out, (by first | omega | (simp; omega))⟩
          case measure => simp [intOf]; omega
      · have b5 : (v.act != 5) = true := by simpa using a5
        have HMF := Lib.hid (memF_file (rs := rs) (p := p) (n := n) a5)
        have hfe := fun w => file_eq (firstR rs v).path p (firstR rs v).num n w
        generalize firstR rs v = fv at *
        generalize hfb : fileB fv.path p fv.num n = fb at *
        clear a5 hfb
        generalize (rs.take k).filter (memF rs (p, n)) = ls at *
        cases fb with
        | true =>
          have HN : Hid ((rs.take (k + 1)).filter (memF rs (p, n)) = ls ++ [v]) := Lib.hid (by rw [HFS.out, if_pos HMF.out])
          go_region_held3 (fun w' => w'.cell? ⟨w.heap.size, 0, none⟩ = some (.slice (some ⟨b, o', none⟩) rs.length c) ∧ w'.cell? ⟨w.heap.size, 1, none⟩ = some (.slice B m d) ∧ w'.cell? ⟨wr.heap.size, 0, none⟩ = some (.string v.path) ∧ w'.cell? ⟨wr.heap.size, 1, none⟩ = some (.int .i64 v.num) ∧ w'.cell? ⟨wr.heap.size, 2, none⟩ = some (.int .i64 v.chg) ∧ w'.cell? ⟨wr.heap.size, 3, none⟩ = some (.int .i64 v.act) ∧ w'.cell? ⟨wr.heap.size, 4, none⟩ = some (.int .i64 v.ty.1) ∧ w'.cell? ⟨wr.heap.size, 5, none⟩ = some (.bool v.ty.2.1) ∧ w'.cell? ⟨wr.heap.size, 6, none⟩ = some (.bool v.ty.2.2.1) ∧ w'.cell? ⟨wr.heap.size, 7, none⟩ = some (.bool v.ty.2.2.2) ∧ w'.cell? ⟨wr.heap.size, 8, none⟩ = some (.int .u64 v.cid.1) ∧ w'.cell? ⟨wr.heap.size, 9, none⟩ = some (.int .i64 v.cid.2) ∧ w'.cell? ⟨wr.heap.size, 10, none⟩ = some (.string v.frm) ∧ w'.cell? ⟨wr.heap.size, 11, none⟩ = some (.int .i64 v.fnum) ∧ w'.cell? ⟨w.heap.size + 1, 0, none⟩ = some (.string p) ∧ w'.cell? ⟨w.heap.size + 1, 1, none⟩ = some (.int .i64 n))
            (first | exact reads5 ((HS.go (by repeat (first | exact Below.refl _ _ | apply Below.drew | apply below_drewN | apply below_al))).out.get 0 rfl).c2 (HV.go (by repeat (first | exact Below.refl _ _ | apply Below.drew | apply below_drewN | apply below_al))).out.rev ((HS.go (by repeat (first | exact Below.refl _ _ | apply Below.drew | apply below_drewN | apply below_al))).out.get 1 rfl).c2)
            (first | (go_at_call 36; refine (HFT.out _ (HR.out.below (HS.go (by repeat (first | exact Below.refl _ _ | apply Below.drew | apply below_drewN | apply below_al))).out.low)).mono ?_; rintro e wl ⟨rfl, hb⟩; replace HS := HS.go2 (by repeat (first | exact Below.refl _ _ | apply Below.drew | apply below_drewN | apply below_al)) hb; replace HV := HV.go2 (by repeat (first | exact Below.refl _ _ | apply Below.drew | apply below_drewN | apply below_al)) hb; have HO1 := Lib.hid (HO.out.below (go3 (by repeat (first | exact Below.refl _ _ | apply Below.drew | apply below_drewN | apply below_al)) hb)); have hbs := hb.size; simp at hbs; clear hb))
          all_goals
            obtain ⟨v0, v1, v2, v3, v4, v5, v6, v7, v8, v9, v10, v11⟩ := (HV.go (by repeat (first | exact Below.refl _ _ | apply Below.drew | apply below_drewN | apply below_al))).out.rev
            go_wp2_with (at_builtin; refine wpList_append_rev rfl _ _ rfl (w.heap.size + 1 + 1) _ ls v _ 1 rfl rfl (HO1.out.below (by repeat (first | exact Below.refl _ _ | apply Below.drew | apply below_drewN | apply below_al))) (cells_new _ [_, _, _, _, _, _, _, _, _, _, _, _] _ (by simp)) (by have := HLL.out; omega) (by simp; omega) ?_; intro v1' w1 hown hg _; have HS1 := Lib.hid (((HS.go (by repeat (first | exact Below.refl _ _ | apply Below.drew | apply below_drewN | apply below_al))).out.low).grown hg (HS.go (by repeat (first | exact Below.refl _ _ | apply Below.drew | apply below_drewN | apply below_al))).out.low.size (fun k hk => by have := (HO1.out.own k hk).1; omega)); have HSB : Hid (BB w [(w.heap.size, [.slice (some ⟨b, o', none⟩) rs.length c, .slice B m d]), (w.heap.size + 1, [.string p, .int .i64 n])] w1) := Lib.hid ⟨fun q hq => ((HS.go (by repeat (first | exact Below.refl _ _ | apply Below.drew | apply below_drewN | apply below_al))).out.1 q hq).grown hg (fun e => by have := (HO1.out.own _ e).1; simp only [List.mem_cons, List.not_mem_nil, or_false] at hq; rcases hq with rfl | rfl <;> simp only at this <;> omega), HS1.out⟩; have HOW := Lib.hid hown; have hs1 : w.heap.size + 1 + 1 ≤ w1.heap.size := (by have := hg.size; simp at this; omega); clear hown hg)
            go_roundw
            case rel => exact ⟨k + 1, by omega, by go_num, Lib.hid (by rw [HN.out]; exact HOW.out), HSB, hs1⟩
            case measure => simp [intOf]; omega
        | false =>
          have HN : Hid ((rs.take (k + 1)).filter (memF rs (p, n)) = ls) := Lib.hid (by rw [HFS.out, if_neg (by rw [HMF.out]; decide), List.append_nil])
          go_region_held3 (fun w' => w'.cell? ⟨w.heap.size, 0, none⟩ = some (.slice (some ⟨b, o', none⟩) rs.length c) ∧ w'.cell? ⟨w.heap.size, 1, none⟩ = some (.slice B m d) ∧ w'.cell? ⟨wr.heap.size, 0, none⟩ = some (.string v.path) ∧ w'.cell? ⟨wr.heap.size, 1, none⟩ = some (.int .i64 v.num) ∧ w'.cell? ⟨wr.heap.size, 2, none⟩ = some (.int .i64 v.chg) ∧ w'.cell? ⟨wr.heap.size, 3, none⟩ = some (.int .i64 v.act) ∧ w'.cell? ⟨wr.heap.size, 4, none⟩ = some (.int .i64 v.ty.1) ∧ w'.cell? ⟨wr.heap.size, 5, none⟩ = some (.bool v.ty.2.1) ∧ w'.cell? ⟨wr.heap.size, 6, none⟩ = some (.bool v.ty.2.2.1) ∧ w'.cell? ⟨wr.heap.size, 7, none⟩ = some (.bool v.ty.2.2.2) ∧ w'.cell? ⟨wr.heap.size, 8, none⟩ = some (.int .u64 v.cid.1) ∧ w'.cell? ⟨wr.heap.size, 9, none⟩ = some (.int .i64 v.cid.2) ∧ w'.cell? ⟨wr.heap.size, 10, none⟩ = some (.string v.frm) ∧ w'.cell? ⟨wr.heap.size, 11, none⟩ = some (.int .i64 v.fnum) ∧ w'.cell? ⟨w.heap.size + 1, 0, none⟩ = some (.string p) ∧ w'.cell? ⟨w.heap.size + 1, 1, none⟩ = some (.int .i64 n))
            (first | exact reads5 ((HS.go (by repeat (first | exact Below.refl _ _ | apply Below.drew | apply below_drewN | apply below_al))).out.get 0 rfl).c2 (HV.go (by repeat (first | exact Below.refl _ _ | apply Below.drew | apply below_drewN | apply below_al))).out.rev ((HS.go (by repeat (first | exact Below.refl _ _ | apply Below.drew | apply below_drewN | apply below_al))).out.get 1 rfl).c2)
            (first | (go_at_call 36; refine (HFT.out _ (HR.out.below (HS.go (by repeat (first | exact Below.refl _ _ | apply Below.drew | apply below_drewN | apply below_al))).out.low)).mono ?_; rintro e wl ⟨rfl, hb⟩; replace HS := HS.go2 (by repeat (first | exact Below.refl _ _ | apply Below.drew | apply below_drewN | apply below_al)) hb; replace HV := HV.go2 (by repeat (first | exact Below.refl _ _ | apply Below.drew | apply below_drewN | apply below_al)) hb; have HO1 := Lib.hid (HO.out.below (go3 (by repeat (first | exact Below.refl _ _ | apply Below.drew | apply below_drewN | apply below_al)) hb)); have hbs := hb.size; simp at hbs; clear hb))
          all_goals
            go_wp2_with fail
            go_roundw
            case rel => exact ⟨k + 1, by omega, by go_num, Lib.hid (by rw [HN.out]; exact HO1.out.below (by repeat (first | exact Below.refl _ _ | apply Below.drew | apply below_drewN | apply below_al))), Lib.hid (HS.go (by repeat (first | exact Below.refl _ _ | apply Below.drew | apply below_drewN | apply below_al))).out, (by first | omega | (simp; omega))⟩
            case measure => simp [intOf]; omega
    · obtain rfl : k = rs.length := by omega
      have hO := HO.out
      rw [List.take_length] at hO
      obtain ⟨A', c', hv, hrr, _, hab⟩ := hO.readB
      subst hv
      have HRR := Lib.hid hrr
      have HAB := Lib.hid hab
      clear hO hrr hab HO
      simp only [List.length_map]
      go_wp2_with fail
      go_ret
      exact ⟨A', c', rfl, HRR.out, HS.out.low, fun a ha => by have := HAB.out a ha; omega⟩
theorem lineAt_snoc {ls : List Rv} {k : Nat} {v : Rv} {ch : Int} (hk : ls[k]? = some v) : ((ls.take (k + 1)).filter (fun v => decide (v.chg ≤ ch))).getLast? = if v.chg ≤ ch then some v else ((ls.take k).filter (fun v => decide (v.chg ≤ ch))).getLast? := by
  rw [filter_snoc _ hk]
  by_cases e : v.chg ≤ ch
  · have e2 : decide (v.chg ≤ ch) = true := by simpa using e
    rw [if_pos e, if_pos e2, List.getLast?_append]; rfl
  · have e2 : ¬ decide (v.chg ≤ ch) = true := by simpa using e
    rw [if_neg e, if_neg e2, List.append_nil]
theorem RV.other12 {w : World} {A : Option Addr} {c : Nat} {rs : List Rv} (h : RV w A c rs) {g : Nat} (hA : ∀ a, A = some a → g ≠ a.block) (y0 y1 y2 y3 y4 y5 y6 y7 y8 y9 y10 y11 : Value) : RV ((((((((((((w.setCell ⟨g, 0, none⟩ y0).setCell ⟨g, 1, none⟩ y1).setCell ⟨g, 2, none⟩ y2).setCell ⟨g, 3, none⟩ y3).setCell ⟨g, 4, none⟩ y4).setCell ⟨g, 5, none⟩ y5).setCell ⟨g, 6, none⟩ y6).setCell ⟨g, 7, none⟩ y7).setCell ⟨g, 8, none⟩ y8).setCell ⟨g, 9, none⟩ y9).setCell ⟨g, 10, none⟩ y10).setCell ⟨g, 11, none⟩ y11) A c rs :=
  RR.other (RR.other (RR.other (RR.other (RR.other (RR.other (RR.other (RR.other (RR.other (RR.other (RR.other (RR.other h (p := ⟨g, 0, none⟩) hA y0) (p := ⟨g, 1, none⟩) hA y1) (p := ⟨g, 2, none⟩) hA y2) (p := ⟨g, 3, none⟩) hA y3) (p := ⟨g, 4, none⟩) hA y4) (p := ⟨g, 5, none⟩) hA y5) (p := ⟨g, 6, none⟩) hA y6) (p := ⟨g, 7, none⟩) hA y7) (p := ⟨g, 8, none⟩) hA y8) (p := ⟨g, 9, none⟩) hA y9) (p := ⟨g, 10, none⟩) hA y10) (p := ⟨g, 11, none⟩) hA y11
set_option maxHeartbeats 8000000 in
set_option maxRecDepth 100000 in
theorem rwhere_any (A B : Option Addr) (c m d : Nat) (rs : List Rv) (p : ByteArray) (n ch : Int) (w : World) (h : RV w A c rs) (hd : Dp rs) :
    Calls Tryd.prog 26 #[.agg #[.slice A rs.length c, .slice B m d], .agg #[.string p, .int .i64 n], .int .i64 ch] w (RetOR w (whereR rs (p, n) ch)) := by
  have HR := Lib.hid h
  have HLN := Lib.hid (fun W h => rlineN_any A B c m d rs p n W h (Nat.le_trans hd.len (by decide)) hd.near)
  unfold RetVN at HLN
  have HQ : Hid (whereR rs (p, n) ch = (((lineR rs (p, n)).filter (fun v => decide (v.chg ≤ ch))).getLast?).filter (fun v => v.act != 3)) := Lib.hid rfl
  have HNM : Hid (∀ v ∈ lineR rs (p, n), v.num ≠ 0) := Lib.hid (fun v hv => by have := (hd.inv.num_le (mem_line.1 hv).1).1; omega)
  have HLL : Hid ((lineR rs (p, n)).length ≤ 500) := Lib.hid (by unfold lineR; have := List.length_filter_le (memF rs (p, n)) rs; have := hd.len; omega)
  have HS : At (BB w [(w.heap.size, [.slice A rs.length c, .slice B m d]), (w.heap.size + 1, [.string p, .int .i64 n]), (w.heap.size + 1 + 1, zeroV), (w.heap.size + 1 + 1 + 1, zeroV)]) ((((w.alloc (.cells #[.slice A rs.length c, .slice B m d] 28)).alloc (.cells #[.string p, .int .i64 n] 31)).alloc (.cells zeroV.toArray 40)).alloc (.cells zeroV.toArray 40)) :=
    (((((BB.nil w).push [.slice A rs.length c, .slice B m d] 28 rfl).push [.string p, .int .i64 n] 31 (g := w.heap.size + 1) (by simp)).push zeroV 40 (g := w.heap.size + 1 + 1) (by simp)).push zeroV 40 (g := w.heap.size + 1 + 1 + 1) (by simp)).at_
  clear h hd
  generalize whereR rs (p, n) ch = wo at *
  generalize lineR rs (p, n) = ls at *
  unfold zeroV at HS
  go_enter Tryd.func26, Tryd.ntmps26
  go_wp2_with (go_at_call 20; refine (HLN.out _ (HR.out.below HS.out.low)).mono ?_; rintro e w1 ⟨A1, c1, rfl, hrv, hb, hab⟩; have HA1 := Lib.hid hab; have HR1 := Lib.hid hrv; have q1 := hrv.1; rw [List.length_map] at q1; have q2 := hrv.2.1; replace HS := HS.go2 (Below.refl _ _) hb; clear hrv hb hab)
  go_loopw [15] (fun s wr => ∃ (k : Nat) (o : Option Rv), k ≤ ls.length ∧ s = .int .i64 k ∧ Hid (o = ((ls.take k).filter (fun v => decide (v.chg ≤ ch))).getLast?) ∧ Hid (BB w [(w.heap.size, [.slice A rs.length c, .slice B m d]), (w.heap.size + 1, [.string p, .int .i64 n]), (w.heap.size + 1 + 1, zeroV), (w.heap.size + 1 + 1 + 1, revV (o.getD rv0))] wr) ∧ Hid (RV wr A1 c1 ls)) (fun s _ => ls.length - (intOf s).toNat)
  case atStart => exact ⟨0, none, Nat.zero_le _, rfl, Lib.hid rfl, Lib.hid HS.out, HR1⟩
  case round =>
    clear HS
    obtain ⟨k, o, hk, rfl, HO, HS0, HR2⟩ := hrel
    have HS := HS0.out.at_
    clear HS0
    obtain ⟨d0, d1⟩ := HS.out.get 0 rfl |>.c2
    obtain ⟨e0, e1⟩ := HS.out.get 1 rfl |>.c2
    obtain ⟨r0, r1, r2, r3, r4, r5, r6, r7, r8, r9, r10, r11⟩ := (show At12 _ (w.heap.size + 1 + 1) 0 rv0 from (HS.out.get 2 rfl).rev)
    obtain ⟨o0, o1, o2, o3, o4, o5, o6, o7, o8, o9, o10, o11⟩ := (HS.out.get 3 rfl).rev
    have rf := (HS.out.get 2 rfl).2.1
    have off := (HS.out.get 3 rfl).2.1
    have g2l := (HS.out.get 2 rfl).2.2
    have g3l := (HS.out.get 3 rfl).2.2
    by_cases hlt : k < ls.length
    · obtain ⟨v, hv⟩ : ∃ v, ls[k]? = some v := ⟨_, List.getElem?_eq_getElem hlt⟩
      obtain ⟨b, o', rfl, hb1, x0, x1, x2, x3, x4, x5, x6, x7, x8, x9, x10, x11⟩ := HR2.out.at_ hv
      have HSN := Lib.hid (lineAt_snoc (ch := ch) hv)
      have ne1 : ¬ wr.heap.size = w.heap.size + 1 + 1 + 1 := by omega
      have ne2 : ¬ w.heap.size + 1 + 1 + 1 = wr.heap.size := by omega
      clear hv hb1
      by_cases hc : v.chg ≤ ch
      · have HN : Hid (some v = ((ls.take (k + 1)).filter (fun v => decide (v.chg ≤ ch))).getLast?) := Lib.hid (by rw [HSN.out, if_pos hc])
        go_wp2_with fail
        go_roundw
        case rel => exact ⟨k + 1, some v, by omega, by go_num, HN, Lib.hid (BB.kept _ _ _ _ (BB.set12 (l := [_, _, _]) HS.out rfl (fun p hp => by simp only [List.mem_cons, List.not_mem_nil, or_false] at hp; rcases hp with rfl | rfl | rfl <;> simp only <;> omega) (by omega) _ _ _ _ _ _ _ _ _ _ _ _) (below_alloc _ _)), Lib.hid ((RV.other12 HR2.out (fun a ha => by have := HA1.out a ha; simp at this; omega) _ _ _ _ _ _ _ _ _ _ _ _).below (below_alloc _ _))⟩
        case measure => simp [intOf]; omega
      · have HN : Hid (o = ((ls.take (k + 1)).filter (fun v => decide (v.chg ≤ ch))).getLast?) := Lib.hid (by rw [HSN.out, if_neg hc]; exact HO.out)
        go_wp2_with fail
        go_roundw
        case rel => exact ⟨k + 1, o, by omega, by go_num, HN, Lib.hid (HS.go (by repeat (first | exact Below.refl _ _ | apply Below.drew | apply below_drewN | apply below_al))).out, Lib.hid (HR2.out.below (by repeat (first | exact Below.refl _ _ | apply Below.drew | apply below_drewN | apply below_al)))⟩
        case measure => simp [intOf]; omega
    · obtain rfl : k = ls.length := by omega
      have HO2 := HO.out
      rw [List.take_length] at HO2
      have HQ2 : Hid (wo = o.filter (fun v => v.act != 3)) := Lib.hid (by rw [HQ.out, HO2])
      have HON : Hid (∀ u, o = some u → u.num ≠ 0) := Lib.hid (fun u hu => HNM.out u (List.mem_filter.1 (List.mem_of_getLast? (by rw [← HO2]; exact hu))).1)
      clear HO2 HO HQ HNM
      cases o with
      | none =>
        have HN : Hid (wo = none) := Lib.hid HQ2.out
        clear HQ2 HON
        simp only [Option.getD_none, Option.isSome_none] at *
        go_wp2_with fail
        refine bodyPost_ret (v := .tuple #[aggR rv0, .bool false]) (by simp [results, Tryd.results26, go_sem, r0, r1, r2, r3, r4, r5, r6, r7, r8, r9, r10, r11, aggR, rv0]) rfl ?_
        exact ⟨by rw [HN.out]; rfl, below12 HS.out.low (by omega) _ _ _ _ _ _ _ _ _ _ _ _⟩
      | some v =>
        have hn0 := HON.out v rfl
        have b0 : (v.num == 0) = false := by simpa using hn0
        by_cases a3 : v.act = 3
        · have HN : Hid (wo = none) := Lib.hid (by rw [HQ2.out, Option.filter_some]; simp [a3])
          have b3 : (v.act == 3) = true := by simpa using a3
          clear HQ2 HON a3
          simp only [Option.getD_some, Option.isSome_some] at *
          go_wp2_with fail
          refine bodyPost_ret (v := .tuple #[aggR rv0, .bool false]) (by simp [results, Tryd.results26, go_sem, r0, r1, r2, r3, r4, r5, r6, r7, r8, r9, r10, r11, aggR, rv0]) rfl ?_
          exact ⟨by rw [HN.out]; rfl, below12 HS.out.low (by omega) _ _ _ _ _ _ _ _ _ _ _ _⟩
        · have HN : Hid (wo = some v) := Lib.hid (by rw [HQ2.out, Option.filter_some]; simp [a3])
          have b3 : (v.act == 3) = false := by simpa using a3
          clear HQ2 HON a3
          simp only [Option.getD_some, Option.isSome_some] at *
          go_wp2_with fail
          refine bodyPost_ret (v := .tuple #[aggR v, .bool true]) (by simp [results, Tryd.results26, go_sem, r0, r1, r2, r3, r4, r5, r6, r7, r8, r9, r10, r11, aggR, rv0]) rfl ?_
          exact ⟨by rw [HN.out]; rfl, below12 HS.out.low (by omega) _ _ _ _ _ _ _ _ _ _ _ _⟩
end Go.Proofs.YteagecjhpfijjaaDoor

