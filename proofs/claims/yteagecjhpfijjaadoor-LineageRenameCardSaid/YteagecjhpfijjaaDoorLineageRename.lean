/-
  LineageRename returns true.
-/
import Derived.Test.YteagecjhpfijjaaDoorLineageIdentities
import Derived.Test.YteagecjhpfijjaaDoorMX
import Derived.Test.YteagecjhpfijjaaDoorV17
namespace Go.Proofs.YteagecjhpfijjaaDoor
set_option linter.unusedSimpArgs false
set_option linter.unusedVariables false
open Go.RowKit Go.WideShapes

theorem BX.c24 {w : World} {g : Nat} {a0 a1 a2 a3 a4 a5 a6 a7 a8 a9 a10 a11 a12 a13 a14 a15 a16 a17 a18 a19 a20 a21 a22 a23 : Value} (h : BX w g [a0, a1, a2, a3, a4, a5, a6, a7, a8, a9, a10, a11, a12, a13, a14, a15, a16, a17, a18, a19, a20, a21, a22, a23]) : w.cell? ⟨g, 0, none⟩ = some a0 ∧ w.cell? ⟨g, 1, none⟩ = some a1 ∧ w.cell? ⟨g, 2, none⟩ = some a2 ∧ w.cell? ⟨g, 3, none⟩ = some a3 ∧ w.cell? ⟨g, 4, none⟩ = some a4 ∧ w.cell? ⟨g, 5, none⟩ = some a5 ∧ w.cell? ⟨g, 6, none⟩ = some a6 ∧ w.cell? ⟨g, 7, none⟩ = some a7 ∧ w.cell? ⟨g, 8, none⟩ = some a8 ∧ w.cell? ⟨g, 9, none⟩ = some a9 ∧ w.cell? ⟨g, 10, none⟩ = some a10 ∧ w.cell? ⟨g, 11, none⟩ = some a11 ∧ w.cell? ⟨g, 12, none⟩ = some a12 ∧ w.cell? ⟨g, 13, none⟩ = some a13 ∧ w.cell? ⟨g, 14, none⟩ = some a14 ∧ w.cell? ⟨g, 15, none⟩ = some a15 ∧ w.cell? ⟨g, 16, none⟩ = some a16 ∧ w.cell? ⟨g, 17, none⟩ = some a17 ∧ w.cell? ⟨g, 18, none⟩ = some a18 ∧ w.cell? ⟨g, 19, none⟩ = some a19 ∧ w.cell? ⟨g, 20, none⟩ = some a20 ∧ w.cell? ⟨g, 21, none⟩ = some a21 ∧ w.cell? ⟨g, 22, none⟩ = some a22 ∧ w.cell? ⟨g, 23, none⟩ = some a23 :=
  ⟨h.1 0 _ rfl, h.1 1 _ rfl, h.1 2 _ rfl, h.1 3 _ rfl, h.1 4 _ rfl, h.1 5 _ rfl, h.1 6 _ rfl, h.1 7 _ rfl, h.1 8 _ rfl, h.1 9 _ rfl, h.1 10 _ rfl, h.1 11 _ rfl, h.1 12 _ rfl, h.1 13 _ rfl, h.1 14 _ rfl, h.1 15 _ rfl, h.1 16 _ rfl, h.1 17 _ rfl, h.1 18 _ rfl, h.1 19 _ rfl, h.1 20 _ rfl, h.1 21 _ rfl, h.1 22 _ rfl, h.1 23 _ rfl⟩
/-- the two halves of a box change places -/
theorem BX.swap24 {w : World} {g : Nat} {xs ys : List Value} (h : BX w g (xs ++ ys)) (hx : xs.length = 12) (hy : ys.length = 12) : BX (Go.Proofs.YteagecjhpfijjaaDoor.setAll (Go.Proofs.YteagecjhpfijjaaDoor.setAll w g 0 ys) g 12 xs) g (ys ++ xs) := by
  have h1 := BX.setMid (i := 0) (pre := []) (old := xs) (post := ys) ys h rfl (by rw [hx, hy])
  have h2 := BX.setMid (i := 12) (pre := ys) (old := ys) (post := []) xs (by rw [List.append_nil]; exact h1) hy (by rw [hx, hy])
  rw [List.append_nil] at h2
  exact h2
theorem BB.swap24 {w w' : World} {a b d : Nat × List Value} {g : Nat} {xs ys : List Value} (h : BB w [a, b, (g, xs ++ ys), d] w') (hx : xs.length = 12) (hy : ys.length = 12) (hB : w.heap.size ≤ g) (ha : g ≠ a.1) (hb : g ≠ b.1) (hd : g ≠ d.1) :
    BB w [a, b, (g, ys ++ xs), d] (Go.Proofs.YteagecjhpfijjaaDoor.setAll (Go.Proofs.YteagecjhpfijjaaDoor.setAll w' g 0 ys) g 12 xs) :=
  ⟨fun p hp => by
    simp only [List.mem_cons, List.not_mem_nil, or_false] at hp
    rcases hp with rfl | rfl | rfl | rfl
    · exact ((h.get 0 rfl).otherAll _ ha).otherAll _ ha
    · exact ((h.get 1 rfl).otherAll _ hb).otherAll _ hb
    · exact (h.get 2 rfl).swap24 hx hy
    · exact ((h.get 3 rfl).otherAll _ hd).otherAll _ hd, Below.setAll _ (Below.setAll _ h.2 hB) hB⟩
theorem EV.two {w : World} {g : Nat} {x y : Ed} (h : BX w g (edV x ++ edV y)) : EV w (some ⟨g, 0, none⟩) 2 [x, y] :=
  RR.of_bx (rows := [edV x, edV y]) (by simpa using h) (fun r hr => by simp only [List.mem_cons, List.not_mem_nil, or_false] at hr; rcases hr with rfl | rfl <;> rfl) (by simp) (by omega)
set_option maxHeartbeats 20000000 in
set_option maxRecDepth 100000 in
theorem lineageRename_any (A : Option Addr) (c : Nat) (ls : List Cg) (p q : ByteArray) (n : Int) (w : World) (h : CV w A c ls) (hnil : NilC A c) (hr : CgR ls) (hlen : ls.length ≤ 3000000000000) (hp : p.size ≤ 140737488351232) (hq : q.size ≤ 140737488351232) (hn : (Lit.int .i64 n).wf = true) (hsh : w.ShapedOpen Tryd.prog) :
    Calls Tryd.prog 9 #[.slice A ls.length c, .string p, .string q, .int .i64 n] w fun e w' => e = .returned (.bool true) ∧ Below w.heap.size w w' := by
  have HC := Lib.hid h
  have HM := Lib.hid (ML.of hsh)
  have HSM := Lib.hid (fun W h => small_any A c ls W h hr)
  have HBD := Lib.hid (fun W h hs hm => build_any A c ls W h hs hm)
  unfold RetS at HSM
  have hp' : p.size ≤ 140737488351232 := hp
  have hq' : q.size ≤ 140737488351232 := hq
  clear h hr hn hp hq hsh
  go_enter Tryd.func9, Tryd.ntmps9
  go_wp2_with (first
    | (go_at_call 11; refine (HSM.out _ HC.out).mono ?_; rintro e w1 ⟨sq, rfl, hsq, hb⟩; have HQ := Lib.hid hsq; have HB := Lib.hid hb; clear hb hsq)
    | (go_at_call 12; refine (awake_any _).mono ?_; rintro e wa ⟨rfl, hb⟩; have HBA := Lib.hid hb; clear hb))
  all_goals (first | (go_ret; exact ⟨rfl, go3 HB.out HBA.out⟩) | skip)
  refine (HBD.out _ (HC.out.below HB.out) (HQ.out (by assumption)) (HM.out.below HB.out)).mono ?_
  rintro e w2 ⟨rs, recs, A2, c2, B2, d2, rfl, hdv, hvh, hsz, hsl, hb⟩
  have h200 := (HQ.out (by assumption)).2.2
  have hpq : p.size + q.size ≤ 400 := by omega
  have hdp := hvh.dp hsz (by omega)
  have hlr : rs.length ≤ 100000 := by omega
  have HDV := Lib.hid hdv
  have HB2 := Lib.hid (go3 HB.out hb)
  have HL1 := Lib.hid (fun W h => live_any A2 B2 c2 recs.length d2 rs p W h hlr)
  have HL2 := Lib.hid (fun W h => live_any A2 B2 c2 recs.length d2 rs q W h hlr)
  have HLA := Lib.hid (fun W h => last_any A2 B2 c2 recs.length d2 rs p W h hlr)
  unfold RetOR at HLA
  have HS : At (BB w2 [(w2.heap.size, [.slice A2 rs.length c2, .slice B2 recs.length d2])]) (w2.alloc (.cells #[.slice A2 rs.length c2, .slice B2 recs.length d2] 28)) := ((BB.nil w2).push [.slice A2 rs.length c2, .slice B2 recs.length d2] 28 rfl).at_
  clear hdv hb
  generalize hlp : liveR rs p = lq at *
  generalize hlq : liveR rs q = tq at *
  generalize hlv : lastR rs p = lv at *
  generalize hbp : lastN rs p = bp at *
  generalize hbq : lastN rs q = bq at *
  generalize hv : lv.getD rv0 = v at *
  generalize hvs : lv.isSome = vq at *
  unfold aggR at HLA
  go_upto_region 5 with (go_at_call 27; refine (HL1.out _ (HDV.out.below (go3 HS.out.low (by repeat (first | exact Below.refl _ _ | apply Below.drew | apply below_drewN | apply below_al)))).1).mono ?_; rintro e w3 ⟨rfl, hb⟩; replace HS := HS.go2 (by repeat (first | exact Below.refl _ _ | apply Below.drew | apply below_drewN | apply below_al)) hb; clear hb; obtain ⟨d0, d1⟩ := (HS.out.get 0 rfl).c2; have dl := (HS.out.get 0 rfl).2.2)
  go_upto_region 6 with (go_at_call 27; refine (HL2.out _ (HDV.out.below (go3 HS.out.low (by repeat (first | exact Below.refl _ _ | apply Below.drew | apply below_drewN | apply below_al)))).1).mono ?_; rintro e w4 ⟨rfl, hb⟩; replace HS := HS.go2 (by repeat (first | exact Below.refl _ _ | apply Below.drew | apply below_drewN | apply below_al)) hb; clear hb; obtain ⟨d0, d1⟩ := (HS.out.get 0 rfl).c2; have dl := (HS.out.get 0 rfl).2.2)
  go_upto_region 7 with (go_at_call 28; refine (HLA.out _ (HDV.out.below (go3 HS.out.low (by repeat (first | exact Below.refl _ _ | apply Below.drew | apply below_drewN | apply below_al)))).1).mono ?_; rintro e w5 ⟨rfl, hb⟩; replace HS := HS.go2 (by repeat (first | exact Below.refl _ _ | apply Below.drew | apply below_drewN | apply below_al)) hb; clear hb; obtain ⟨d0, d1⟩ := (HS.out.get 0 rfl).c2; have dl := (HS.out.get 0 rfl).2.2)
  cases lq with
  | false =>
    go_wp2_with (go_at_call 12; refine (awake_any _).mono ?_; rintro e wa ⟨rfl, hb⟩; have HBA := Lib.hid hb; clear hb)
    go_ret
    exact ⟨rfl, go3 (go3 HB2.out (by first | exact HS.out.low | exact below_al HS.out.low _ | exact below_al (below_al HS.out.low _) _)) HBA.out⟩
  | true =>
    cases tq with
    | true =>
      go_wp2_with (go_at_call 12; refine (awake_any _).mono ?_; rintro e wa ⟨rfl, hb⟩; have HBA := Lib.hid hb; clear hb)
      go_ret
      exact ⟨rfl, go3 (go3 HB2.out (by first | exact HS.out.low | exact below_al HS.out.low _ | exact below_al (below_al HS.out.low _) _)) HBA.out⟩
    | false =>
      obtain ⟨v', hl1, hl2, hl3', hl4, hl5, hl6⟩ := hdp.inv.live hlp
      have e1 : lv = some v' := by rw [← hlv]; exact hl1
      have e2 : v = v' := by rw [e1] at hv; exact hv.symm
      subst e2
      subst e1
      obtain rfl : bp = v.num := hbp.symm.trans hl5
      obtain rfl : vq = true := hvs.symm
      have HL3 := Lib.hid hl3'
      have HL4 := Lib.hid hl4
      obtain ⟨hv1, hv2⟩ := hdp.near v hl2
      have hnq := (hvh.near (by omega)).2 q
      have hnv := (hvh.near (by omega)).2 p
      rw [hbp] at hnv
      rw [hbq] at hnq
      obtain ⟨hq1, hq2⟩ := hnq
      have HNV := Lib.hid hnv
      have HLK := Lib.hid hl1
      have ez0 : (⟨#[]⟩ : ByteArray).size = 0 := rfl
      have hps : p.size + q.size ≤ 400 := by omega
      have HAP := Lib.hid (fun es ge W (h : DV W A2 c2 B2 d2 rs recs) (k : EV W (some ⟨ge, 0, none⟩) 2 es) (hes : es.length = 2) (hz : ∀ y ∈ es, y.path.size ≤ 1000) mm => append_any A2 B2 c2 d2 rs recs n ⟨#[]⟩ ⟨#[]⟩ (some ⟨ge, 0, none⟩) none 2 0 es [] W h.1 h.2.1 h.2.2.1 h.2.2.2.1 k (RR.nil _ none 0 6 (by omega)) (fun _ => rfl) mm hz (fun r hr => by cases hr) h.2.2.2.2 (by omega) (by omega) (by simp) (by omega) hdp.near (hvh.near (by omega)).2)
      clear hl1 hl3' hl4 hl5 hl6 hlp hlq hlv hbp hbq hv hvs hnv HL1 HL2 HLA d0 d1 dl
      have hd25 : w2.heap.size < w5.heap.size := (HS.out.get 0 rfl).2.2
      go_upto_region 10 with (fail)
      replace HS := (((HS.out.push [.string v.path, .int .i64 v.num, .int .i64 v.chg, .int .i64 v.act, .int .i64 v.ty.1, .bool v.ty.2.1, .bool v.ty.2.2.1, .bool v.ty.2.2.2, .int .u64 v.cid.1, .int .i64 v.cid.2, .string v.frm, .int .i64 v.fnum] 40 (g := w5.heap.size) rfl).push [.string p, .int .i64 5, .int .i64 v.ty.1, .bool v.ty.2.1, .bool v.ty.2.2.1, .bool v.ty.2.2.2, .int .u64 0, .int .i64 0, .int .i64 v.num, .string ⟨#[]⟩, .int .i64 0, .int .i64 0, .string q, .int .i64 4, .int .i64 v.ty.1, .bool v.ty.2.1, .bool v.ty.2.2.1, .bool v.ty.2.2.2, .int .u64 v.cid.1, .int .i64 v.cid.2, .int .i64 bq, .string p, .int .i64 v.num, .int .i64 0] 63 (g := w5.heap.size + 1) (by simp)).push [.int .i64 n, .string ⟨#[]⟩, .string ⟨#[]⟩, .slice (some ⟨w5.heap.size + 1, 0, none⟩) 2 2, .slice none 0 0] 52 (g := w5.heap.size + 1 + 1) (by simp)).at_
      obtain ⟨d0, d1⟩ := (HS.out.get 0 rfl).c2
      have dl := (HS.out.get 0 rfl).2.2
      obtain ⟨g0, g1, g2, g3, g4⟩ := (HS.out.get 3 rfl).c5
      have gl := (HS.out.get 3 rfl).2.2
      go_upto_region 11 with (go_at_call 23; refine (HAP.out [⟨p, 5, v.ty, (0, 0), v.num, ⟨#[]⟩, 0, 0⟩, ⟨q, 4, v.ty, v.cid, bq, p, v.num, 0⟩] (w5.heap.size + 1) _ (HDV.out.below HS.out.low) (EV.two (x := ⟨p, 5, v.ty, (0, 0), v.num, ⟨#[]⟩, 0, 0⟩) (y := ⟨q, 4, v.ty, v.cid, bq, p, v.num, 0⟩) (HS.out.get 2 rfl)) rfl (fun z hz => by simp only [List.mem_cons, List.not_mem_nil, or_false] at hz; rcases hz with rfl | rfl <;> simp <;> omega) (HM.out.below (go3 HB2.out HS.out.low))).mono ?_; intro e w6 hR; obtain ⟨en, A3, k3, c3, B3, m3, d3, rfl, hb, hok⟩ := hR.one; have HOK := Lib.hid hok; replace HS := HS.go2 (Below.refl _ _) hb; clear hR hok hb d0 d1 dl g0 g1 g2 g3 g4 gl; obtain ⟨d0, d1⟩ := (HS.out.get 0 rfl).c2; have dl := (HS.out.get 0 rfl).2.2; obtain ⟨g0, g1, g2, g3, g4⟩ := (HS.out.get 3 rfl).c5; have gl := (HS.out.get 3 rfl).2.2; obtain ⟨e0, e1, e2, e3, e4, e5, e6, e7, e8, e9, e10, e11, e12, e13, e14, e15, e16, e17, e18, e19, e20, e21, e22, e23⟩ := (HS.out.get 2 rfl).c24; have el := (HS.out.get 2 rfl).2.2; have ef := (HS.out.get 2 rfl).2.1)
      by_cases hen : en = 0
      · have b1 : (en == 0) = true := by simpa using hen
        obtain ⟨hbt, hk3, hrv3, hna3, recs3, hm3, hrc3, hnb3, hrl3, hsh3, _, _⟩ := HOK.out hen
        have HRN := Lib.hid (hvh.inv.rename hbt HLK.out HL4.out (x := ⟨q, 4, v.ty, v.cid, bq, p, v.num, 0⟩) (y := ⟨p, 5, v.ty, (0, 0), v.num, ⟨#[]⟩, 0, 0⟩) (by simp) (by simp) rfl rfl rfl rfl rfl rfl)
        obtain ⟨m1, m2', m3', m4, m5, m6⟩ := HRN.out
        have hvh3 := VH.app hvh hbt
        have hdp3 : Dp (rs ++ [⟨p, 5, v.ty, (0, 0), v.num, ⟨#[]⟩, 0, 0⟩, ⟨q, 4, v.ty, v.cid, bq, p, v.num, 0⟩].map (madeR n)) := hvh3.dp (hsz.app (fun z hz => by simp only [List.mem_cons, List.not_mem_nil, or_false] at hz; unfold edS; rcases hz with rfl | rfl <;> simp <;> omega)) (by rw [List.length_append]; simp; omega)
        have HNM := Lib.hid (fun W h h3 => renamed_any A2 B2 A3 B3 c2 recs.length d2 c3 m3 d3 rs (rs ++ [⟨p, 5, v.ty, (0, 0), v.num, ⟨#[]⟩, 0, 0⟩, ⟨q, 4, v.ty, v.cid, bq, p, v.num, 0⟩].map (madeR n)) p q v.num (bq + 1) n (nameR (firstR rs v)) (madeR n ⟨q, 4, v.ty, v.cid, bq, p, v.num, 0⟩) v W h hdp h3 hdp3 (by omega) (by omega) ⟨hdp.near v hl2, HNV.out⟩ ⟨hq1, hq2⟩ ⟨hbt.pos, hbt.top⟩ (by unfold idR; rw [m1]; rfl) (by unfold idR; rw [show memR (rs ++ [⟨p, 5, v.ty, (0, 0), v.num, ⟨#[]⟩, 0, 0⟩, ⟨q, 4, v.ty, v.cid, bq, p, v.num, 0⟩].map (madeR n)) q (bq + 1) = some (madeR n ⟨q, 4, v.ty, v.cid, bq, p, v.num, 0⟩) from m2']; exact congrArg some m3') m4 m5 m6 rfl rfl HL3.out rfl)
        have HRV3 := Lib.hid hrv3
        subst hk3 hen
        clear hm3 hrl3 hna3 hnb3 hrv3 hrc3 HOK HRN m1 m2' m3' m4 m5 m6 HSM HBD HC HAP hbt hvh3 hdp3 hsh3
        generalize rs ++ [⟨p, 5, v.ty, (0, 0), v.num, ⟨#[]⟩, 0, 0⟩, ⟨q, 4, v.ty, v.cid, bq, p, v.num, 0⟩].map (madeR n) = rs3 at *
        go_wp2_with (first
          | (go_at_call 29; refine (HNM.out _ (HDV.out.below (go3 HS.out.low (by repeat (first | exact Below.refl _ _ | apply Below.drew | apply below_drewN | apply below_al)))).1 (HRV3.out.below (by repeat (first | exact Below.refl _ _ | apply Below.drew | apply below_drewN | apply below_al)))).mono ?_; rintro e w7 ⟨rfl, hb⟩; replace HS := HS.go2 (by repeat (first | exact Below.refl _ _ | apply Below.drew | apply below_drewN | apply below_al)) hb; clear hb)
          | (go_at_call 12; refine (awake_any _).mono ?_; rintro e wa ⟨rfl, hb⟩; have HBA := Lib.hid hb; clear hb))
        go_ret
        exact ⟨rfl, go3 (go3 HB2.out HS.out.low) HBA.out⟩
      have b1 : (en == 0) = false := by simpa using hen
      clear hen HOK
      go_upto_region 13 with (fail)
      go_region
      generalize hw7 : ((((((((((((((((((((((((w6.setCell ⟨w5.heap.size + 1, 0, none⟩ (.string q)).setCell ⟨w5.heap.size + 1, 1, none⟩ (.int .i64 4)).setCell ⟨w5.heap.size + 1, 2, none⟩ (.int .i64 v.ty.1)).setCell ⟨w5.heap.size + 1, 3, none⟩ (.bool v.ty.2.1)).setCell ⟨w5.heap.size + 1, 4, none⟩ (.bool v.ty.2.2.1)).setCell ⟨w5.heap.size + 1, 5, none⟩ (.bool v.ty.2.2.2)).setCell ⟨w5.heap.size + 1, 6, none⟩ (.int .u64 v.cid.1)).setCell ⟨w5.heap.size + 1, 7, none⟩ (.int .i64 v.cid.2)).setCell ⟨w5.heap.size + 1, 8, none⟩ (.int .i64 bq)).setCell ⟨w5.heap.size + 1, 9, none⟩ (.string p)).setCell ⟨w5.heap.size + 1, 10, none⟩ (.int .i64 v.num)).setCell ⟨w5.heap.size + 1, 11, none⟩ (.int .i64 0)).setCell ⟨w5.heap.size + 1, 12, none⟩ (.string p)).setCell ⟨w5.heap.size + 1, 13, none⟩ (.int .i64 5)).setCell ⟨w5.heap.size + 1, 14, none⟩ (.int .i64 v.ty.1)).setCell ⟨w5.heap.size + 1, 15, none⟩ (.bool v.ty.2.1)).setCell ⟨w5.heap.size + 1, 16, none⟩ (.bool v.ty.2.2.1)).setCell ⟨w5.heap.size + 1, 17, none⟩ (.bool v.ty.2.2.2)).setCell ⟨w5.heap.size + 1, 18, none⟩ (.int .u64 0)).setCell ⟨w5.heap.size + 1, 19, none⟩ (.int .i64 0)).setCell ⟨w5.heap.size + 1, 20, none⟩ (.int .i64 v.num)).setCell ⟨w5.heap.size + 1, 21, none⟩ (.string ⟨#[]⟩)).setCell ⟨w5.heap.size + 1, 22, none⟩ (.int .i64 0)).setCell ⟨w5.heap.size + 1, 23, none⟩ (.int .i64 0)) = w7
      have HS7 : At (BB w2 [(w2.heap.size, [.slice A2 rs.length c2, .slice B2 recs.length d2]), (w5.heap.size, [.string v.path, .int .i64 v.num, .int .i64 v.chg, .int .i64 v.act, .int .i64 v.ty.1, .bool v.ty.2.1, .bool v.ty.2.2.1, .bool v.ty.2.2.2, .int .u64 v.cid.1, .int .i64 v.cid.2, .string v.frm, .int .i64 v.fnum]), (w5.heap.size + 1, [.string q, .int .i64 4, .int .i64 v.ty.1, .bool v.ty.2.1, .bool v.ty.2.2.1, .bool v.ty.2.2.2, .int .u64 v.cid.1, .int .i64 v.cid.2, .int .i64 bq, .string p, .int .i64 v.num, .int .i64 0, .string p, .int .i64 5, .int .i64 v.ty.1, .bool v.ty.2.1, .bool v.ty.2.2.1, .bool v.ty.2.2.2, .int .u64 0, .int .i64 0, .int .i64 v.num, .string ⟨#[]⟩, .int .i64 0, .int .i64 0]), (w5.heap.size + 1 + 1, [.int .i64 n, .string ⟨#[]⟩, .string ⟨#[]⟩, .slice (some ⟨w5.heap.size + 1, 0, none⟩) 2 2, .slice none 0 0])]) w7 := (show BB w2 _ w7 by
        rw [← hw7]
        have h24 := BB.swap24 (xs := [.string p, .int .i64 5, .int .i64 v.ty.1, .bool v.ty.2.1, .bool v.ty.2.2.1, .bool v.ty.2.2.2, .int .u64 0, .int .i64 0, .int .i64 v.num, .string ⟨#[]⟩, .int .i64 0, .int .i64 0]) (ys := [.string q, .int .i64 4, .int .i64 v.ty.1, .bool v.ty.2.1, .bool v.ty.2.2.1, .bool v.ty.2.2.2, .int .u64 v.cid.1, .int .i64 v.cid.2, .int .i64 bq, .string p, .int .i64 v.num, .int .i64 0]) HS.out rfl rfl (by omega) (by simp only; omega) (by simp only; omega) (by simp only; omega)
        simp only [Go.Proofs.YteagecjhpfijjaaDoor.setAll, Nat.zero_add, Nat.reduceAdd] at h24
        exact h24).at_
      clear hw7 HS d0 d1 dl g0 g1 g2 g3 g4 gl el ef b1 e0 e1 e2 e3 e4 e5 e6 e7 e8 e9 e10 e11 e12 e13 e14 e15 e16 e17 e18 e19 e20 e21 e22 e23
      have HS := (HS7.go (w' := (w7.alloc (.cells #[.slice A3 k3 c3, .slice B3 m3 d3] 28)).drew) (by repeat (first | exact Below.refl _ _ | apply Below.drew | apply below_drewN | apply below_al))).out.at_
      clear HS7
      obtain ⟨d0, d1⟩ := (HS.out.get 0 rfl).c2
      have dl := (HS.out.get 0 rfl).2.2
      obtain ⟨g0, g1, g2, g3, g4⟩ := (HS.out.get 3 rfl).c5
      have gl := (HS.out.get 3 rfl).2.2
      clear hv1 hv2
      obtain ⟨hv1, hv2⟩ := hdp.near v hl2
      go_upto_region 15 with (go_at_call 23; refine (HAP.out [⟨q, 4, v.ty, v.cid, bq, p, v.num, 0⟩, ⟨p, 5, v.ty, (0, 0), v.num, ⟨#[]⟩, 0, 0⟩] (w5.heap.size + 1) _ (HDV.out.below HS.out.low) (EV.two (x := ⟨q, 4, v.ty, v.cid, bq, p, v.num, 0⟩) (y := ⟨p, 5, v.ty, (0, 0), v.num, ⟨#[]⟩, 0, 0⟩) (HS.out.get 2 rfl)) rfl (fun z hz => by simp only [List.mem_cons, List.not_mem_nil, or_false] at hz; rcases hz with rfl | rfl <;> simp <;> omega) (HM.out.below (go3 HB2.out HS.out.low))).mono ?_; intro e w6 hR; obtain ⟨en, A3, k3, c3, B3, m3, d3, rfl, hb, hok⟩ := hR.one; have HOK := Lib.hid hok; replace HS := HS.go2 (Below.refl _ _) hb; clear hR hok hb d0 d1 dl g0 g1 g2 g3 g4 gl; obtain ⟨d0, d1⟩ := (HS.out.get 0 rfl).c2; have dl := (HS.out.get 0 rfl).2.2; obtain ⟨g0, g1, g2, g3, g4⟩ := (HS.out.get 3 rfl).c5; have gl := (HS.out.get 3 rfl).2.2; obtain ⟨e0, e1, e2, e3, e4, e5, e6, e7, e8, e9, e10, e11, e12, e13, e14, e15, e16, e17, e18, e19, e20, e21, e22, e23⟩ := (HS.out.get 2 rfl).c24; have el := (HS.out.get 2 rfl).2.2; have ef := (HS.out.get 2 rfl).2.1)
      by_cases hen : en = 0
      · have b1 : (en == 0) = true := by simpa using hen
        obtain ⟨hbt, hk3, hrv3, hna3, recs3, hm3, hrc3, hnb3, hrl3, hsh3, _, _⟩ := HOK.out hen
        have HRN := Lib.hid (hvh.inv.rename hbt HLK.out HL4.out (x := ⟨q, 4, v.ty, v.cid, bq, p, v.num, 0⟩) (y := ⟨p, 5, v.ty, (0, 0), v.num, ⟨#[]⟩, 0, 0⟩) (by simp) (by simp) rfl rfl rfl rfl rfl rfl)
        obtain ⟨m1, m2', m3', m4, m5, m6⟩ := HRN.out
        have hvh3 := VH.app hvh hbt
        have hdp3 : Dp (rs ++ [⟨q, 4, v.ty, v.cid, bq, p, v.num, 0⟩, ⟨p, 5, v.ty, (0, 0), v.num, ⟨#[]⟩, 0, 0⟩].map (madeR n)) := hvh3.dp (hsz.app (fun z hz => by simp only [List.mem_cons, List.not_mem_nil, or_false] at hz; unfold edS; rcases hz with rfl | rfl <;> simp <;> omega)) (by rw [List.length_append]; simp; omega)
        have HNM := Lib.hid (fun W h h3 => renamed_any A2 B2 A3 B3 c2 recs.length d2 c3 m3 d3 rs (rs ++ [⟨q, 4, v.ty, v.cid, bq, p, v.num, 0⟩, ⟨p, 5, v.ty, (0, 0), v.num, ⟨#[]⟩, 0, 0⟩].map (madeR n)) p q v.num (bq + 1) n (nameR (firstR rs v)) (madeR n ⟨q, 4, v.ty, v.cid, bq, p, v.num, 0⟩) v W h hdp h3 hdp3 (by omega) (by omega) ⟨hdp.near v hl2, HNV.out⟩ ⟨hq1, hq2⟩ ⟨hbt.pos, hbt.top⟩ (by unfold idR; rw [m1]; rfl) (by unfold idR; rw [show memR (rs ++ [⟨q, 4, v.ty, v.cid, bq, p, v.num, 0⟩, ⟨p, 5, v.ty, (0, 0), v.num, ⟨#[]⟩, 0, 0⟩].map (madeR n)) q (bq + 1) = some (madeR n ⟨q, 4, v.ty, v.cid, bq, p, v.num, 0⟩) from m2']; exact congrArg some m3') m4 m5 m6 rfl rfl HL3.out rfl)
        have HRV3 := Lib.hid hrv3
        subst hk3 hen
        clear hm3 hrl3 hna3 hnb3 hrv3 hrc3 HOK HRN m1 m2' m3' m4 m5 m6 HSM HBD HC HAP hbt hvh3 hdp3 hsh3
        generalize rs ++ [⟨q, 4, v.ty, v.cid, bq, p, v.num, 0⟩, ⟨p, 5, v.ty, (0, 0), v.num, ⟨#[]⟩, 0, 0⟩].map (madeR n) = rs3 at *
        go_wp2_with (first
          | (go_at_call 29; refine (HNM.out _ (HDV.out.below (go3 HS.out.low (by repeat (first | exact Below.refl _ _ | apply Below.drew | apply below_drewN | apply below_al)))).1 (HRV3.out.below (by repeat (first | exact Below.refl _ _ | apply Below.drew | apply below_drewN | apply below_al)))).mono ?_; rintro e w7 ⟨rfl, hb⟩; replace HS := HS.go2 (by repeat (first | exact Below.refl _ _ | apply Below.drew | apply below_drewN | apply below_al)) hb; clear hb)
          | (go_at_call 12; refine (awake_any _).mono ?_; rintro e wa ⟨rfl, hb⟩; have HBA := Lib.hid hb; clear hb))
        go_ret
        exact ⟨rfl, go3 (go3 HB2.out HS.out.low) HBA.out⟩
      have b1 : (en == 0) = false := by simpa using hen
      clear hen HOK
      go_wp2_with (go_at_call 12; refine (awake_any _).mono ?_; rintro e wa ⟨rfl, hb⟩; have HBA := Lib.hid hb; clear hb)
      go_ret
      exact ⟨rfl, go3 (go3 HB2.out (by first | exact HS.out.low | exact below_al HS.out.low _ | exact below_al (below_al HS.out.low _) _)) HBA.out⟩
end Go.Proofs.YteagecjhpfijjaaDoor

