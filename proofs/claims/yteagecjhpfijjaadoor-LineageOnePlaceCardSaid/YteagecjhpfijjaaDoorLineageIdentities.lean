/-
  LineageIdentities returns true.
-/
import Derived.Test.YteagecjhpfijjaaDoorV34
import Derived.Test.YteagecjhpfijjaaDoorV23
namespace Go.Proofs.YteagecjhpfijjaaDoor
set_option linter.unusedSimpArgs false
set_option linter.unusedVariables false
open Go.RowKit Go.WideShapes

/-- a depot that Build hands back, in small form -/
theorem RetB.dp {w : World} {ls : List Cg} {e : Ending} {w' : World} (h : RetB w ls e w') (hs : smallL ls) : ∃ (rs : List Rv) (A : Option Addr) (c : Nat) (B : Option Addr) (m d : Nat), e = .returned (.agg #[.slice A rs.length c, .slice B m d]) ∧ RV w' A c rs ∧ Dp rs ∧ Below w.heap.size w w' := by
  obtain ⟨rs, recs, A, c, B, d, h1, h2, h3, h4, h5, h6⟩ := h
  have := hs.2.2
  exact ⟨rs, A, c, B, _, d, h1, h2.1, h3.dp h4 (by omega), h6⟩
set_option maxHeartbeats 8000000 in
set_option maxRecDepth 100000 in
theorem lineageIdentities_any (A : Option Addr) (c : Nat) (ls : List Cg) (p : ByteArray) (n : Int) (w : World) (h : CV w A c ls) (hnil : NilC A c) (hr : CgR ls) (hlen : ls.length ≤ 3000000000000) (hp : p.size ≤ maxLen) (hn : (Lit.int .i64 n).wf = true) (hsh : w.ShapedOpen Tryd.prog) :
    Calls Tryd.prog 3 #[.slice A ls.length c, .string p, .int .i64 n] w fun e w' => e = .returned (.bool true) ∧ Below w.heap.size w w' := by
  have HC := Lib.hid h
  have HM := Lib.hid (ML.of hsh)
  have HSM := Lib.hid (fun W h => small_any A c ls W h hr)
  have HBD := Lib.hid (fun W h hs hm => build_any A c ls W h hs hm)
  have HN := Lib.hid hn
  unfold RetS at HSM
  have hp' : p.size ≤ 9223372036854775807 := hp
  clear h hr hn hp hsh
  go_enter Tryd.func3, Tryd.ntmps3
  go_wp2_with (first
    | (go_at_call 11; refine (HSM.out _ HC.out).mono ?_; rintro e w1 ⟨q, rfl, hq, hb⟩; have HQ := Lib.hid hq; have HB := Lib.hid hb; clear hb hq)
    | (go_at_call 12; refine (awake_any _).mono ?_; rintro e wa ⟨rfl, hb⟩; have HBA := Lib.hid hb; clear hb))
  all_goals (first | (go_ret; exact ⟨rfl, go3 HB.out HBA.out⟩) | skip)
  refine (HBD.out _ (HC.out.below HB.out) (HQ.out (by assumption)) (HM.out.below HB.out)).mono ?_
  rintro e w2 hR
  obtain ⟨rs, A2, c2, B2, m2, d2, rfl, hrv, hdp, hb⟩ := hR.dp (HQ.out (by assumption))
  have HB2 := Lib.hid (go3 HB.out hb)
  have HR2 := Lib.hid hrv
  have HID := Lib.hid (fun W h => lidentity_any A2 B2 c2 m2 d2 rs p n W h hdp (by omega) HN.out)
  have HRI := Lib.hid (fun W h => ridentity_any A2 B2 c2 m2 d2 rs p n W h (Nat.le_trans hdp.len (by decide)) hdp.near)
  have HPV := Lib.hid (fun W h => lprevious_any A2 B2 c2 m2 d2 rs p n W h hdp (by omega) HN.out)
  have HRP := Lib.hid (fun W h => rprevious_any A2 B2 c2 m2 d2 rs p n W h (Nat.le_trans hdp.len (by decide)) hdp.near)
  unfold RetOF at HID HRI
  unfold RetOR at HPV HRP
  generalize idR rs p n = io at *
  generalize prevN rs p n = po at *
  generalize io.getD (⟨#[]⟩, 0) = f at *
  generalize io.isSome = fq at *
  generalize po.getD rv0 = v at *
  generalize po.isSome = vq at *
  have hfe := (fun w => file_eq f.1 f.1 f.2 f.2 w)
  simp only [show fileB f.1 f.1 f.2 f.2 = true from (fileB_iff _ _ _ _).2 rfl] at hfe
  have hre := (fun w => rev_eq v v w)
  simp only [show revB v v = true from (revB_iff v v).2 rfl] at hre
  unfold aggR at HPV HRP hre
  have HS : At (BB w [(w2.heap.size, [.slice A2 rs.length c2, .slice B2 m2 d2])]) (w2.alloc (.cells #[.slice A2 rs.length c2, .slice B2 m2 d2] 28)) := (BB.push (l := []) (show BB w [] w2 from ⟨(fun p hp => by cases hp), HB2.out⟩) [.slice A2 rs.length c2, .slice B2 m2 d2] 28 rfl).at_
  replace HR2 := Lib.hid (HR2.out.below (below_alloc _ (.cells #[.slice A2 rs.length c2, .slice B2 m2 d2] 28)))
  clear hR hrv hb
  go_wp2_with (first
    | (go_at_call 12; refine (awake_any _).mono ?_; rintro e wa ⟨rfl, hb⟩; have HBA := Lib.hid hb; clear hb)
    | (go_at_call 14; refine (HID.out _ (HR2.out.below (by repeat (first | exact Below.refl _ _ | apply Below.drew | apply below_drewN | apply below_al)))).mono ?_; rintro e w3 ⟨rfl, hb⟩; replace HR2 := Lib.hid (HR2.out.below (go3 (by repeat (first | exact Below.refl _ _ | apply Below.drew | apply below_drewN | apply below_al)) hb)); replace HS := HS.go2 (Below.refl _ _) hb; clear hb; obtain ⟨d0, d1⟩ := (HS.out.get 0 rfl).c2; have dl := (HS.out.get 0 rfl).2.2; replace HS := (HS.out.push [.string f.1, .int .i64 f.2] 31 (g := w3.heap.size) rfl).at_; replace HR2 := Lib.hid (HR2.out.below (below_alloc _ (.cells #[.string f.1, .int .i64 f.2] 31))))
    | (go_at_call 15; refine (HRI.out _ (HR2.out.below (by repeat (first | exact Below.refl _ _ | apply Below.drew | apply below_drewN | apply below_al)))).mono ?_; rintro e w4 ⟨rfl, hb⟩; replace HR2 := Lib.hid (HR2.out.below (go3 (by repeat (first | exact Below.refl _ _ | apply Below.drew | apply below_drewN | apply below_al)) hb)); replace HS := HS.go2 (Below.refl _ _) hb; clear hb; obtain ⟨d0, d1⟩ := (HS.out.get 0 rfl).c2; have dl := (HS.out.get 0 rfl).2.2; obtain ⟨q0, q1⟩ := (HS.out.get 1 rfl).c2; have ql := (HS.out.get 1 rfl).2.2; replace HS := (HS.out.push [.string f.1, .int .i64 f.2] 31 (g := w4.heap.size) rfl).at_; replace HR2 := Lib.hid (HR2.out.below (below_alloc _ (.cells #[.string f.1, .int .i64 f.2] 31))))
    | (go_at_call 16; refine (HPV.out _ (HR2.out.below (by repeat (first | exact Below.refl _ _ | apply Below.drew | apply below_drewN | apply below_al)))).mono ?_; rintro e w5 ⟨rfl, hb⟩; replace HR2 := Lib.hid (HR2.out.below (go3 (by repeat (first | exact Below.refl _ _ | apply Below.drew | apply below_drewN | apply below_al)) hb)); replace HS := HS.go2 (Below.refl _ _) hb; clear hb; obtain ⟨d0, d1⟩ := (HS.out.get 0 rfl).c2; have dl := (HS.out.get 0 rfl).2.2; replace HS := (HS.out.push [.string v.path, .int .i64 v.num, .int .i64 v.chg, .int .i64 v.act, .int .i64 v.ty.1, .bool v.ty.2.1, .bool v.ty.2.2.1, .bool v.ty.2.2.2, .int .u64 v.cid.1, .int .i64 v.cid.2, .string v.frm, .int .i64 v.fnum] 40 (g := w5.heap.size) rfl).at_; replace HR2 := Lib.hid (HR2.out.below (below_alloc _ (.cells #[.string v.path, .int .i64 v.num, .int .i64 v.chg, .int .i64 v.act, .int .i64 v.ty.1, .bool v.ty.2.1, .bool v.ty.2.2.1, .bool v.ty.2.2.2, .int .u64 v.cid.1, .int .i64 v.cid.2, .string v.frm, .int .i64 v.fnum] 40))))
    | (go_at_call 17; refine (HRP.out _ (HR2.out.below (by repeat (first | exact Below.refl _ _ | apply Below.drew | apply below_drewN | apply below_al)))).mono ?_; rintro e w6 ⟨rfl, hb⟩; replace HR2 := Lib.hid (HR2.out.below (go3 (by repeat (first | exact Below.refl _ _ | apply Below.drew | apply below_drewN | apply below_al)) hb)); replace HS := HS.go2 (Below.refl _ _) hb; clear hb; obtain ⟨d0, d1⟩ := (HS.out.get 0 rfl).c2; have dl := (HS.out.get 0 rfl).2.2; obtain ⟨z0, z1, z2, z3, z4, z5, z6, z7, z8, z9, z10, z11⟩ := (HS.out.get 3 rfl).rev; have zl := (HS.out.get 3 rfl).2.2))
  go_ret
  exact ⟨rfl, go3 (below_al HS.out.low _) HBA.out⟩
end Go.Proofs.YteagecjhpfijjaaDoor

