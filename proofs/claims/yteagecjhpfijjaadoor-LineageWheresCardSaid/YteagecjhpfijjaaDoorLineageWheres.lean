/-
  LineageWheres returns true.
-/
import Derived.Test.YteagecjhpfijjaaDoorLineageIdentities
namespace Go.Proofs.YteagecjhpfijjaaDoor
set_option linter.unusedSimpArgs false
set_option linter.unusedVariables false
open Go.RowKit Go.WideShapes

set_option maxHeartbeats 8000000 in
set_option maxRecDepth 100000 in
theorem lineageWheres_any (A : Option Addr) (c : Nat) (ls : List Cg) (p : ByteArray) (n ch : Int) (w : World) (h : CV w A c ls) (hnil : NilC A c) (hr : CgR ls) (hlen : ls.length ≤ 3000000000000) (hp : p.size ≤ maxLen) (hn : (Lit.int .i64 n).wf = true) (hch : (Lit.int .i64 ch).wf = true) (hsh : w.ShapedOpen Tryd.prog) :
    Calls Tryd.prog 8 #[.slice A ls.length c, .agg #[.string p, .int .i64 n], .int .i64 ch] w fun e w' => e = .returned (.bool true) ∧ Below w.heap.size w w' := by
  have HC := Lib.hid h
  have HM := Lib.hid (ML.of hsh)
  have HSM := Lib.hid (fun W h => small_any A c ls W h hr)
  have HBD := Lib.hid (fun W h hs hm => build_any A c ls W h hs hm)
  unfold RetS at HSM
  have hp' : p.size ≤ 9223372036854775807 := hp
  have HS : At (BB w [(w.heap.size, [.string p, .int .i64 n])]) (w.alloc (.cells #[.string p, .int .i64 n] 31)) := ((BB.nil w).push [.string p, .int .i64 n] 31 rfl).at_
  clear h hr hn hp hsh
  go_enter Tryd.func8, Tryd.ntmps8
  go_wp2_with (first
    | (go_at_call 11; refine (HSM.out _ (HC.out.below (below_alloc _ _))).mono ?_; rintro e w1 ⟨q, rfl, hq, hb⟩; have HQ := Lib.hid hq; replace HS := HS.go2 (Below.refl _ _) hb; have HB := Lib.hid HS.out.low; obtain ⟨f0, f1⟩ := (HS.out.get 0 rfl).c2; clear hb hq)
    | (go_at_call 12; refine (awake_any _).mono ?_; rintro e wa ⟨rfl, hb⟩; have HBA := Lib.hid hb; clear hb))
  all_goals (first | (go_ret; exact ⟨rfl, go3 HB.out HBA.out⟩) | skip)
  refine (HBD.out _ (HC.out.below HB.out) (HQ.out (by assumption)) (HM.out.below HB.out)).mono ?_
  rintro e w2 hR
  obtain ⟨rs, A2, c2, B2, m2, d2, rfl, hrv, hdp, hb⟩ := hR.dp (HQ.out (by assumption))
  have HR2 := Lib.hid hrv
  have HLW := Lib.hid (fun W h => lwhere_any A2 B2 c2 m2 d2 rs p n ch W h hdp)
  have HRW := Lib.hid (fun W h => rwhere_any A2 B2 c2 m2 d2 rs p n ch W h hdp)
  unfold RetOR at HLW HRW
  generalize whereR rs (p, n) ch = po at *
  generalize po.getD rv0 = v at *
  generalize po.isSome = vq at *
  have hre := (fun w => rev_eq v v w)
  simp only [show revB v v = true from (revB_iff v v).2 rfl] at hre
  unfold aggR at HLW HRW hre
  replace HS := ((HS.go2 (Below.refl _ _) hb).out.push [.slice A2 rs.length c2, .slice B2 m2 d2] 28 (g := w2.heap.size) rfl).at_
  replace HR2 := Lib.hid (HR2.out.below (below_alloc _ (.cells #[.slice A2 rs.length c2, .slice B2 m2 d2] 28)))
  clear hR hrv hb f0 f1
  obtain ⟨f0, f1⟩ := (HS.out.get 0 rfl).c2
  go_wp2_with (first
    | (go_at_call 12; refine (awake_any _).mono ?_; rintro e wa ⟨rfl, hb⟩; have HBA := Lib.hid hb; clear hb)
    | (go_at_call 25; refine (HLW.out _ (HR2.out.below (by repeat (first | exact Below.refl _ _ | apply Below.drew | apply below_drewN | apply below_al)))).mono ?_; rintro e w5 ⟨rfl, hb⟩; replace HR2 := Lib.hid (HR2.out.below (go3 (by repeat (first | exact Below.refl _ _ | apply Below.drew | apply below_drewN | apply below_al)) hb)); replace HS := HS.go2 (Below.refl _ _) hb; clear hb; obtain ⟨f0, f1⟩ := (HS.out.get 0 rfl).c2; have fl := (HS.out.get 0 rfl).2.2; obtain ⟨d0, d1⟩ := (HS.out.get 1 rfl).c2; have dl := (HS.out.get 1 rfl).2.2; replace HS := (HS.out.push [.string v.path, .int .i64 v.num, .int .i64 v.chg, .int .i64 v.act, .int .i64 v.ty.1, .bool v.ty.2.1, .bool v.ty.2.2.1, .bool v.ty.2.2.2, .int .u64 v.cid.1, .int .i64 v.cid.2, .string v.frm, .int .i64 v.fnum] 40 (g := w5.heap.size) rfl).at_; replace HR2 := Lib.hid (HR2.out.below (below_alloc _ (.cells #[.string v.path, .int .i64 v.num, .int .i64 v.chg, .int .i64 v.act, .int .i64 v.ty.1, .bool v.ty.2.1, .bool v.ty.2.2.1, .bool v.ty.2.2.2, .int .u64 v.cid.1, .int .i64 v.cid.2, .string v.frm, .int .i64 v.fnum] 40))))
    | (go_at_call 26; refine (HRW.out _ (HR2.out.below (by repeat (first | exact Below.refl _ _ | apply Below.drew | apply below_drewN | apply below_al)))).mono ?_; rintro e w6 ⟨rfl, hb⟩; replace HR2 := Lib.hid (HR2.out.below (go3 (by repeat (first | exact Below.refl _ _ | apply Below.drew | apply below_drewN | apply below_al)) hb)); replace HS := HS.go2 (Below.refl _ _) hb; clear hb; obtain ⟨f0, f1⟩ := (HS.out.get 0 rfl).c2; have fl := (HS.out.get 0 rfl).2.2; obtain ⟨d0, d1⟩ := (HS.out.get 1 rfl).c2; have dl := (HS.out.get 1 rfl).2.2; obtain ⟨z0, z1, z2, z3, z4, z5, z6, z7, z8, z9, z10, z11⟩ := (HS.out.get 2 rfl).rev; have zl := (HS.out.get 2 rfl).2.2))
  go_ret
  exact ⟨rfl, go3 (below_al HS.out.low _) HBA.out⟩
end Go.Proofs.YteagecjhpfijjaaDoor

