/-
  The walk of the reference's First.
-/
import Derived.Test.YteagecjhpfijjaaDoorV6
namespace Go.Proofs.YteagecjhpfijjaaDoor
set_option linter.unusedSimpArgs false
set_option linter.unusedVariables false
open Go.RowKit

theorem BX.otherAll : ∀ (ys : List Value) {w : World} {g g' i : Nat} {cs : List Value}, BX w g cs → g' ≠ g → BX (Go.Proofs.YteagecjhpfijjaaDoor.setAll w g' i ys) g cs
  | [], _, _, _, _, _, h, _ => h
  | y :: ys, w, g, g', i, cs, h, hn => BX.otherAll ys (h.other (p := ⟨g', i, none⟩) hn y) hn
theorem BX.other12 {w : World} {g g' : Nat} {cs : List Value} (h : BX w g cs) (hn : g' ≠ g) (y0 y1 y2 y3 y4 y5 y6 y7 y8 y9 y10 y11 : Value) : BX ((((((((((((w.setCell ⟨g', 0, none⟩ y0).setCell ⟨g', 1, none⟩ y1).setCell ⟨g', 2, none⟩ y2).setCell ⟨g', 3, none⟩ y3).setCell ⟨g', 4, none⟩ y4).setCell ⟨g', 5, none⟩ y5).setCell ⟨g', 6, none⟩ y6).setCell ⟨g', 7, none⟩ y7).setCell ⟨g', 8, none⟩ y8).setCell ⟨g', 9, none⟩ y9).setCell ⟨g', 10, none⟩ y10).setCell ⟨g', 11, none⟩ y11) g cs :=
  BX.otherAll [y0, y1, y2, y3, y4, y5, y6, y7, y8, y9, y10, y11] (i := 0) h hn
/-- a line's name comes back -/
def RetF (w : World) (f : Rv) (e : Ending) (w' : World) : Prop := e = .returned (.agg #[.string f.path, .int .i64 f.num]) ∧ Below w.heap.size w w'
theorem fst_none {rs : List Rv} {g : Nat} {u : Rv} (h : prevR rs u = none) : fstF rs g u = u := by
  cases g with
  | zero => rfl
  | succ g => unfold fstF; rw [h]
theorem fst_stop {rs : List Rv} {g : Nat} {u x : Rv} (h : prevR rs u = some x) (hc : u.chg ≤ x.chg) : fstF rs g u = u := by
  cases g with
  | zero => rfl
  | succ g => unfold fstF; rw [h]; simp only; rw [if_pos hc]
theorem fst_go {rs : List Rv} {g : Nat} {u x : Rv} (h : prevR rs u = some x) (hc : ¬ u.chg ≤ x.chg) (hb : belowR rs u < g) : fstF rs g u = fstF rs (g - 1) x ∧ belowR rs x < g - 1 := by
  have := belowR_lt (v := u) (prevR_mem h) (by omega)
  cases g with
  | zero => omega
  | succ g =>
    refine ⟨?_, by omega⟩
    conv => lhs; unfold fstF
    rw [h]
    simp only
    rw [if_neg hc]
    rfl
set_option maxHeartbeats 4000000 in
set_option maxRecDepth 100000 in
theorem first_any (A B : Option Addr) (c m d : Nat) (rs : List Rv) (v : Rv) (w : World) (h : RV w A c rs) (hl : rs.length ≤ 100000) (hr : ∀ u ∈ rs, nearN u.num) (hv : nearN v.num) :
    Calls Tryd.prog 36 #[.agg #[.slice A rs.length c, .slice B m d], aggR v] w (RetF w (firstR rs v)) := by
  have HR := Lib.hid h
  have HRN := Lib.hid hr
  have HVN := Lib.hid hv
  have HST : Hid (fstF rs (rs.length + 1) v = firstR rs v) := Lib.hid rfl
  have HBL : Hid (belowR rs v < rs.length + 1) := Lib.hid (by have := belowR_le rs v; omega)
  have HPA := Lib.hid (fun u (hu : nearN u.num) W h => previous_any A B c m d rs u W h hl hu)
  clear h hr hv
  generalize firstR rs v = f at *
  unfold aggR
  have HD := Lib.hid ((BX.new w [.slice A rs.length c, .slice B m d] 28 rfl).below (below_two _ (.cells #[.string v.path, .int .i64 v.num, .int .i64 v.chg, .int .i64 v.act, .int .i64 v.ty.1, .bool v.ty.2.1, .bool v.ty.2.2.1, .bool v.ty.2.2.2, .int .u64 v.cid.1, .int .i64 v.cid.2, .string v.frm, .int .i64 v.fnum] 40) (.cells #[.string ⟨#[]⟩, .int .i64 0] 31)))
  have HV := Lib.hid ((BX.new (w.alloc (.cells #[.slice A rs.length c, .slice B m d] 28)) (revV v) 40 (g := w.heap.size + 1) (by simp)).below (below_alloc _ (.cells #[.string ⟨#[]⟩, .int .i64 0] 31)))
  have HF := Lib.hid (BX.new ((w.alloc (.cells #[.slice A rs.length c, .slice B m d] 28)).alloc (.cells (revV v).toArray 40)) [.string ⟨#[]⟩, .int .i64 0] 31 (g := w.heap.size + 1 + 1) (by simp))
  go_enter Tryd.func36, Tryd.ntmps36
  go_wp2_with fail
  go_loopg [6] (rs.length + 1) (fun g s6 wx => ∃ u : Rv, Hid (fstF rs g u = f) ∧ Hid (belowR rs u < g) ∧ Hid (nearN u.num) ∧ Hid (BX wx w.heap.size [.slice A rs.length c, .slice B m d]) ∧ Hid (BX wx (w.heap.size + 1) (revV u)) ∧ Hid (BX wx (w.heap.size + 1 + 1) [.string ⟨#[]⟩, .int .i64 0]) ∧ Hid (Below w.heap.size w wx))
  case atStart => exact ⟨v, HST, HBL, HVN, HD, HV, HF, Lib.hid (below_three _ _ _ _)⟩
  case round =>
    clear HST HBL HVN HD HV HF
    obtain ⟨u, HFS, HBL, HUN, HD, HV, HF, HB⟩ := hrel
    have HPV := Lib.hid (HPA.out u HUN.out)
    unfold RetOR at HPV
    obtain ⟨x0, x1, x2, x3, x4, x5, x6, x7, x8, x9, x10, x11⟩ := HV.out.rev
    have d0 := HD.out.1 0 _ rfl
    have d1 := HD.out.1 1 _ rfl
    unfold aggR at HPV
    cases hp : prevR rs u with
    | none =>
      rw [hp] at HPV
      simp only [Option.getD_none, Option.isSome_none] at HPV
      unfold rv0 at HPV
      have HFN : Hid (f = u) := Lib.hid (by rw [← HFS.out, fst_none hp])
      clear hp
      go_wp2_with (go_at_call 38; refine (HPV.out _ (HR.out.below HB.out)).mono ?_; rintro e w1 ⟨rfl, hb⟩; have HB1 := Lib.hid (go3 HB.out hb); have HD1 := Lib.hid (HD.out.below hb); have HV1 := Lib.hid (HV.out.below hb); have HF1 := Lib.hid (HF.out.below hb); have f0 := HF1.out.1 0 _ rfl; have f1 := HF1.out.1 1 _ rfl; have ff := HF1.out.2.1; have q1 := HF1.out.2.2; have q2 := HV1.out.2.2; obtain ⟨z0, z1, z2, z3, z4, z5, z6, z7, z8, z9, z10, z11⟩ := HV1.out.rev; have zf := HV1.out.2.1; have ne1 : ¬ w.heap.size + 1 + 1 = w1.heap.size := (by omega); have ne2 : ¬ w1.heap.size = w.heap.size + 1 + 1 := (by omega); have ne3 : ¬ w.heap.size + 1 = w1.heap.size := (by omega); have ne4 : ¬ w1.heap.size = w.heap.size + 1 := (by omega); clear hb)
      refine bodyPost_ret (v := .agg #[.string u.path, .int .i64 u.num]) (by simp [results, Tryd.results36, go_sem, f0, f1, ne1, ne2, q1]) rfl ?_
      exact ⟨by rw [HFN.out], below_al ((HB1.out.setCell (p := ⟨w.heap.size + 1 + 1, 0, none⟩) (by simp only; omega) _).setCell (p := ⟨w.heap.size + 1 + 1, 1, none⟩) (by simp only; omega) _) _⟩
    | some x =>
      rw [hp] at HPV
      simp only [Option.getD_some, Option.isSome_some] at HPV
      by_cases hc : u.chg ≤ x.chg
      · have HFN : Hid (f = u) := Lib.hid (by rw [← HFS.out, fst_stop hp hc])
        clear hp
        go_wp2_with (go_at_call 38; refine (HPV.out _ (HR.out.below HB.out)).mono ?_; rintro e w1 ⟨rfl, hb⟩; have HB1 := Lib.hid (go3 HB.out hb); have HD1 := Lib.hid (HD.out.below hb); have HV1 := Lib.hid (HV.out.below hb); have HF1 := Lib.hid (HF.out.below hb); have f0 := HF1.out.1 0 _ rfl; have f1 := HF1.out.1 1 _ rfl; have ff := HF1.out.2.1; have q1 := HF1.out.2.2; have q2 := HV1.out.2.2; obtain ⟨z0, z1, z2, z3, z4, z5, z6, z7, z8, z9, z10, z11⟩ := HV1.out.rev; have zf := HV1.out.2.1; have ne1 : ¬ w.heap.size + 1 + 1 = w1.heap.size := (by omega); have ne2 : ¬ w1.heap.size = w.heap.size + 1 + 1 := (by omega); have ne3 : ¬ w.heap.size + 1 = w1.heap.size := (by omega); have ne4 : ¬ w1.heap.size = w.heap.size + 1 := (by omega); clear hb)
        refine bodyPost_ret (v := .agg #[.string u.path, .int .i64 u.num]) (by simp [results, Tryd.results36, go_sem, f0, f1, ne1, ne2, q1]) rfl ?_
        exact ⟨by rw [HFN.out], below_al ((HB1.out.setCell (p := ⟨w.heap.size + 1 + 1, 0, none⟩) (by simp only; omega) _).setCell (p := ⟨w.heap.size + 1 + 1, 1, none⟩) (by simp only; omega) _) _⟩
      · have HGO := Lib.hid (fst_go hp hc HBL.out)
        have HXN := Lib.hid (HRN.out x (prevR_mem hp))
        have HGK := HBL.out
        clear hp
        go_wp2_with (go_at_call 38; refine (HPV.out _ (HR.out.below HB.out)).mono ?_; rintro e w1 ⟨rfl, hb⟩; have HB1 := Lib.hid (go3 HB.out hb); have HD1 := Lib.hid (HD.out.below hb); have HV1 := Lib.hid (HV.out.below hb); have HF1 := Lib.hid (HF.out.below hb); have f0 := HF1.out.1 0 _ rfl; have f1 := HF1.out.1 1 _ rfl; have ff := HF1.out.2.1; have q1 := HF1.out.2.2; have q2 := HV1.out.2.2; obtain ⟨z0, z1, z2, z3, z4, z5, z6, z7, z8, z9, z10, z11⟩ := HV1.out.rev; have zf := HV1.out.2.1; have ne1 : ¬ w.heap.size + 1 + 1 = w1.heap.size := (by omega); have ne2 : ¬ w1.heap.size = w.heap.size + 1 + 1 := (by omega); have ne3 : ¬ w.heap.size + 1 = w1.heap.size := (by omega); have ne4 : ¬ w1.heap.size = w.heap.size + 1 := (by omega); clear hb)
        go_roundg (gk - 1)
        case measure => omega
        case rel => exact ⟨x, Lib.hid (by rw [← HFS.out, HGO.out.1]), Lib.hid HGO.out.2, HXN, Lib.hid ((HD1.out.other12 (by omega) _ _ _ _ _ _ _ _ _ _ _ _).below (below_alloc _ _)), Lib.hid ((HV1.out.put12 rfl _ _ _ _ _ _ _ _ _ _ _ _).below (below_alloc _ _)), Lib.hid ((HF1.out.other12 (by omega) _ _ _ _ _ _ _ _ _ _ _ _).below (below_alloc _ _)), Lib.hid (below_al (below12 HB1.out (by omega) _ _ _ _ _ _ _ _ _ _ _ _) _)⟩
end Go.Proofs.YteagecjhpfijjaaDoor

