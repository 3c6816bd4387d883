/-
  The walks of the reference's Previous and First.
-/
import Derived.Test.YteagecjhpfijjaaDoorV5
import Derived.Deep.LoopGhost
namespace Go.Proofs.YteagecjhpfijjaaDoor
set_option linter.unusedSimpArgs false
set_option linter.unusedVariables false
open Go.RowKit

/-- a number that is no matter of limits -/
def nearN (n : Int) : Prop := -1000000000 ≤ n ∧ n ≤ 1000000000
theorem below_three (w : World) (x y z : Obj) : Below w.heap.size w (((w.alloc x).alloc y).alloc z) := below_al (below_two _ _ _) _
set_option maxHeartbeats 2000000 in
set_option maxRecDepth 100000 in
theorem previous_any (A B : Option Addr) (c m d : Nat) (rs : List Rv) (v : Rv) (w : World) (h : RV w A c rs) (hl : rs.length ≤ 100000) (hv : nearN v.num) :
    Calls Tryd.prog 38 #[.agg #[.slice A rs.length c, .slice B m d], aggR v] w (RetOR w (prevR rs v)) := by
  have HR := Lib.hid h
  obtain ⟨n1, n2⟩ := hv
  unfold aggR
  by_cases h1 : v.act = 1
  · have HO : Hid (prevR rs v = none) := Lib.hid (by unfold prevR; rw [if_pos h1])
    have b1 : (v.act == 1) = true := by simpa using h1
    clear h1 h
    go_enter Tryd.func38, Tryd.ntmps38
    go_wp2_with fail
    refine bodyPost_ret (v := .tuple #[aggR rv0, .bool false]) (by simp [results, Tryd.results38, go_sem]; rfl) rfl ?_
    exact ⟨by rw [HO.out]; rfl, below_three _ _ _ _⟩
  · have b1 : (v.act == 1) = false := by simpa using h1
    by_cases h4 : v.act = 4
    · have HO : Hid (prevR rs v = getR rs v.frm v.fnum) := Lib.hid (by unfold prevR; rw [if_neg h1, if_pos h4])
      have b4 : (v.act == 4) = true := by simpa using h4
      have HGT := Lib.hid (fun W h => get_any A B c m d rs v.frm v.fnum W h hl)
      unfold RetOR at HGT
      generalize getR rs v.frm v.fnum = o at *
      unfold aggR at HGT
      clear h1 h4 h hl
      go_enter Tryd.func38, Tryd.ntmps38
      have HBX := Lib.hid (BX.new ((w.alloc (.cells #[.slice A rs.length c, .slice B m d] 28)).alloc (.cells #[.string v.path, .int .i64 v.num, .int .i64 v.chg, .int .i64 v.act, .int .i64 v.ty.1, .bool v.ty.2.1, .bool v.ty.2.2.1, .bool v.ty.2.2.2, .int .u64 v.cid.1, .int .i64 v.cid.2, .string v.frm, .int .i64 v.fnum] 40)) zeroV 40 (g := w.heap.size + 1 + 1) (by simp))
      go_wp2_with (go_at_call 49; refine (HGT.out _ (HR.out.below (below_three _ _ _ _))).mono ?_; rintro e w1 ⟨rfl, hb⟩; have HB1 := Lib.hid (go3 (below_three _ _ _ _) hb); have HX1 := Lib.hid (HBX.out.below hb); clear hb; obtain ⟨v0, v1, v2, v3, v4, v5, v6, v7, v8, v9, v10, v11⟩ := (show At12 _ (w.heap.size + 1 + 1) 0 rv0 from HX1.out.rev); have vf := HX1.out.2.1)
      refine bodyPost_ret (v := .tuple #[aggR (o.getD rv0), .bool o.isSome]) (by simp [results, Tryd.results38, go_sem, v0, v1, v2, v3, v4, v5, v6, v7, v8, v9, v10, v11]; rfl) rfl ?_
      exact ⟨by rw [HO.out], below12 HB1.out (by omega) _ _ _ _ _ _ _ _ _ _ _ _⟩
    · have HO : Hid (prevR rs v = getR rs v.path (v.num - 1)) := Lib.hid (by unfold prevR; rw [if_neg h1, if_neg h4])
      have b4 : (v.act == 4) = false := by simpa using h4
      have HGT := Lib.hid (fun W h => get_any A B c m d rs v.path (v.num - 1) W h hl)
      unfold RetOR at HGT
      generalize getR rs v.path (v.num - 1) = o at *
      unfold aggR at HGT
      clear h1 h4 h hl
      go_enter Tryd.func38, Tryd.ntmps38
      have HBX := Lib.hid (BX.new ((w.alloc (.cells #[.slice A rs.length c, .slice B m d] 28)).alloc (.cells #[.string v.path, .int .i64 v.num, .int .i64 v.chg, .int .i64 v.act, .int .i64 v.ty.1, .bool v.ty.2.1, .bool v.ty.2.2.1, .bool v.ty.2.2.2, .int .u64 v.cid.1, .int .i64 v.cid.2, .string v.frm, .int .i64 v.fnum] 40)) zeroV 40 (g := w.heap.size + 1 + 1) (by simp))
      go_wp2_with (go_at_call 49; refine (HGT.out _ (HR.out.below (below_three _ _ _ _))).mono ?_; rintro e w1 ⟨rfl, hb⟩; have HB1 := Lib.hid (go3 (below_three _ _ _ _) hb); have HX1 := Lib.hid (HBX.out.below hb); clear hb; obtain ⟨v0, v1, v2, v3, v4, v5, v6, v7, v8, v9, v10, v11⟩ := (show At12 _ (w.heap.size + 1 + 1) 0 rv0 from HX1.out.rev); have vf := HX1.out.2.1)
      refine bodyPost_ret (v := .tuple #[aggR (o.getD rv0), .bool o.isSome]) (by simp [results, Tryd.results38, go_sem, v0, v1, v2, v3, v4, v5, v6, v7, v8, v9, v10, v11]; rfl) rfl ?_
      exact ⟨by rw [HO.out], below12 HB1.out (by omega) _ _ _ _ _ _ _ _ _ _ _ _⟩
end Go.Proofs.YteagecjhpfijjaaDoor

