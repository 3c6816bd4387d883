/-
  The walks of the reference's Gone, Live and Previous.
-/
import Derived.Test.YteagecjhpfijjaaDoorV4
import Derived.Deep.RegionHeld3
namespace Go.Proofs.YteagecjhpfijjaaDoor
set_option linter.unusedSimpArgs false
set_option linter.unusedVariables false
open Go.RowKit

set_option maxHeartbeats 1000000 in
theorem gone_any (v : Rv) (w : World) : Calls Tryd.prog 44 #[aggR v] w fun e w' => e = .returned (.bool (goneR v)) ∧ Below w.heap.size w w' := by
  have HG : Hid (goneR v = (v.act == 3 || v.act == 5)) := Lib.hid rfl
  unfold aggR
  cases h3 : (v.act == 3) with
  | true =>
    have HN : Hid (goneR v = true) := Lib.hid (by rw [HG.out, h3]; rfl)
    clear HG
    go_enter Tryd.func44, Tryd.ntmps44
    go_wp2_with fail
    go_ret
    exact ⟨ret_bool HN.out.symm, below_alloc _ _⟩
  | false =>
    cases h5 : (v.act == 5) with
    | true =>
      have HN : Hid (goneR v = true) := Lib.hid (by rw [HG.out, h3, h5]; rfl)
      clear HG
      go_enter Tryd.func44, Tryd.ntmps44
      go_wp2_with fail
      go_ret
      exact ⟨ret_bool HN.out.symm, below_alloc _ _⟩
    | false =>
      have HN : Hid (goneR v = false) := Lib.hid (by rw [HG.out, h3, h5]; rfl)
      clear HG
      go_enter Tryd.func44, Tryd.ntmps44
      go_wp2_with fail
      go_ret
      exact ⟨ret_bool HN.out.symm, below_alloc _ _⟩
set_option maxHeartbeats 2000000 in
set_option maxRecDepth 100000 in
theorem live_any (A B : Option Addr) (c m d : Nat) (rs : List Rv) (p : ByteArray) (w : World) (h : RV w A c rs) (hl : rs.length ≤ 100000) :
    Calls Tryd.prog 27 #[.agg #[.slice A rs.length c, .slice B m d], .string p] w fun e w' => e = .returned (.tuple #[.bool (liveR rs p), .int .i64 (lastN rs p)]) ∧ Below w.heap.size w w' := by
  have HR := Lib.hid h
  have HLA := Lib.hid (fun W h => last_any A B c m d rs p W h hl)
  have HE1 : Hid (liveR rs p = match lastR rs p with | some v => !goneR v | none => false) := Lib.hid rfl
  have HE2 : Hid (lastN rs p = ((lastR rs p).getD rv0).num) := Lib.hid rfl
  unfold RetOR at HLA
  clear h hl
  generalize lastR rs p = o at *
  cases o with
  | none =>
    simp only [Option.getD_none, Option.isSome_none] at HLA
    have HN1 : Hid (liveR rs p = false) := Lib.hid HE1.out
    have HN2 : Hid (lastN rs p = 0) := Lib.hid HE2.out
    unfold aggR rv0 at HLA
    clear HE1 HE2
    go_enter Tryd.func27, Tryd.ntmps27
    go_wp2_with (go_at_call 28; refine (HLA.out _ (HR.out.below (below_alloc _ _))).mono ?_; rintro e w1 ⟨rfl, hb⟩; have HB1 := Lib.hid (go3 (below_alloc _ _) hb); clear hb)
    have HBX : At (fun w' => BX w' w1.heap.size zeroV) (w1.alloc (.cells #[.string ⟨#[]⟩, .int .i64 0, .int .i64 0, .int .i64 0, .int .i64 0, .bool false, .bool false, .bool false, .int .u64 0, .int .i64 0, .string ⟨#[]⟩, .int .i64 0] 40)) := ⟨fun X Y h hb => h.below hb, BX.new w1 zeroV _ rfl⟩
    obtain ⟨x0, x1, x2, x3, x4, x5, x6, x7, x8, x9, x10, x11⟩ := (show At12 _ w1.heap.size 0 rv0 from HBX.out.rev)
    go_quiet (fail)
    all_goals
      go_wp2_with fail
      go_ret2
      exact ⟨by rw [HN1.out, HN2.out]; rfl, go3 HB1.out (by repeat (first | exact Below.refl _ _ | apply Below.drew | apply below_drewN | apply below_al))⟩
  | some v =>
    simp only [Option.getD_some, Option.isSome_some] at HLA
    have HN1 : Hid (liveR rs p = !goneR v) := Lib.hid HE1.out
    have HN2 : Hid (lastN rs p = v.num) := Lib.hid HE2.out
    have HGN := Lib.hid (fun W => gone_any v W)
    unfold aggR at HLA HGN
    clear HE1 HE2
    generalize goneR v = q at *
    go_enter Tryd.func27, Tryd.ntmps27
    go_wp2_with (go_at_call 28; refine (HLA.out _ (HR.out.below (below_alloc _ _))).mono ?_; rintro e w1 ⟨rfl, hb⟩; have HB1 := Lib.hid (go3 (below_alloc _ _) hb); clear hb)
    have HBX : At (fun w' => BX w' w1.heap.size (revV v)) (w1.alloc (.cells #[.string v.path, .int .i64 v.num, .int .i64 v.chg, .int .i64 v.act, .int .i64 v.ty.1, .bool v.ty.2.1, .bool v.ty.2.2.1, .bool v.ty.2.2.2, .int .u64 v.cid.1, .int .i64 v.cid.2, .string v.frm, .int .i64 v.fnum] 40)) := ⟨fun X Y h hb => h.below hb, BX.new w1 (revV v) _ rfl⟩
    obtain ⟨x0, x1, x2, x3, x4, x5, x6, x7, x8, x9, x10, x11⟩ := HBX.out.rev
    go_region_held3 (fun w' => w'.cell? ⟨w1.heap.size, 0, none⟩ = some (.string v.path) ∧ w'.cell? ⟨w1.heap.size, 1, none⟩ = some (.int .i64 v.num) ∧ w'.cell? ⟨w1.heap.size, 2, none⟩ = some (.int .i64 v.chg) ∧ w'.cell? ⟨w1.heap.size, 3, none⟩ = some (.int .i64 v.act) ∧ w'.cell? ⟨w1.heap.size, 4, none⟩ = some (.int .i64 v.ty.1) ∧ w'.cell? ⟨w1.heap.size, 5, none⟩ = some (.bool v.ty.2.1) ∧ w'.cell? ⟨w1.heap.size, 6, none⟩ = some (.bool v.ty.2.2.1) ∧ w'.cell? ⟨w1.heap.size, 7, none⟩ = some (.bool v.ty.2.2.2) ∧ w'.cell? ⟨w1.heap.size, 8, none⟩ = some (.int .u64 v.cid.1) ∧ w'.cell? ⟨w1.heap.size, 9, none⟩ = some (.int .i64 v.cid.2) ∧ w'.cell? ⟨w1.heap.size, 10, none⟩ = some (.string v.frm) ∧ w'.cell? ⟨w1.heap.size, 11, none⟩ = some (.int .i64 v.fnum))
      (first | exact (HBX.go (by repeat (first | exact Below.refl _ _ | apply Below.drew | apply below_drewN | apply below_al))).out.rev)
      (first | (go_at_call 44; refine (HGN.out _).mono ?_; rintro e w2 ⟨rfl, hb⟩; replace HBX := HBX.go2 (by repeat (first | exact Below.refl _ _ | apply Below.drew | apply below_drewN | apply below_al)) hb; have HB2 := Lib.hid (go3 (go3 HB1.out (by repeat (first | exact Below.refl _ _ | apply Below.drew | apply below_drewN | apply below_al))) hb); clear hb))
    all_goals
      go_wp2_with fail
      go_ret2
      exact ⟨by rw [HN1.out, HN2.out]; rfl, go3 HB2.out (by repeat (first | exact Below.refl _ _ | apply Below.drew | apply below_drewN | apply below_al))⟩
end Go.Proofs.YteagecjhpfijjaaDoor

