/-
  The walks of the reference's Member, Identity, Previous of chapter 13.
-/
import Derived.Test.YteagecjhpfijjaaDoorV24
import Derived.Test.YteagecjhpfijjaaDoorW3
namespace Go.Proofs.YteagecjhpfijjaaDoor
set_option linter.unusedSimpArgs false
set_option linter.unusedVariables false
open Go.RowKit

set_option maxHeartbeats 4000000 in
set_option maxRecDepth 100000 in
theorem member_any (A B : Option Addr) (c m d : Nat) (rs : List Rv) (p : ByteArray) (n : Int) (w : World) (h : RV w A c rs) (hl : rs.length ≤ 100000) :
    Calls Tryd.prog 35 #[.agg #[.slice A rs.length c, .slice B m d], .string p, .int .i64 n] w (RetOR w (memR rs p n)) := by
  have HR := Lib.hid h
  have HGT := Lib.hid (fun W h => get_any A B c m d rs p n W h hl)
  have HQ : Hid (memR rs p n = (getR rs p n).filter (fun v => v.act != 5)) := Lib.hid rfl
  unfold RetOR at HGT
  have HBX := Lib.hid (BX.new (w.alloc (.cells #[.slice A rs.length c, .slice B m d] 28)) zeroV 40 (g := w.heap.size + 1) (by simp))
  clear h hl
  generalize memR rs p n = mo at *
  generalize getR rs p n = o at *
  cases o with
  | none =>
    simp only [Option.getD_none, Option.isSome_none] at HGT
    have HN : Hid (mo = none) := Lib.hid HQ.out
    unfold aggR rv0 at HGT
    clear HQ
    go_enter Tryd.func35, Tryd.ntmps35
    go_wp2_with (go_at_call 49; refine (HGT.out _ (HR.out.below (below_two _ _ _))).mono ?_; rintro e w1 ⟨rfl, hb⟩; have HB1 := Lib.hid (go3 (below_two _ _ _) hb); have HX1 := Lib.hid (HBX.out.below hb); clear hb; obtain ⟨r0, r1, r2, r3, r4, r5, r6, r7, r8, r9, r10, r11⟩ := (show At12 _ (w.heap.size + 1) 0 rv0 from HX1.out.rev); have rf := HX1.out.2.1; have rl := HX1.out.2.2; have ne1 : ¬ w.heap.size + 1 = w1.heap.size := (by omega); have ne2 : ¬ w1.heap.size = w.heap.size + 1 := (by omega))
    refine bodyPost_ret (v := .tuple #[aggR rv0, .bool false]) (by simp [results, Tryd.results35, go_sem, r0, r1, r2, r3, r4, r5, r6, r7, r8, r9, r10, r11, ne1, ne2, rl, aggR, rv0]) rfl ?_
    exact ⟨by rw [HN.out]; rfl, below_al (below12 HB1.out (by omega) _ _ _ _ _ _ _ _ _ _ _ _) _⟩
  | some v =>
    simp only [Option.getD_some, Option.isSome_some] at HGT
    by_cases a5 : v.act = 5
    · have HN : Hid (mo = none) := Lib.hid (by rw [HQ.out, Option.filter_some]; simp [a5])
      have b5 : (v.act == 5) = true := by simpa using a5
      clear HQ a5
      unfold aggR at HGT
      go_enter Tryd.func35, Tryd.ntmps35
      go_wp2_with (go_at_call 49; refine (HGT.out _ (HR.out.below (below_two _ _ _))).mono ?_; rintro e w1 ⟨rfl, hb⟩; have HB1 := Lib.hid (go3 (below_two _ _ _) hb); have HX1 := Lib.hid (HBX.out.below hb); clear hb; obtain ⟨r0, r1, r2, r3, r4, r5, r6, r7, r8, r9, r10, r11⟩ := (show At12 _ (w.heap.size + 1) 0 rv0 from HX1.out.rev); have rf := HX1.out.2.1; have rl := HX1.out.2.2; have ne1 : ¬ w.heap.size + 1 = w1.heap.size := (by omega); have ne2 : ¬ w1.heap.size = w.heap.size + 1 := (by omega))
      refine bodyPost_ret (v := .tuple #[aggR rv0, .bool false]) (by simp [results, Tryd.results35, go_sem, r0, r1, r2, r3, r4, r5, r6, r7, r8, r9, r10, r11, ne1, ne2, rl, aggR, rv0]) rfl ?_
      exact ⟨by rw [HN.out]; rfl, below_al (below12 HB1.out (by omega) _ _ _ _ _ _ _ _ _ _ _ _) _⟩
    · have HN : Hid (mo = some v) := Lib.hid (by rw [HQ.out, Option.filter_some]; simp [a5])
      have b5 : (v.act == 5) = false := by simpa using a5
      clear HQ a5
      unfold aggR at HGT
      go_enter Tryd.func35, Tryd.ntmps35
      go_wp2_with (go_at_call 49; refine (HGT.out _ (HR.out.below (below_two _ _ _))).mono ?_; rintro e w1 ⟨rfl, hb⟩; have HB1 := Lib.hid (go3 (below_two _ _ _) hb); have HX1 := Lib.hid (HBX.out.below hb); clear hb; obtain ⟨r0, r1, r2, r3, r4, r5, r6, r7, r8, r9, r10, r11⟩ := (show At12 _ (w.heap.size + 1) 0 rv0 from HX1.out.rev); have rf := HX1.out.2.1; have rl := HX1.out.2.2; have ne1 : ¬ w.heap.size + 1 = w1.heap.size := (by omega); have ne2 : ¬ w1.heap.size = w.heap.size + 1 := (by omega))
      refine bodyPost_ret (v := .tuple #[aggR v, .bool true]) (by simp [results, Tryd.results35, go_sem, r0, r1, r2, r3, r4, r5, r6, r7, r8, r9, r10, r11, ne1, ne2, rl, aggR, rv0]) rfl ?_
      exact ⟨by rw [HN.out]; rfl, below_al (below12 HB1.out (by omega) _ _ _ _ _ _ _ _ _ _ _ _) _⟩
/-- a name, or none, comes back -/
def RetOF (w : World) (o : Option (ByteArray × Int)) (e : Ending) (w' : World) : Prop := e = .returned (.tuple #[.agg #[.string (o.getD (⟨#[]⟩, 0)).1, .int .i64 (o.getD (⟨#[]⟩, 0)).2], .bool o.isSome]) ∧ Below w.heap.size w w'
theorem below2 {B : Nat} {a w : World} (h : Below B a w) {g : Nat} (hg : B ≤ g) (y0 y1 : Value) : Below B a ((w.setCell ⟨g, 0, none⟩ y0).setCell ⟨g, 1, none⟩ y1) := (h.setCell (p := ⟨g, 0, none⟩) hg _).setCell (p := ⟨g, 1, none⟩) hg _
/-- the identity of the line of a revision -/
def idR (rs : List Rv) (p : ByteArray) (n : Int) : Option (ByteArray × Int) := (memR rs p n).map (fun v => nameR (firstR rs v))
set_option maxHeartbeats 4000000 in
set_option maxRecDepth 100000 in
theorem ridentity_any (A B : Option Addr) (c m d : Nat) (rs : List Rv) (p : ByteArray) (n : Int) (w : World) (h : RV w A c rs) (hl : rs.length ≤ 100000) (hr : ∀ u ∈ rs, nearN u.num) :
    Calls Tryd.prog 15 #[.agg #[.slice A rs.length c, .slice B m d], .string p, .int .i64 n] w (RetOF w (idR rs p n)) := by
  have HR := Lib.hid h
  have HRN := Lib.hid hr
  have HMM := Lib.hid (fun v (hv : memR rs p n = some v) => (getR_mem (memR_some.1 hv).1).1)
  have HGT := Lib.hid (fun W h => member_any A B c m d rs p n W h hl)
  have HQ : Hid (idR rs p n = (memR rs p n).map (fun v => nameR (firstR rs v))) := Lib.hid rfl
  unfold RetOR at HGT
  have HBX := Lib.hid (BX.new (w.alloc (.cells #[.slice A rs.length c, .slice B m d] 28)) [.string ⟨#[]⟩, .int .i64 0] 31 (g := w.heap.size + 1) (by simp))
  have HD := Lib.hid (BX.new w [.slice A rs.length c, .slice B m d] 28 rfl)
  clear h
  generalize idR rs p n = mo at *
  generalize memR rs p n = o at *
  cases o with
  | none =>
    simp only [Option.getD_none, Option.isSome_none] at HGT
    have HN : Hid (mo = none) := Lib.hid HQ.out
    unfold aggR rv0 at HGT
    clear HQ hl hr
    go_enter Tryd.func15, Tryd.ntmps15
    go_wp2_with (go_at_call 35; refine (HGT.out _ (HR.out.below (below_two _ _ _))).mono ?_; rintro e w1 ⟨rfl, hb⟩; have HB1 := Lib.hid (go3 (below_two _ _ _) hb); have HX1 := Lib.hid (HBX.out.below hb); clear hb; have r0 := HX1.out.1 0 _ rfl; have r1 := HX1.out.1 1 _ rfl; have rf := HX1.out.2.1; have rl := HX1.out.2.2; have ne1 : ¬ w.heap.size + 1 = w1.heap.size := (by omega); have ne2 : ¬ w1.heap.size = w.heap.size + 1 := (by omega))
    refine bodyPost_ret (v := .tuple #[.agg #[.string ⟨#[]⟩, .int .i64 0], .bool false]) (by simp [results, Tryd.results15, go_sem, r0, r1, ne1, ne2, rl]) rfl ?_
    exact ⟨by rw [HN.out]; rfl, below_al (below2 HB1.out (by omega) _ _) _⟩
  | some v =>
    simp only [Option.getD_some, Option.isSome_some] at HGT
    have HFT := Lib.hid (fun W h => first_any A B c m d rs v W h hl hr (hr v (HMM.out v rfl)))
    unfold RetF at HFT
    have HN : Hid (mo = some ((firstR rs v).path, (firstR rs v).num)) := Lib.hid HQ.out
    generalize firstR rs v = f at *
    unfold aggR at HGT HFT
    clear HQ hl hr
    go_enter Tryd.func15, Tryd.ntmps15
    go_wp2_with (first
      | (go_at_call 35; refine (HGT.out _ (HR.out.below (below_two _ _ _))).mono ?_; rintro e w1 ⟨rfl, hb⟩; have HB1 := Lib.hid (go3 (below_two _ _ _) hb); have HX1 := Lib.hid (HBX.out.below hb); have HD1 := Lib.hid ((HD.out.below (below_alloc _ _)).below hb); have d0 := HD1.out.1 0 _ rfl; have d1 := HD1.out.1 1 _ rfl; have dl := HD1.out.2.2; clear hb)
      | (go_at_call 36; refine (HFT.out _ ((HR.out.below HB1.out).below (below_alloc _ _))).mono ?_; rintro e w2 ⟨rfl, hb⟩; have HB2 := Lib.hid (go3 (below_al HB1.out _) hb); have HX2 := Lib.hid ((HX1.out.below (below_alloc _ _)).below hb); clear hb; have r0 := HX2.out.1 0 _ rfl; have r1 := HX2.out.1 1 _ rfl; have rf := HX2.out.2.1; have rl := HX2.out.2.2))
    refine bodyPost_ret (v := .tuple #[.agg #[.string f.path, .int .i64 f.num], .bool true]) (by simp [results, Tryd.results15, go_sem, r0, r1, rl]) rfl ?_
    exact ⟨by rw [HN.out]; rfl, below2 HB2.out (by omega) _ _⟩
/-- the previous member of a revision by its name -/
def prevN (rs : List Rv) (p : ByteArray) (n : Int) : Option Rv := (memR rs p n).bind (prevR rs)
set_option maxHeartbeats 4000000 in
set_option maxRecDepth 100000 in
theorem rprevious_any (A B : Option Addr) (c m d : Nat) (rs : List Rv) (p : ByteArray) (n : Int) (w : World) (h : RV w A c rs) (hl : rs.length ≤ 100000) (hr : ∀ u ∈ rs, nearN u.num) :
    Calls Tryd.prog 17 #[.agg #[.slice A rs.length c, .slice B m d], .string p, .int .i64 n] w (RetOR w (prevN rs p n)) := by
  have HR := Lib.hid h
  have HMM := Lib.hid (fun v (hv : memR rs p n = some v) => (getR_mem (memR_some.1 hv).1).1)
  have HGT := Lib.hid (fun W h => member_any A B c m d rs p n W h hl)
  have HQ : Hid (prevN rs p n = (memR rs p n).bind (prevR rs)) := Lib.hid rfl
  unfold RetOR at HGT
  have HBX := Lib.hid (BX.new (w.alloc (.cells #[.slice A rs.length c, .slice B m d] 28)) zeroV 40 (g := w.heap.size + 1) (by simp))
  have HD := Lib.hid (BX.new w [.slice A rs.length c, .slice B m d] 28 rfl)
  clear h
  generalize prevN rs p n = mo at *
  generalize memR rs p n = o at *
  cases o with
  | none =>
    simp only [Option.getD_none, Option.isSome_none] at HGT
    have HN : Hid (mo = none) := Lib.hid HQ.out
    unfold aggR rv0 at HGT
    clear HQ hl hr
    go_enter Tryd.func17, Tryd.ntmps17
    go_wp2_with (go_at_call 35; refine (HGT.out _ (HR.out.below (below_two _ _ _))).mono ?_; rintro e w1 ⟨rfl, hb⟩; have HB1 := Lib.hid (go3 (below_two _ _ _) hb); have HX1 := Lib.hid (HBX.out.below hb); clear hb; obtain ⟨r0, r1, r2, r3, r4, r5, r6, r7, r8, r9, r10, r11⟩ := (show At12 _ (w.heap.size + 1) 0 rv0 from HX1.out.rev); have rf := HX1.out.2.1; have rl := HX1.out.2.2; have ne1 : ¬ w.heap.size + 1 = w1.heap.size := (by omega); have ne2 : ¬ w1.heap.size = w.heap.size + 1 := (by omega))
    refine bodyPost_ret (v := .tuple #[aggR rv0, .bool false]) (by simp [results, Tryd.results17, go_sem, r0, r1, r2, r3, r4, r5, r6, r7, r8, r9, r10, r11, ne1, ne2, rl, aggR, rv0]) rfl ?_
    exact ⟨by rw [HN.out]; rfl, below_al (below12 HB1.out (by omega) _ _ _ _ _ _ _ _ _ _ _ _) _⟩
  | some v =>
    simp only [Option.getD_some, Option.isSome_some] at HGT
    have HFT := Lib.hid (fun W h => previous_any A B c m d rs v W h hl (hr v (HMM.out v rfl)))
    unfold RetOR at HFT
    have HN : Hid (mo = prevR rs v) := Lib.hid HQ.out
    generalize prevR rs v = f at *
    unfold aggR at HGT HFT
    clear HQ hl hr
    go_enter Tryd.func17, Tryd.ntmps17
    go_wp2_with (first
      | (go_at_call 35; refine (HGT.out _ (HR.out.below (below_two _ _ _))).mono ?_; rintro e w1 ⟨rfl, hb⟩; have HB1 := Lib.hid (go3 (below_two _ _ _) hb); have HX1 := Lib.hid (HBX.out.below hb); have HD1 := Lib.hid ((HD.out.below (below_alloc _ _)).below hb); have d0 := HD1.out.1 0 _ rfl; have d1 := HD1.out.1 1 _ rfl; have dl := HD1.out.2.2; clear hb)
      | (go_at_call 38; refine (HFT.out _ ((HR.out.below HB1.out).below (below_alloc _ _))).mono ?_; rintro e w2 ⟨rfl, hb⟩; have HB2 := Lib.hid (go3 (below_al HB1.out _) hb); have HX2 := Lib.hid ((HX1.out.below (below_alloc _ _)).below hb); clear hb; obtain ⟨r0, r1, r2, r3, r4, r5, r6, r7, r8, r9, r10, r11⟩ := (show At12 _ (w.heap.size + 1) 0 rv0 from HX2.out.rev); have rf := HX2.out.2.1; have rl := HX2.out.2.2))
    refine bodyPost_ret (v := .tuple #[aggR (f.getD rv0), .bool f.isSome]) (by simp [results, Tryd.results17, go_sem, r0, r1, r2, r3, r4, r5, r6, r7, r8, r9, r10, r11, rl]; rfl) rfl ?_
    exact ⟨by rw [HN.out], below12 HB2.out (by omega) _ _ _ _ _ _ _ _ _ _ _ _⟩
end Go.Proofs.YteagecjhpfijjaaDoor

