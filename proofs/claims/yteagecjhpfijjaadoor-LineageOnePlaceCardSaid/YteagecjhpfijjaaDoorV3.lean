/-
  The walks of the reference's Last, Get, Gone, Live, Previous and First.
-/
import Derived.Test.YteagecjhpfijjaaDoorV2
namespace Go.Proofs.YteagecjhpfijjaaDoor
set_option linter.unusedSimpArgs false
set_option linter.unusedVariables false
open Go.RowKit

def setAll (w : World) (g : Nat) : Nat → List Value → World
  | _, [] => w
  | i, y :: ys => setAll (w.setCell ⟨g, i, none⟩ y) g (i + 1) ys
theorem BX.setAll : ∀ (ys : List Value) {w : World} {g i : Nat} {pre old : List Value}, BX w g (pre ++ old) → pre.length = i → ys.length = old.length → BX (setAll w g i ys) g (pre ++ ys)
  | [], w, g, i, pre, old, h, hi, hl => by
    have : old = [] := List.eq_nil_of_length_eq_zero hl.symm
    subst this
    exact h
  | y :: ys, w, g, i, pre, [], h, hi, hl => by simp at hl
  | y :: ys, w, g, i, pre, c :: old, h, hi, hl => by
    have h1 := h.set (j := i) (by rw [List.length_append, List.length_cons]; omega) y
    have e : (pre ++ c :: old).set i y = (pre ++ [y]) ++ old := by
      subst hi
      rw [List.set_append_right _ _ (Nat.le_refl _), Nat.sub_self, List.set_cons_zero, List.append_assoc]
      rfl
    rw [e] at h1
    have h2 := BX.setAll (i := i + 1) ys h1 (by rw [List.length_append, List.length_singleton, hi]) (by simpa using hl)
    rw [List.append_assoc] at h2
    exact h2
theorem Below.setAll : ∀ (ys : List Value) {B : Nat} {a w : World} {g i : Nat}, Below B a w → B ≤ g → Below B a (setAll w g i ys)
  | [], _, _, _, _, _, h, _ => h
  | y :: ys, B, a, w, g, i, h, hg => Below.setAll ys (h.setCell (p := ⟨g, i, none⟩) hg y) hg
theorem below12 {B : Nat} {a w : World} (h : Below B a w) {g : Nat} (hg : B ≤ g) (y0 y1 y2 y3 y4 y5 y6 y7 y8 y9 y10 y11 : Value) : Below B a ((((((((((((w.setCell ⟨g, 0, none⟩ y0).setCell ⟨g, 1, none⟩ y1).setCell ⟨g, 2, none⟩ y2).setCell ⟨g, 3, none⟩ y3).setCell ⟨g, 4, none⟩ y4).setCell ⟨g, 5, none⟩ y5).setCell ⟨g, 6, none⟩ y6).setCell ⟨g, 7, none⟩ y7).setCell ⟨g, 8, none⟩ y8).setCell ⟨g, 9, none⟩ y9).setCell ⟨g, 10, none⟩ y10).setCell ⟨g, 11, none⟩ y11) :=
  Below.setAll [y0, y1, y2, y3, y4, y5, y6, y7, y8, y9, y10, y11] (i := 0) h hg
theorem BX.put12 {w : World} {g : Nat} {cs : List Value} (h : BX w g cs) (hl : cs.length = 12) (y0 y1 y2 y3 y4 y5 y6 y7 y8 y9 y10 y11 : Value) : BX ((((((((((((w.setCell ⟨g, 0, none⟩ y0).setCell ⟨g, 1, none⟩ y1).setCell ⟨g, 2, none⟩ y2).setCell ⟨g, 3, none⟩ y3).setCell ⟨g, 4, none⟩ y4).setCell ⟨g, 5, none⟩ y5).setCell ⟨g, 6, none⟩ y6).setCell ⟨g, 7, none⟩ y7).setCell ⟨g, 8, none⟩ y8).setCell ⟨g, 9, none⟩ y9).setCell ⟨g, 10, none⟩ y10).setCell ⟨g, 11, none⟩ y11) g [y0, y1, y2, y3, y4, y5, y6, y7, y8, y9, y10, y11] :=
  BX.setAll [y0, y1, y2, y3, y4, y5, y6, y7, y8, y9, y10, y11] (pre := []) (old := cs) (i := 0) h rfl (by rw [hl]; rfl)
theorem below_two (w : World) (x y : Obj) : Below w.heap.size w ((w.alloc x).alloc y) := below_al (below_al (Below.refl _ _) _) _
/-- the cells of a zero revision -/
def zeroV : List Value := [.string ⟨#[]⟩, .int .i64 0, .int .i64 0, .int .i64 0, .int .i64 0, .bool false, .bool false, .bool false, .int .u64 0, .int .i64 0, .string ⟨#[]⟩, .int .i64 0]
theorem last_snoc {l : List Rv} (h : 0 < l.length) : ∃ v, l[l.length - 1]? = some v ∧ l.getLast? = some v := by
  refine ⟨l[l.length - 1], List.getElem?_eq_getElem (by omega), ?_⟩
  rw [List.getLast?_eq_getElem?, List.getElem?_eq_getElem (by omega)]

set_option maxHeartbeats 2000000 in
set_option maxRecDepth 100000 in
theorem last_any (A B : Option Addr) (c m d : Nat) (rs : List Rv) (p : ByteArray) (w : World) (h : RV w A c rs) (hl : rs.length ≤ 100000) :
    Calls Tryd.prog 28 #[.agg #[.slice A rs.length c, .slice B m d], .string p] w (RetOR w (lastR rs p)) := by
  have HR := Lib.hid h
  have HLG := Lib.hid (fun W h => log_any A B c m d rs p W h hl)
  have HLE : Hid (lastR rs p = (logR rs p).getLast?) := Lib.hid rfl
  have HLL : Hid ((logR rs p).length ≤ 100000) := Lib.hid (by
    have : (logR rs p).length ≤ rs.length := List.length_filter_le _ _
    omega)
  unfold RetV at HLG
  clear h hl
  generalize logR rs p = ls at *
  generalize lastR rs p = o at *
  by_cases h0 : 0 < ls.length
  · obtain ⟨v, hv1, hv2⟩ := last_snoc h0
    have HO : Hid (o = some v) := Lib.hid (HLE.out.trans hv2)
    have HV := Lib.hid hv1
    clear HLE hv1 hv2
    go_enter Tryd.func28, Tryd.ntmps28
    have HBX := Lib.hid (BX.new (w.alloc (.cells #[.slice A rs.length c, .slice B m d] 28)) zeroV 40 (g := w.heap.size + 1) (by simp))
    go_upto_region 2 with (go_at_call 45; refine (HLG.out _ (HR.out.below (below_two _ _ _))).mono ?_; rintro e w1 ⟨A1, c1, rfl, hrv, hb⟩; have HR1 := Lib.hid hrv; have HB1 := Lib.hid (go3 (below_two _ _ _) hb); have HX1 := Lib.hid (HBX.out.below hb); have q1 := hrv.1; rw [List.length_map] at q1; have q2 := hrv.2.1; clear hrv hb)
    obtain ⟨b, o', rfl, hb1, x0, x1, x2, x3, x4, x5, x6, x7, x8, x9, x10, x11⟩ := HR1.out.at_ HV.out
    obtain ⟨v0, v1, v2, v3, v4, v5, v6, v7, v8, v9, v10, v11⟩ := (show At12 w1 (w.heap.size + 1) 0 rv0 from HX1.out.rev)
    have vf := HX1.out.2.1
    have hne : b ≠ w.heap.size + 1 ∨ b = w.heap.size + 1 := by omega
    go_wp2_with fail
    refine bodyPost_ret (v := .tuple #[aggR v, .bool true]) (by simp [results, Tryd.results28, go_sem, v0, v1, v2, v3, v4, v5, v6, v7, v8, v9, v10, v11]; rfl) rfl ?_
    exact ⟨by rw [HO.out]; rfl, below12 HB1.out (by omega) _ _ _ _ _ _ _ _ _ _ _ _⟩
  · have hz : ls = [] := List.eq_nil_of_length_eq_zero (by omega)
    have HO : Hid (o = none) := Lib.hid (by rw [HLE.out, hz]; rfl)
    subst hz
    clear HLE h0
    go_enter Tryd.func28, Tryd.ntmps28
    have HBX := Lib.hid (BX.new (w.alloc (.cells #[.slice A rs.length c, .slice B m d] 28)) zeroV 40 (g := w.heap.size + 1) (by simp))
    go_upto_region 2 with (go_at_call 45; refine (HLG.out _ (HR.out.below (below_two _ _ _))).mono ?_; rintro e w1 ⟨A1, c1, rfl, hrv, hb⟩; have HR1 := Lib.hid hrv; have HB1 := Lib.hid (go3 (below_two _ _ _) hb); have HX1 := Lib.hid (HBX.out.below hb); clear hrv hb)
    obtain ⟨v0, v1, v2, v3, v4, v5, v6, v7, v8, v9, v10, v11⟩ := (show At12 w1 (w.heap.size + 1) 0 rv0 from HX1.out.rev)
    have vf := HX1.out.2.1
    go_wp2_with fail
    refine bodyPost_ret (v := .tuple #[aggR rv0, .bool false]) (by simp [results, Tryd.results28, go_sem, v0, v1, v2, v3, v4, v5, v6, v7, v8, v9, v10, v11]; rfl) rfl ?_
    exact ⟨by rw [HO.out]; rfl, below12 HB1.out (by omega) _ _ _ _ _ _ _ _ _ _ _ _⟩
end Go.Proofs.YteagecjhpfijjaaDoor

