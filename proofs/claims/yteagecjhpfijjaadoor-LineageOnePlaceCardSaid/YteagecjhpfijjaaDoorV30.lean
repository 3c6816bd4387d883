/-
  The walk of the program's Previous.
-/
import Derived.Test.YteagecjhpfijjaaDoorV29
namespace Go.Proofs.YteagecjhpfijjaaDoor
set_option linter.unusedSimpArgs false
set_option linter.unusedVariables false
open Go.RowKit Go.WideShapes

/-- what is known of the revisions of a depot that the statements build -/
structure Dp (rs : List Rv) : Prop where
  inv : Inv rs
  sz : szR rs
  near : ∀ u ∈ rs, nearN u.num
  len : rs.length ≤ 500
theorem VH.dp {rs : List Rv} (h : VH rs) (hz : szR rs) (hl : rs.length ≤ 500) : Dp rs := ⟨h.inv, hz, (h.near (by omega)).1, hl⟩
theorem Dp.ok1 {rs : List Rv} (h : Dp rs) {v : Rv} (hv : v ∈ rs) : okF (v.path, v.num - 1) := by
  have h1 := h.sz v hv
  have h2 := h.near v hv
  have h3 := (h.inv.num_le hv).1
  obtain ⟨n1, n2⟩ := h2
  exact okF_of (by omega) ⟨by omega, by omega⟩
theorem Dp.ok4 {rs : List Rv} (h : Dp rs) {v : Rv} (hv : v ∈ rs) (h4 : v.act = 4) : okF (v.frm, v.fnum) := by
  obtain ⟨u, hu, _, _⟩ := h.inv.prev v hv (by omega)
  have hm := prevR_mem hu
  rcases (prevR_some hu).2 with ⟨_, e1, e2⟩ | ⟨h5, _⟩
  · rw [← e1, ← e2]
    exact okF_of (by have := h.sz u hm; omega) (h.near u hm)
  · exact absurd h4 h5
theorem below4 (w : World) (x y z : Obj) (u : Obj) : Below w.heap.size w ((((w.alloc x).alloc y).alloc z).alloc u) := below_al (below_three _ _ _ _) _
set_option maxHeartbeats 4000000 in
set_option maxRecDepth 100000 in
theorem lprevious_any (A B : Option Addr) (c m d : Nat) (rs : List Rv) (p : ByteArray) (n : Int) (w : World) (h : RV w A c rs) (hd : Dp rs) (hp : p.size ≤ 1000) (hn : (Lit.int .i64 n).wf = true) :
    Calls Tryd.prog 16 #[.agg #[.slice A rs.length c, .slice B m d], .string p, .int .i64 n] w (RetOR w (prevN rs p n)) := by
  have HR := Lib.hid h
  have HMB := Lib.hid (fun W h => membersOf_any A B c m d rs W h hd.len hd.inv hd.sz hd.near)
  have HQ : Hid (prevN rs p n = (mapR rs (p, n)).bind (prevP rs)) := Lib.hid (by
    unfold prevN
    rw [hd.inv.mapR]
    cases hm : memR rs p n with
    | none => rfl
    | some v => exact (hd.inv.prevP (getR_mem (memR_some.1 hm).1).1).symm)
  have HOK : Hid (okF (p, n)) := Lib.hid ⟨by show p.size ≤ _; omega, hn⟩
  have HE1 : Hid ((MM_ rs (p, n)).getD (aggR rv0) = aggR ((mapR rs (p, n)).getD rv0)) := Lib.hid (by unfold MM_; cases mapR rs (p, n) <;> rfl)
  have HE2 : Hid ((MM_ rs (p, n)).isSome = (mapR rs (p, n)).isSome) := Lib.hid (by unfold MM_; cases mapR rs (p, n) <;> rfl)
  have HX := Lib.hid (BX.new (w.alloc (.cells #[.slice A rs.length c, .slice B m d] 28)) zeroV 40 (g := w.heap.size + 1) (by simp))
  cases hm : mapR rs (p, n) with
  | none =>
    rw [hm] at HE1 HE2 HQ
    simp only [Option.getD_none, Option.isSome_none] at HE1 HE2
    have HN : Hid (prevN rs p n = none) := Lib.hid HQ.out
    unfold aggR rv0 at HE1
    clear hm h hd hp hn HQ
    go_enter Tryd.func16, Tryd.ntmps16
    go_wp2_with (first
      | (go_at_call 32; refine (HMB.out _ (HR.out.below (below_two _ _ _))).mono ?_; rintro e w1 ⟨b, rfl, hmp, hbl, hb⟩; have HM := Lib.hid hmp; have HB1 := Lib.hid (go3 (below_two _ _ _) hb); have HX1 := Lib.hid (HX.out.below hb); obtain ⟨r0, r1, r2, r3, r4, r5, r6, r7, r8, r9, r10, r11⟩ := (show At12 _ (w.heap.size + 1) 0 rv0 from HX1.out.rev); have rf := HX1.out.2.1; have rl := HX1.out.2.2; have ne1 : ¬ w.heap.size + 1 = w1.heap.size := (by omega); have ne2 : ¬ w1.heap.size = w.heap.size + 1 := (by omega); clear hmp hb)
      | (at_lookup; refine wpList_look rfl _ _ _ rfl Tryd.underlying73 (zeroRev _) b (MM_ rs) (cntM rs) rfl (HM.out.below (by repeat (first | exact Below.refl _ _ | apply Below.drew | apply below_drewN | apply below_al))) (p, n) rfl HOK.out _ false HE1.out HE2.out ?_))
    refine bodyPost_ret (v := .tuple #[aggR rv0, .bool false]) (by simp [results, Tryd.results16, go_sem, r0, r1, r2, r3, r4, r5, r6, r7, r8, r9, r10, r11, ne1, ne2, rl, aggR, rv0]) rfl ?_
    exact ⟨by rw [HN.out]; rfl, below_al (below12 HB1.out (by omega) _ _ _ _ _ _ _ _ _ _ _ _) _⟩
  | some v =>
    rw [hm] at HE1 HE2 HQ
    simp only [Option.getD_some, Option.isSome_some] at HE1 HE2
    have hv := (mapR_some hm).1
    have HPV := Lib.hid (fun b W h => mprev_any b rs v (cntM rs) W h (hd.near v hv) (hd.ok1 hv) (fun h4 => hd.ok4 hv h4))
    unfold RetOR at HPV
    have HN : Hid (prevN rs p n = prevP rs v) := Lib.hid HQ.out
    generalize prevP rs v = f at *
    generalize hu : f.getD rv0 = u at *
    generalize hq : f.isSome = q at *
    have HUQ := Lib.hid (And.intro hu hq)
    unfold aggR at HE1 HPV
    clear hm h hd hp hn HQ hv hu hq
    go_enter Tryd.func16, Tryd.ntmps16
    go_wp2_with (first
      | (go_at_call 32; refine (HMB.out _ (HR.out.below (below_two _ _ _))).mono ?_; rintro e w1 ⟨b, rfl, hmp, hbl, hb⟩; have HM := Lib.hid hmp; have HB1 := Lib.hid (go3 (below_two _ _ _) hb); have HX1 := Lib.hid (HX.out.below hb); clear hmp hb)
      | (at_lookup; refine wpList_look rfl _ _ _ rfl Tryd.underlying73 (zeroRev _) b (MM_ rs) (cntM rs) rfl (HM.out.below (by repeat (first | exact Below.refl _ _ | apply Below.drew | apply below_drewN | apply below_al))) (p, n) rfl HOK.out _ true HE1.out HE2.out ?_)
      | (go_at_call 37; refine (HPV.out b _ (HM.out.below (below_alloc _ _))).mono ?_; rintro e w2 ⟨rfl, hb⟩; have HB2 := Lib.hid (go3 (below_al HB1.out _) hb); have HX2 := Lib.hid ((HX1.out.below (below_alloc _ _)).below hb); obtain ⟨r0, r1, r2, r3, r4, r5, r6, r7, r8, r9, r10, r11⟩ := (show At12 _ (w.heap.size + 1) 0 rv0 from HX2.out.rev); have rf := HX2.out.2.1; have rl := HX2.out.2.2; clear hb))
    refine bodyPost_ret (v := .tuple #[aggR u, .bool q]) (by simp [results, Tryd.results16, go_sem, r0, r1, r2, r3, r4, r5, r6, r7, r8, r9, r10, r11, rl]; rfl) rfl ?_
    exact ⟨by rw [HN.out, HUQ.out.1, HUQ.out.2], below12 HB2.out (by omega) _ _ _ _ _ _ _ _ _ _ _ _⟩
end Go.Proofs.YteagecjhpfijjaaDoor

