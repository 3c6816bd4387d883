/-
  The walk of the reference's record: the lines of the numbers.
-/
import Derived.Test.YteagecjhpfijjaaDoorV18d27
namespace Go.Proofs.YteagecjhpfijjaaDoor
set_option linter.unusedSimpArgs false
set_option linter.unusedVariables false
open Go.RowKit

set_option maxHeartbeats 40000000 in
set_option maxRecDepth 100000 in
theorem rec_19 {A B C : Option Addr} {c m d ce dr : Nat} {rs : List Rv} {n : Int} {S T : ByteArray} {es : List Ed} {rcs : List Rc} {i : Nat} {x : Rc} {w wr : World} {b o' : Nat} {g3 : Nat} {t : Ed} {q : Bool}
    {u5 u6 u10 u11 u12 u13 u14 u15 u16 u17 u18 u19 u20 u21 u22 u23 u24 u25 u26 u27 u28 u29 u30 u31 u32 u33 u34 u35 u36 u37 u38 u39 u40 u41 u42 u43 u44 u45 u46 u47 u48 u49 u50 u51 u52 u53 u54 u55 u56 u57 u58 u59 u60 u61 u62 u63 u64 u65 u66 u67 u68 u69 u70 u71 u72 u73 u74 u75 u76 u77 u78 u79 u80 u81 u82 u83 u84 u85 u86 u87 u88 u89 u90 u91 u92 u93 u94 u95 u96 u97 u98 u99 u100 u101 u102 u103 u104 u105 u106 u107 u108 u109 u110 u111 u112 u113 u114 u115 u116 u117 u118 u119 u120 u121 u122 u123 u124 u125 u126 u127 u128 u129 u130 u131 u132 u133 u134 u135 u136 u137 u138 u139 u140 u141 u142 u143 u144 u145 u146 u147 u148 u149 u150 u151 u152 u153 u154 u155 u156 u157 u158 u159 u160 u161 u162 u163 u164 u165 u166 u167 u168 u169 u170 u171 u172 u173 u174 u175 u176 u177 u178 u179 u180 u181 u182 u183 u184 u185 u186 u187 u188 u189 u190 u191 u192 u193 u194 u195 u196 u197 u198 u199 u200 u201 u202 u203 u204 u205 u206 u207 u208 u209 u210 u211 u212 u213 u214 u215 u216 u217 u218 u219 u220 u221 u222 u223 u224 u225 u226 u227 u228 u229 u230 u231 u232 u233 u234 u235 u236 u237 u238 u239 u240 u241 u242 : Value}
    (hrl : rs.length ≤ 100000) (hel : es.length ≤ 100000) (hcl : rcs.length ≤ 100000) (q1 : rcs.length ≤ dr) (q2 : dr ≤ 9223372036854775807)
    (HR : Hid (RV w A c rs)) (HE : Hid (EV w C ce es)) (HM : Hid (ML w)) (HRN : Hid (∀ u ∈ rs, nearN u.num)) (HEN : Hid (∀ y ∈ es, nearN y.base ∧ nearN (y.base + 1))) (HC : Hid (RC w (some ⟨b, o', none⟩) dr rcs)) (hg1 : w.heap.size + 1 < g3) (hg2 : w.heap.size + 1 + 1 < g3) (HTN : Hid (nearN t.base ∧ nearN (t.base + 1))) (p1 : 1 ≤ x.fst) (p2 : x.fst ≤ x.lst) (hx3 : x.lst ≤ 100000) {K : Act → World → Prop} (hK : ∀ x y, Code.wp Tryd.prog (csnd (recAt 19)) (bodyPost Tryd.prog Tryd.f52 (RetQ w)) x y → K x y) (HS : At (BB w [(w.heap.size, [.slice A rs.length c, .slice B m d]), (w.heap.size + 1, [.int .i64 n, .string S, .string T, .slice C es.length ce, .slice (some ⟨b, o', none⟩) rcs.length dr]), (w.heap.size + 1 + 1, recV x), (g3, edV t)]) wr)
    : Code.wp Tryd.prog (cfst (recAt 19)) (Exit.then K (bodyPost Tryd.prog Tryd.f52 (RetQ w))) { tmps := #[.agg #[.slice A rs.length c, .slice B m d], .agg #[.int .i64 n, .string S, .string T, .slice C es.length ce, .slice (some ⟨b, o', none⟩) rcs.length dr], .int .i64 i, .pointer (some ⟨w.heap.size, 0, none⟩), .pointer (some ⟨w.heap.size + 1, 0, none⟩), u5, u6, .pointer (some ⟨w.heap.size + 1 + 1, 0, none⟩), .pointer (some ⟨g3, 0, none⟩), .bool q, u10, u11, u12, u13, u14, u15, u16, u17, u18, u19, u20, u21, u22, u23, u24, u25, u26, u27, u28, u29, u30, u31, u32, u33, u34, u35, u36, u37, u38, u39, u40, u41, u42, u43, u44, u45, u46, u47, u48, u49, u50, u51, u52, u53, u54, u55, u56, u57, u58, u59, u60, u61, u62, u63, u64, u65, u66, u67, u68, u69, u70, u71, u72, u73, u74, u75, u76, u77, u78, u79, u80, u81, u82, u83, u84, u85, u86, u87, u88, u89, u90, u91, u92, u93, u94, u95, u96, u97, u98, u99, u100, u101, u102, u103, u104, u105, u106, u107, u108, u109, u110, u111, u112, u113, u114, u115, u116, u117, u118, u119, u120, u121, u122, u123, u124, u125, u126, u127, u128, u129, u130, u131, u132, u133, u134, u135, u136, u137, u138, u139, u140, u141, u142, u143, u144, u145, u146, u147, u148, u149, u150, u151, u152, u153, u154, u155, u156, u157, u158, u159, u160, u161, u162, u163, u164, u165, u166, u167, u168, u169, u170, u171, u172, u173, u174, u175, u176, u177, u178, u179, u180, u181, u182, u183, u184, u185, u186, u187, u188, u189, u190, u191, u192, u193, u194, u195, u196, u197, u198, u199, u200, u201, u202, u203, u204, u205, u206, u207, u208, u209, u210, u211, u212, u213, u214, u215, u216, u217, u218, u219, u220, u221, u222, u223, u224, u225, u226, u227, u228, u229, u230, u231, u232, u233, u234, u235, u236, u237, u238, u239, u240, u241, u242], defers := [] } wr := by
  conv at hK => enter [x, y, 1, 2]; whnf
  conv => arg 2; whnf
  have HLL : Hid (x.lst ≤ 100000) := Lib.hid hx3
  obtain ⟨d0, d1⟩ := HS.out.get 0 rfl |>.c2
  obtain ⟨k0, k1, k2, k3, k4⟩ := HS.out.get 1 rfl |>.c5
  obtain ⟨x0, x1, x2, x3, x4, x5⟩ := HS.out.get 2 rfl |>.rc
  have g0l := (HS.out.get 0 rfl).2.2
  have g1l := (HS.out.get 1 rfl).2.2
  have g2l := (HS.out.get 2 rfl).2.2
  obtain ⟨t0, t1, t2, t3, t4, t5, t6, t7, t8, t9, t10, t11⟩ := (HS.out.get 3 rfl).ed
  have HGT := Lib.hid (fun W h => get_any A B c m d rs x.frm x.lst W h hrl)
  unfold RetOR at HGT
  generalize (getR rs x.frm x.lst).isSome = ob at *
  generalize hsv : (getR rs x.frm x.lst).getD rv0 = sv at *
  have HSN : Hid (nearN sv.num) := Lib.hid (by
    rw [← hsv]
    cases hg : getR rs x.frm x.lst with
    | none => exact ⟨by decide, by decide⟩
    | some u => exact HRN.out u (getR_mem hg).1)
  clear hsv
  have HFT := Lib.hid (fun W h => first_any A B c m d rs sv W h hrl HRN.out HSN.out)
  unfold RetF at HFT
  generalize firstR rs sv = f at *
  unfold aggR at HGT HFT
  go_upto_region 21 with (first
    | (go_at_call 49; refine (HGT.out _ (HR.out.below (HS.go (by repeat (first | exact Below.refl _ _ | apply Below.drew | apply below_drewN | apply below_al))).out.low)).mono ?_; rintro e wg ⟨rfl, hb⟩; replace HS := HS.go2 (by repeat (first | exact Below.refl _ _ | apply Below.drew | apply below_drewN | apply below_al)) hb; clear hb; have HS2 : At (BB w [(w.heap.size, [.slice A rs.length c, .slice B m d]), (w.heap.size + 1, [.int .i64 n, .string S, .string T, .slice C es.length ce, .slice (some ⟨b, o', none⟩) rcs.length dr]), (w.heap.size + 1 + 1, recV x), (g3, edV t), (wg.heap.size, revV sv)]) (wg.alloc (.cells #[.string sv.path, .int .i64 sv.num, .int .i64 sv.chg, .int .i64 sv.act, .int .i64 sv.ty.1, .bool sv.ty.2.1, .bool sv.ty.2.2.1, .bool sv.ty.2.2.2, .int .u64 sv.cid.1, .int .i64 sv.cid.2, .string sv.frm, .int .i64 sv.fnum] 40)) := (HS.out.push (revV sv) 40 rfl).at_; clear HS; have HS := HS2; clear HS2; obtain ⟨d0, d1⟩ := HS.out.get 0 rfl |>.c2; obtain ⟨k0, k1, k2, k3, k4⟩ := HS.out.get 1 rfl |>.c5; obtain ⟨x0, x1, x2, x3, x4, x5⟩ := HS.out.get 2 rfl |>.rc; have g0l := (HS.out.get 0 rfl).2.2; have g1l := (HS.out.get 1 rfl).2.2; have g2l := (HS.out.get 2 rfl).2.2; obtain ⟨s0, s1, s2, s3, s4, s5, s6, s7, s8, s9, s10, s11⟩ := (HS.out.get 4 rfl).rev)
    | (go_at_call 36; refine (HFT.out _ (HR.out.below (HS.go (by repeat (first | exact Below.refl _ _ | apply Below.drew | apply below_drewN | apply below_al))).out.low)).mono ?_; rintro e wf ⟨rfl, hb⟩; replace HS := HS.go2 (by repeat (first | exact Below.refl _ _ | apply Below.drew | apply below_drewN | apply below_al)) hb; clear hb; have HS2 : At (BB w [(w.heap.size, [.slice A rs.length c, .slice B m d]), (w.heap.size + 1, [.int .i64 n, .string S, .string T, .slice C es.length ce, .slice (some ⟨b, o', none⟩) rcs.length dr]), (w.heap.size + 1 + 1, recV x), (g3, edV t), (wg.heap.size, revV sv), (wf.heap.size, [.string f.path, .int .i64 f.num])]) (wf.alloc (.cells #[.string f.path, .int .i64 f.num] 31)) := (HS.out.push [.string f.path, .int .i64 f.num] 31 rfl).at_; clear HS; have HS := HS2; clear HS2))
  generalize hg4 : wg.heap.size = g4 at *
  generalize hg5 : wf.heap.size = g5 at *
  clear hg4 hg5
  clear d0 d1 k0 k1 k2 k3 k4 x0 x1 x2 x3 x4 x5 t0 t1 t2 t3 t4 t5 t6 t7 t8 t9 t10 t11 s0 s1 s2 s3 s4 s5 s6 s7 s8 s9 s10 s11 g0l g1l g2l
  obtain ⟨d0, d1⟩ := (HS.go (by repeat (first | exact Below.refl _ _ | apply Below.drew | apply below_drewN | apply below_al))).out.get 0 rfl |>.c2
  obtain ⟨k0, k1, k2, k3, k4⟩ := (HS.go (by repeat (first | exact Below.refl _ _ | apply Below.drew | apply below_drewN | apply below_al))).out.get 1 rfl |>.c5
  obtain ⟨x0, x1, x2, x3, x4, x5⟩ := (HS.go (by repeat (first | exact Below.refl _ _ | apply Below.drew | apply below_drewN | apply below_al))).out.get 2 rfl |>.rc
  obtain ⟨t0, t1, t2, t3, t4, t5, t6, t7, t8, t9, t10, t11⟩ := ((HS.go (by repeat (first | exact Below.refl _ _ | apply Below.drew | apply below_drewN | apply below_al))).out.get 3 rfl).ed
  obtain ⟨s0, s1, s2, s3, s4, s5, s6, s7, s8, s9, s10, s11⟩ := ((HS.go (by repeat (first | exact Below.refl _ _ | apply Below.drew | apply below_drewN | apply below_al))).out.get 4 rfl).rev
  obtain ⟨f0, f1⟩ := (HS.go (by repeat (first | exact Below.refl _ _ | apply Below.drew | apply below_drewN | apply below_al))).out.get 5 rfl |>.c2
  have g0l := ((HS.go (by repeat (first | exact Below.refl _ _ | apply Below.drew | apply below_drewN | apply below_al))).out.get 0 rfl).2.2
  have g1l := ((HS.go (by repeat (first | exact Below.refl _ _ | apply Below.drew | apply below_drewN | apply below_al))).out.get 1 rfl).2.2
  have g2l := ((HS.go (by repeat (first | exact Below.refl _ _ | apply Below.drew | apply below_drewN | apply below_al))).out.get 2 rfl).2.2
  have g3l := ((HS.go (by repeat (first | exact Below.refl _ _ | apply Below.drew | apply below_drewN | apply below_al))).out.get 3 rfl).2.2
  have g4l := ((HS.go (by repeat (first | exact Below.refl _ _ | apply Below.drew | apply below_drewN | apply below_al))).out.get 4 rfl).2.2
  have g5l := ((HS.go (by repeat (first | exact Below.refl _ _ | apply Below.drew | apply below_drewN | apply below_al))).out.get 5 rfl).2.2
  have hx3 : x.lst ≤ 100000 := by have := HLL.out; omega
  go_wp2_with fail
  go_loopw [17] (fun s17 wr => ∃ j : Int, x.fst ≤ j ∧ j ≤ x.lst + 1 ∧ s17 = .int .i64 j ∧ Hid (BB w [(w.heap.size, [.slice A rs.length c, .slice B m d]), (w.heap.size + 1, [.int .i64 n, .string S, .string T, .slice C es.length ce, .slice (some ⟨b, o', none⟩) rcs.length dr]), (w.heap.size + 1 + 1, recV x), (g3, edV t), (g4, revV sv), (g5, [.string f.path, .int .i64 f.num])] wr)) (fun s17 _ => (x.lst + 1 - intOf s17).toNat)
  case atStart => exact ⟨x.fst, by omega, by omega, rfl, Lib.hid (HS.go (by repeat (first | exact Below.refl _ _ | apply Below.drew | apply below_drewN | apply below_al))).out⟩
  case round =>
    clear HS
    clear d0 d1 k0 k1 k2 k3 k4 x0 x1 x2 x3 x4 x5 t0 t1 t2 t3 t4 t5 t6 t7 t8 t9 t10 t11 s0 s1 s2 s3 s4 s5 s6 s7 s8 s9 s10 s11 g0l g1l g2l g3l g4l g5l f0 f1
    obtain ⟨j, hj1, hj2, rfl, HSX0⟩ := hrel
    have HS : At (BB w [(w.heap.size, [.slice A rs.length c, .slice B m d]), (w.heap.size + 1, [.int .i64 n, .string S, .string T, .slice C es.length ce, .slice (some ⟨b, o', none⟩) rcs.length dr]), (w.heap.size + 1 + 1, recV x), (g3, edV t), (g4, revV sv), (g5, [.string f.path, .int .i64 f.num])]) wr := HSX0.out.at_
    clear HSX0
    obtain ⟨d0, d1⟩ := (HS.go (by repeat (first | exact Below.refl _ _ | apply Below.drew | apply below_drewN | apply below_al))).out.get 0 rfl |>.c2
    obtain ⟨k0, k1, k2, k3, k4⟩ := (HS.go (by repeat (first | exact Below.refl _ _ | apply Below.drew | apply below_drewN | apply below_al))).out.get 1 rfl |>.c5
    obtain ⟨x0, x1, x2, x3, x4, x5⟩ := (HS.go (by repeat (first | exact Below.refl _ _ | apply Below.drew | apply below_drewN | apply below_al))).out.get 2 rfl |>.rc
    obtain ⟨t0, t1, t2, t3, t4, t5, t6, t7, t8, t9, t10, t11⟩ := ((HS.go (by repeat (first | exact Below.refl _ _ | apply Below.drew | apply below_drewN | apply below_al))).out.get 3 rfl).ed
    obtain ⟨s0, s1, s2, s3, s4, s5, s6, s7, s8, s9, s10, s11⟩ := ((HS.go (by repeat (first | exact Below.refl _ _ | apply Below.drew | apply below_drewN | apply below_al))).out.get 4 rfl).rev
    obtain ⟨f0, f1⟩ := (HS.go (by repeat (first | exact Below.refl _ _ | apply Below.drew | apply below_drewN | apply below_al))).out.get 5 rfl |>.c2
    have g0l := ((HS.go (by repeat (first | exact Below.refl _ _ | apply Below.drew | apply below_drewN | apply below_al))).out.get 0 rfl).2.2
    have g1l := ((HS.go (by repeat (first | exact Below.refl _ _ | apply Below.drew | apply below_drewN | apply below_al))).out.get 1 rfl).2.2
    have g2l := ((HS.go (by repeat (first | exact Below.refl _ _ | apply Below.drew | apply below_drewN | apply below_al))).out.get 2 rfl).2.2
    have g3l := ((HS.go (by repeat (first | exact Below.refl _ _ | apply Below.drew | apply below_drewN | apply below_al))).out.get 3 rfl).2.2
    have g4l := ((HS.go (by repeat (first | exact Below.refl _ _ | apply Below.drew | apply below_drewN | apply below_al))).out.get 4 rfl).2.2
    have g5l := ((HS.go (by repeat (first | exact Below.refl _ _ | apply Below.drew | apply below_drewN | apply below_al))).out.get 5 rfl).2.2
    by_cases hj : j ≤ x.lst
    · as_aux_lemma =>
      have HG3 := Lib.hid (fun W h => get_any A B c m d rs x.frm j W h hrl)
      unfold RetOR at HG3
      generalize (getR rs x.frm j).isSome = ob2 at *
      generalize hsv : (getR rs x.frm j).getD rv0 = v at *
      have HVN : Hid (nearN v.num) := Lib.hid (by
        rw [← hsv]
        cases hg : getR rs x.frm j with
        | none => exact ⟨by decide, by decide⟩
        | some u => exact HRN.out u (getR_mem hg).1)
      clear hsv
      have HF3 := Lib.hid (fun W h => first_any A B c m d rs v W h hrl HRN.out HVN.out)
      unfold RetF at HF3
      generalize firstR rs v = fv at *
      unfold aggR at HG3 HF3
      go_upto_region 25 with (first
        | (go_at_call 49; refine (HG3.out _ (HR.out.below (HS.go (by repeat (first | exact Below.refl _ _ | apply Below.drew | apply below_drewN | apply below_al))).out.low)).mono ?_; rintro e wv ⟨rfl, hb⟩; replace HS := HS.go2 (by repeat (first | exact Below.refl _ _ | apply Below.drew | apply below_drewN | apply below_al)) hb; clear hb))
      have HV : At (fun w' => BX w' wv.heap.size (revV v)) (wv.alloc (.cells #[.string v.path, .int .i64 v.num, .int .i64 v.chg, .int .i64 v.act, .int .i64 v.ty.1, .bool v.ty.2.1, .bool v.ty.2.2.1, .bool v.ty.2.2.2, .int .u64 v.cid.1, .int .i64 v.cid.2, .string v.frm, .int .i64 v.fnum] 40)) := ⟨fun X Y h hb => h.below hb, BX.new wv (revV v) _ rfl⟩
      clear d0 d1 k0 k1 k2 k3 k4 x0 x1 x2 x3 x4 x5 t0 t1 t2 t3 t4 t5 t6 t7 t8 t9 t10 t11 s0 s1 s2 s3 s4 s5 s6 s7 s8 s9 s10 s11 g0l g1l g2l g3l g4l g5l f0 f1
      generalize hgv : wv.heap.size = gv at *
      clear hgv
      obtain ⟨v0, v1, v2, v3, v4, v5, v6, v7, v8, v9, v10, v11⟩ := HV.out.rev
      obtain ⟨d0, d1⟩ := (HS.go (by repeat (first | exact Below.refl _ _ | apply Below.drew | apply below_drewN | apply below_al))).out.get 0 rfl |>.c2
      obtain ⟨k0, k1, k2, k3, k4⟩ := (HS.go (by repeat (first | exact Below.refl _ _ | apply Below.drew | apply below_drewN | apply below_al))).out.get 1 rfl |>.c5
      obtain ⟨x0, x1, x2, x3, x4, x5⟩ := (HS.go (by repeat (first | exact Below.refl _ _ | apply Below.drew | apply below_drewN | apply below_al))).out.get 2 rfl |>.rc
      obtain ⟨t0, t1, t2, t3, t4, t5, t6, t7, t8, t9, t10, t11⟩ := ((HS.go (by repeat (first | exact Below.refl _ _ | apply Below.drew | apply below_drewN | apply below_al))).out.get 3 rfl).ed
      obtain ⟨s0, s1, s2, s3, s4, s5, s6, s7, s8, s9, s10, s11⟩ := ((HS.go (by repeat (first | exact Below.refl _ _ | apply Below.drew | apply below_drewN | apply below_al))).out.get 4 rfl).rev
      obtain ⟨f0, f1⟩ := (HS.go (by repeat (first | exact Below.refl _ _ | apply Below.drew | apply below_drewN | apply below_al))).out.get 5 rfl |>.c2
      have g0l := ((HS.go (by repeat (first | exact Below.refl _ _ | apply Below.drew | apply below_drewN | apply below_al))).out.get 0 rfl).2.2
      have g1l := ((HS.go (by repeat (first | exact Below.refl _ _ | apply Below.drew | apply below_drewN | apply below_al))).out.get 1 rfl).2.2
      have g2l := ((HS.go (by repeat (first | exact Below.refl _ _ | apply Below.drew | apply below_drewN | apply below_al))).out.get 2 rfl).2.2
      have g3l := ((HS.go (by repeat (first | exact Below.refl _ _ | apply Below.drew | apply below_drewN | apply below_al))).out.get 3 rfl).2.2
      have g4l := ((HS.go (by repeat (first | exact Below.refl _ _ | apply Below.drew | apply below_drewN | apply below_al))).out.get 4 rfl).2.2
      have g5l := ((HS.go (by repeat (first | exact Below.refl _ _ | apply Below.drew | apply below_drewN | apply below_al))).out.get 5 rfl).2.2
      by_cases a5 : v.act = 5
      · have ba5 : (v.act == 5) = true := by simpa using a5
        clear a5
        go_quiet (fail)
        all_goals
          go_wp2_with fail
          go_ret
          exact ⟨_, rfl, (HS.go (by repeat (first | exact Below.refl _ _ | apply Below.drew | apply below_drewN | apply below_al))).out.low⟩
      · have ba5 : (v.act == 5) = false := by simpa using a5
        clear a5
        have hfe := fun w => file_eq fv.path f.path fv.num f.num w
        generalize fileB fv.path f.path fv.num f.num = fb at *
        cases fb with
        | true =>
          go_region_held3 (fun w' => w'.cell? ⟨w.heap.size, 0, none⟩ = some (.slice A rs.length c) ∧ w'.cell? ⟨w.heap.size, 1, none⟩ = some (.slice B m d) ∧ w'.cell? ⟨gv, 0, none⟩ = some (.string v.path) ∧ w'.cell? ⟨gv, 1, none⟩ = some (.int .i64 v.num) ∧ w'.cell? ⟨gv, 2, none⟩ = some (.int .i64 v.chg) ∧ w'.cell? ⟨gv, 3, none⟩ = some (.int .i64 v.act) ∧ w'.cell? ⟨gv, 4, none⟩ = some (.int .i64 v.ty.1) ∧ w'.cell? ⟨gv, 5, none⟩ = some (.bool v.ty.2.1) ∧ w'.cell? ⟨gv, 6, none⟩ = some (.bool v.ty.2.2.1) ∧ w'.cell? ⟨gv, 7, none⟩ = some (.bool v.ty.2.2.2) ∧ w'.cell? ⟨gv, 8, none⟩ = some (.int .u64 v.cid.1) ∧ w'.cell? ⟨gv, 9, none⟩ = some (.int .i64 v.cid.2) ∧ w'.cell? ⟨gv, 10, none⟩ = some (.string v.frm) ∧ w'.cell? ⟨gv, 11, none⟩ = some (.int .i64 v.fnum) ∧ w'.cell? ⟨g5, 0, none⟩ = some (.string f.path) ∧ w'.cell? ⟨g5, 1, none⟩ = some (.int .i64 f.num))
            (first | exact reads25 ((HS.go (by repeat (first | exact Below.refl _ _ | apply Below.drew | apply below_drewN | apply below_al))).out.get 0 rfl).c2 (HV.go (by repeat (first | exact Below.refl _ _ | apply Below.drew | apply below_drewN | apply below_al))).out.rev ((HS.go (by repeat (first | exact Below.refl _ _ | apply Below.drew | apply below_drewN | apply below_al))).out.get 5 rfl).c2)
            (first | (go_at_call 36; refine (HF3.out _ (HR.out.below (HS.go (by repeat (first | exact Below.refl _ _ | apply Below.drew | apply below_drewN | apply below_al))).out.low)).mono ?_; rintro e wl ⟨rfl, hb⟩; replace HS := HS.go2 (by repeat (first | exact Below.refl _ _ | apply Below.drew | apply below_drewN | apply below_al)) hb; replace HV := HV.go2 (by repeat (first | exact Below.refl _ _ | apply Below.drew | apply below_drewN | apply below_al)) hb; clear hb))
          all_goals
            go_wp2_with fail
            go_roundw
            case rel => exact ⟨j + 1, by omega, by omega, rfl, Lib.hid (HS.go (by repeat (first | exact Below.refl _ _ | apply Below.drew | apply below_drewN | apply below_al))).out⟩
            case measure => simp [intOf]; omega
        | false =>
          go_region_held3 (fun w' => w'.cell? ⟨w.heap.size, 0, none⟩ = some (.slice A rs.length c) ∧ w'.cell? ⟨w.heap.size, 1, none⟩ = some (.slice B m d) ∧ w'.cell? ⟨gv, 0, none⟩ = some (.string v.path) ∧ w'.cell? ⟨gv, 1, none⟩ = some (.int .i64 v.num) ∧ w'.cell? ⟨gv, 2, none⟩ = some (.int .i64 v.chg) ∧ w'.cell? ⟨gv, 3, none⟩ = some (.int .i64 v.act) ∧ w'.cell? ⟨gv, 4, none⟩ = some (.int .i64 v.ty.1) ∧ w'.cell? ⟨gv, 5, none⟩ = some (.bool v.ty.2.1) ∧ w'.cell? ⟨gv, 6, none⟩ = some (.bool v.ty.2.2.1) ∧ w'.cell? ⟨gv, 7, none⟩ = some (.bool v.ty.2.2.2) ∧ w'.cell? ⟨gv, 8, none⟩ = some (.int .u64 v.cid.1) ∧ w'.cell? ⟨gv, 9, none⟩ = some (.int .i64 v.cid.2) ∧ w'.cell? ⟨gv, 10, none⟩ = some (.string v.frm) ∧ w'.cell? ⟨gv, 11, none⟩ = some (.int .i64 v.fnum) ∧ w'.cell? ⟨g5, 0, none⟩ = some (.string f.path) ∧ w'.cell? ⟨g5, 1, none⟩ = some (.int .i64 f.num))
            (first | exact reads25 ((HS.go (by repeat (first | exact Below.refl _ _ | apply Below.drew | apply below_drewN | apply below_al))).out.get 0 rfl).c2 (HV.go (by repeat (first | exact Below.refl _ _ | apply Below.drew | apply below_drewN | apply below_al))).out.rev ((HS.go (by repeat (first | exact Below.refl _ _ | apply Below.drew | apply below_drewN | apply below_al))).out.get 5 rfl).c2)
            (first | (go_at_call 36; refine (HF3.out _ (HR.out.below (HS.go (by repeat (first | exact Below.refl _ _ | apply Below.drew | apply below_drewN | apply below_al))).out.low)).mono ?_; rintro e wl ⟨rfl, hb⟩; replace HS := HS.go2 (by repeat (first | exact Below.refl _ _ | apply Below.drew | apply below_drewN | apply below_al)) hb; replace HV := HV.go2 (by repeat (first | exact Below.refl _ _ | apply Below.drew | apply below_drewN | apply below_al)) hb; clear hb))
          all_goals
            go_wp2_with fail
            go_ret
            exact ⟨_, rfl, (HS.go (by repeat (first | exact Below.refl _ _ | apply Below.drew | apply below_drewN | apply below_al))).out.low⟩
    ·
      as_aux_lemma =>
        go_upto_region 27 with (fail)
        exact rec_27 (hK := by assumption) (hK1 := by assumption) (hrl := hrl) (hel := hel) (hcl := hcl) (q1 := q1) (q2 := q2) (HR := HR) (HE := HE) (HM := HM) (HRN := HRN) (HEN := HEN) (HC := HC) (hg1 := hg1) (hg2 := hg2) (HTN := HTN) (HS := HS)
end Go.Proofs.YteagecjhpfijjaaDoor

