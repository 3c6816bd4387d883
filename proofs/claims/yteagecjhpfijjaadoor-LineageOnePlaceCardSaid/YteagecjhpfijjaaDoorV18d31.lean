/-
  The walk of the reference's record: its last part.
-/
import Derived.Test.YteagecjhpfijjaaDoorV18c
namespace Go.Proofs.YteagecjhpfijjaaDoor
set_option linter.unusedSimpArgs false
set_option linter.unusedVariables false
open Go.RowKit

set_option maxHeartbeats 40000000 in
set_option maxRecDepth 100000 in
theorem rec_31 {A B C : Option Addr} {c m d ce dr : Nat} {rs : List Rv} {n : Int} {S T : ByteArray} {es : List Ed} {rcs : List Rc} {i : Nat} {x : Rc} {w wr : World} {b o' : Nat} {g3 : Nat} {t : Ed} {q : Bool} {g4 g5 : Nat} {sv f : Rv}
    {u5 u6 u10 u11 u12 u13 u15 u17 u18 u19 u20 u21 u22 u23 u24 u25 u26 u27 u28 u29 u30 u31 u32 u33 u34 u35 u36 u37 u38 u39 u40 u41 u42 u43 u44 u45 u46 u47 u48 u49 u50 u51 u52 u53 u54 u55 u56 u57 u58 u59 u60 u61 u62 u63 u64 u65 u66 u67 u68 u69 u70 u71 u72 u73 u74 u75 u76 u77 u78 u79 u80 u81 u82 u83 u84 u85 u86 u87 u88 u89 u90 u91 u92 u93 u94 u95 u96 u97 u98 u99 u100 u101 u102 u103 u104 u105 u106 u107 u108 u109 u110 u111 u112 u113 u114 u115 u116 u117 u118 u119 u120 u121 u122 u123 u124 u125 u126 u127 u128 u129 u130 u131 u132 u133 u134 u135 u136 u137 u138 u139 u140 u141 u142 u143 u144 u145 u146 u147 u148 u149 u150 u151 u152 u153 u154 u155 u156 u157 u158 u159 u160 u161 u162 u163 u164 u165 u166 u167 u168 u169 u170 u171 u172 u173 u174 u175 u176 u177 u178 u179 u180 u181 u182 u183 u184 u185 u186 u187 u188 u189 u190 u191 u192 u193 u194 u195 u196 u197 u198 u199 u200 u201 u202 u203 u204 u205 u206 u207 u208 u209 u210 u211 u212 u213 u214 u215 u216 u217 u218 u219 u220 u221 u222 u223 u224 u225 u226 u227 u228 u229 u230 u231 u232 u233 u234 u235 u236 u237 u238 u239 u240 u241 u242 : Value}
    (hrl : rs.length ≤ 100000) (hel : es.length ≤ 100000) (hcl : rcs.length ≤ 100000) (q1 : rcs.length ≤ dr) (q2 : dr ≤ 9223372036854775807)
    (HR : Hid (RV w A c rs)) (HE : Hid (EV w C ce es)) (HM : Hid (ML w)) (HRN : Hid (∀ u ∈ rs, nearN u.num)) (HEN : Hid (∀ y ∈ es, nearN y.base ∧ nearN (y.base + 1))) (HC : Hid (RC w (some ⟨b, o', none⟩) dr rcs)) (hg1 : w.heap.size + 1 < g3) (hg2 : w.heap.size + 1 + 1 < g3) (HTN : Hid (nearN t.base ∧ nearN (t.base + 1))) (HS : At (BB w [(w.heap.size, [.slice A rs.length c, .slice B m d]), (w.heap.size + 1, [.int .i64 n, .string S, .string T, .slice C es.length ce, .slice (some ⟨b, o', none⟩) rcs.length dr]), (w.heap.size + 1 + 1, recV x), (g3, edV t), (g4, revV sv), (g5, [.string f.path, .int .i64 f.num])]) wr)
    : Code.wp Tryd.prog (recAt 31) (bodyPost Tryd.prog Tryd.f52 (RetQ w)) { tmps := #[.agg #[.slice A rs.length c, .slice B m d], .agg #[.int .i64 n, .string S, .string T, .slice C es.length ce, .slice (some ⟨b, o', none⟩) rcs.length dr], .int .i64 i, .pointer (some ⟨w.heap.size, 0, none⟩), .pointer (some ⟨w.heap.size + 1, 0, none⟩), u5, u6, .pointer (some ⟨w.heap.size + 1 + 1, 0, none⟩), .pointer (some ⟨g3, 0, none⟩), .bool q, u10, u11, u12, u13, .pointer (some ⟨g4, 0, none⟩), u15, .pointer (some ⟨g5, 0, none⟩), u17, u18, u19, u20, u21, u22, u23, u24, u25, u26, u27, u28, u29, u30, u31, u32, u33, u34, u35, u36, u37, u38, u39, u40, u41, u42, u43, u44, u45, u46, u47, u48, u49, u50, u51, u52, u53, u54, u55, u56, u57, u58, u59, u60, u61, u62, u63, u64, u65, u66, u67, u68, u69, u70, u71, u72, u73, u74, u75, u76, u77, u78, u79, u80, u81, u82, u83, u84, u85, u86, u87, u88, u89, u90, u91, u92, u93, u94, u95, u96, u97, u98, u99, u100, u101, u102, u103, u104, u105, u106, u107, u108, u109, u110, u111, u112, u113, u114, u115, u116, u117, u118, u119, u120, u121, u122, u123, u124, u125, u126, u127, u128, u129, u130, u131, u132, u133, u134, u135, u136, u137, u138, u139, u140, u141, u142, u143, u144, u145, u146, u147, u148, u149, u150, u151, u152, u153, u154, u155, u156, u157, u158, u159, u160, u161, u162, u163, u164, u165, u166, u167, u168, u169, u170, u171, u172, u173, u174, u175, u176, u177, u178, u179, u180, u181, u182, u183, u184, u185, u186, u187, u188, u189, u190, u191, u192, u193, u194, u195, u196, u197, u198, u199, u200, u201, u202, u203, u204, u205, u206, u207, u208, u209, u210, u211, u212, u213, u214, u215, u216, u217, u218, u219, u220, u221, u222, u223, u224, u225, u226, u227, u228, u229, u230, u231, u232, u233, u234, u235, u236, u237, u238, u239, u240, u241, u242], defers := [] } wr := by
  conv => arg 2; whnf
  obtain ⟨d0, d1⟩ := (HS.go (by repeat (first | exact Below.refl _ _ | apply Below.drew | apply below_drewN | apply below_al))).out.get 0 rfl |>.c2
  obtain ⟨k0, k1, k2, k3, k4⟩ := (HS.go (by repeat (first | exact Below.refl _ _ | apply Below.drew | apply below_drewN | apply below_al))).out.get 1 rfl |>.c5
  obtain ⟨x0, x1, x2, x3, x4, x5⟩ := (HS.go (by repeat (first | exact Below.refl _ _ | apply Below.drew | apply below_drewN | apply below_al))).out.get 2 rfl |>.rc
  obtain ⟨t0, t1, t2, t3, t4, t5, t6, t7, t8, t9, t10, t11⟩ := ((HS.go (by repeat (first | exact Below.refl _ _ | apply Below.drew | apply below_drewN | apply below_al))).out.get 3 rfl).ed
  obtain ⟨s0, s1, s2, s3, s4, s5, s6, s7, s8, s9, s10, s11⟩ := ((HS.go (by repeat (first | exact Below.refl _ _ | apply Below.drew | apply below_drewN | apply below_al))).out.get 4 rfl).rev
  obtain ⟨f0, f1⟩ := (HS.go (by repeat (first | exact Below.refl _ _ | apply Below.drew | apply below_drewN | apply below_al))).out.get 5 rfl |>.c2
  have g0l := ((HS.go (by repeat (first | exact Below.refl _ _ | apply Below.drew | apply below_drewN | apply below_al))).out.get 0 rfl).2.2
  have g1l := ((HS.go (by repeat (first | exact Below.refl _ _ | apply Below.drew | apply below_drewN | apply below_al))).out.get 1 rfl).2.2
  have g2l := ((HS.go (by repeat (first | exact Below.refl _ _ | apply Below.drew | apply below_drewN | apply below_al))).out.get 2 rfl).2.2
  have g3l := ((HS.go (by repeat (first | exact Below.refl _ _ | apply Below.drew | apply below_drewN | apply below_al))).out.get 3 rfl).2.2
  have g4l := ((HS.go (by repeat (first | exact Below.refl _ _ | apply Below.drew | apply below_drewN | apply below_al))).out.get 4 rfl).2.2
  have g5l := ((HS.go (by repeat (first | exact Below.refl _ _ | apply Below.drew | apply below_drewN | apply below_al))).out.get 5 rfl).2.2
  go_upto_if 189 with (fail)
  go_cut [22] (fun _ wx => At (BB w [(w.heap.size, [.slice A rs.length c, .slice B m d]), (w.heap.size + 1, [.int .i64 n, .string S, .string T, .slice C es.length ce, .slice (some ⟨b, o', none⟩) rcs.length dr]), (w.heap.size + 1 + 1, recV x), (g3, edV t), (g4, revV sv), (g5, [.string f.path, .int .i64 f.num])]) wx)
  case first =>
   as_aux_lemma =>
    by_cases a1 : x.how = 1
    · have b1 : (x.how == 1) = true := by simpa using a1
      clear a1
      have hte := fun w => ty_eqd 9998 sv.ty.1 t.ty.1 sv.ty.2.1 sv.ty.2.2.1 sv.ty.2.2.2 t.ty.2.1 t.ty.2.2.1 t.ty.2.2.2 w
      have hce := fun w => cid_eqd 9998 sv.cid.1 sv.cid.2 t.cid.1 t.cid.2 w
      simp only [show 9998 + 2 = 10000 from rfl] at hte hce
      generalize (sv.ty.1 == t.ty.1 && (sv.ty.2.1 == t.ty.2.1 && (sv.ty.2.2.1 == t.ty.2.2.1 && sv.ty.2.2.2 == t.ty.2.2.2))) = tb at *
      generalize (sv.cid.1 == t.cid.1 && sv.cid.2 == t.cid.2) = cb at *
      cases s3b : (sv.act == 3) with
      | true =>
        cases t3b : (t.act == 3) with
        | true =>
          go_wp2_with fail
          go_meet
          exact HS.go (by repeat (first | exact Below.refl _ _ | apply Below.drew | apply below_drewN | apply below_al))
        | false =>
          go_wp2_with fail
          go_ret
          exact ⟨_, rfl, (HS.go (by repeat (first | exact Below.refl _ _ | apply Below.drew | apply below_drewN | apply below_al))).out.low⟩
      | false =>
        cases t3b : (t.act == 3) with
        | true =>
          go_wp2_with fail
          go_ret
          exact ⟨_, rfl, (HS.go (by repeat (first | exact Below.refl _ _ | apply Below.drew | apply below_drewN | apply below_al))).out.low⟩
        | false =>
          cases tb with
          | false =>
            go_wp2_with fail
            go_ret
            exact ⟨_, rfl, (HS.go (by repeat (first | exact Below.refl _ _ | apply Below.drew | apply below_drewN | apply below_al))).out.low⟩
          | true =>
            cases cb with
            | false =>
              go_wp2_with fail
              go_ret
              exact ⟨_, rfl, (HS.go (by repeat (first | exact Below.refl _ _ | apply Below.drew | apply below_drewN | apply below_al))).out.low⟩
            | true =>
              go_wp2_with fail
              go_meet
              exact HS.go (by repeat (first | exact Below.refl _ _ | apply Below.drew | apply below_drewN | apply below_al))
    · have b1 : (x.how == 1) = false := by simpa using a1
      clear a1
      go_wp2_with fail
      go_meet
      exact HS.go (by repeat (first | exact Below.refl _ _ | apply Below.drew | apply below_drewN | apply below_al))
  case rest =>
    clear HS
    have HS := hcut
    clear hcut
    clear d0 d1 k0 k1 k2 k3 k4 x0 x1 x2 x3 x4 x5 t0 t1 t2 t3 t4 t5 t6 t7 t8 t9 t10 t11 s0 s1 s2 s3 s4 s5 s6 s7 s8 s9 s10 s11 g0l g1l g2l g3l g4l g5l f0 f1
    obtain ⟨d0, d1⟩ := (HS.go (by repeat (first | exact Below.refl _ _ | apply Below.drew | apply below_drewN | apply below_al))).out.get 0 rfl |>.c2
    obtain ⟨k0, k1, k2, k3, k4⟩ := (HS.go (by repeat (first | exact Below.refl _ _ | apply Below.drew | apply below_drewN | apply below_al))).out.get 1 rfl |>.c5
    obtain ⟨x0, x1, x2, x3, x4, x5⟩ := (HS.go (by repeat (first | exact Below.refl _ _ | apply Below.drew | apply below_drewN | apply below_al))).out.get 2 rfl |>.rc
    obtain ⟨t0, t1, t2, t3, t4, t5, t6, t7, t8, t9, t10, t11⟩ := ((HS.go (by repeat (first | exact Below.refl _ _ | apply Below.drew | apply below_drewN | apply below_al))).out.get 3 rfl).ed
    obtain ⟨s0, s1, s2, s3, s4, s5, s6, s7, s8, s9, s10, s11⟩ := ((HS.go (by repeat (first | exact Below.refl _ _ | apply Below.drew | apply below_drewN | apply below_al))).out.get 4 rfl).rev
    obtain ⟨f0, f1⟩ := (HS.go (by repeat (first | exact Below.refl _ _ | apply Below.drew | apply below_drewN | apply below_al))).out.get 5 rfl |>.c2
    have g0l := ((HS.go (by repeat (first | exact Below.refl _ _ | apply Below.drew | apply below_drewN | apply below_al))).out.get 0 rfl).2.2
    have g1l := ((HS.go (by repeat (first | exact Below.refl _ _ | apply Below.drew | apply below_drewN | apply below_al))).out.get 1 rfl).2.2
    have g2l := ((HS.go (by repeat (first | exact Below.refl _ _ | apply Below.drew | apply below_drewN | apply below_al))).out.get 2 rfl).2.2
    have g3l := ((HS.go (by repeat (first | exact Below.refl _ _ | apply Below.drew | apply below_drewN | apply below_al))).out.get 3 rfl).2.2
    have g4l := ((HS.go (by repeat (first | exact Below.refl _ _ | apply Below.drew | apply below_drewN | apply below_al))).out.get 4 rfl).2.2
    have g5l := ((HS.go (by repeat (first | exact Below.refl _ _ | apply Below.drew | apply below_drewN | apply below_al))).out.get 5 rfl).2.2
    cases q with
    | false =>
      go_wp2_with fail
      go_ret
      exact ⟨_, rfl, (HS.go (by repeat (first | exact Below.refl _ _ | apply Below.drew | apply below_drewN | apply below_al))).out.low⟩
    | true =>
      have HG8 := Lib.hid (fun W h => get_any A B c m d rs x.dst t.base W h hrl)
      unfold RetOR at HG8
      generalize (getR rs x.dst t.base).isSome = ob4 at *
      generalize (getR rs x.dst t.base).getD rv0 = u at *
      unfold aggR at HG8
      go_upto_region 37 with (first
        | (go_at_call 49; refine (HG8.out _ (HR.out.below (HS.go (by repeat (first | exact Below.refl _ _ | apply Below.drew | apply below_drewN | apply below_al))).out.low)).mono ?_; rintro e wu ⟨rfl, hb⟩; replace HS := HS.go2 (by repeat (first | exact Below.refl _ _ | apply Below.drew | apply below_drewN | apply below_al)) hb; clear hb))
      have HU : At (fun w' => BX w' wu.heap.size (revV u)) (wu.alloc (.cells #[.string u.path, .int .i64 u.num, .int .i64 u.chg, .int .i64 u.act, .int .i64 u.ty.1, .bool u.ty.2.1, .bool u.ty.2.2.1, .bool u.ty.2.2.2, .int .u64 u.cid.1, .int .i64 u.cid.2, .string u.frm, .int .i64 u.fnum] 40)) := ⟨fun X Y h hb => h.below hb, BX.new wu (revV u) _ rfl⟩
      clear d0 d1 k0 k1 k2 k3 k4 x0 x1 x2 x3 x4 x5 t0 t1 t2 t3 t4 t5 t6 t7 t8 t9 t10 t11 s0 s1 s2 s3 s4 s5 s6 s7 s8 s9 s10 s11 g0l g1l g2l g3l g4l g5l f0 f1
      obtain ⟨v0, v1, v2, v3, v4, v5, v6, v7, v8, v9, v10, v11⟩ := HU.out.rev
      obtain ⟨d0, d1⟩ := (HS.go (by repeat (first | exact Below.refl _ _ | apply Below.drew | apply below_drewN | apply below_al))).out.get 0 rfl |>.c2
      obtain ⟨k0, k1, k2, k3, k4⟩ := (HS.go (by repeat (first | exact Below.refl _ _ | apply Below.drew | apply below_drewN | apply below_al))).out.get 1 rfl |>.c5
      obtain ⟨x0, x1, x2, x3, x4, x5⟩ := (HS.go (by repeat (first | exact Below.refl _ _ | apply Below.drew | apply below_drewN | apply below_al))).out.get 2 rfl |>.rc
      obtain ⟨t0, t1, t2, t3, t4, t5, t6, t7, t8, t9, t10, t11⟩ := ((HS.go (by repeat (first | exact Below.refl _ _ | apply Below.drew | apply below_drewN | apply below_al))).out.get 3 rfl).ed
      obtain ⟨s0, s1, s2, s3, s4, s5, s6, s7, s8, s9, s10, s11⟩ := ((HS.go (by repeat (first | exact Below.refl _ _ | apply Below.drew | apply below_drewN | apply below_al))).out.get 4 rfl).rev
      obtain ⟨f0, f1⟩ := (HS.go (by repeat (first | exact Below.refl _ _ | apply Below.drew | apply below_drewN | apply below_al))).out.get 5 rfl |>.c2
      have g0l := ((HS.go (by repeat (first | exact Below.refl _ _ | apply Below.drew | apply below_drewN | apply below_al))).out.get 0 rfl).2.2
      have g1l := ((HS.go (by repeat (first | exact Below.refl _ _ | apply Below.drew | apply below_drewN | apply below_al))).out.get 1 rfl).2.2
      have g2l := ((HS.go (by repeat (first | exact Below.refl _ _ | apply Below.drew | apply below_drewN | apply below_al))).out.get 2 rfl).2.2
      have g3l := ((HS.go (by repeat (first | exact Below.refl _ _ | apply Below.drew | apply below_drewN | apply below_al))).out.get 3 rfl).2.2
      have g4l := ((HS.go (by repeat (first | exact Below.refl _ _ | apply Below.drew | apply below_drewN | apply below_al))).out.get 4 rfl).2.2
      have g5l := ((HS.go (by repeat (first | exact Below.refl _ _ | apply Below.drew | apply below_drewN | apply below_al))).out.get 5 rfl).2.2
      have hte := fun w => ty_eqd 9998 t.ty.1 u.ty.1 t.ty.2.1 t.ty.2.2.1 t.ty.2.2.2 u.ty.2.1 u.ty.2.2.1 u.ty.2.2.2 w
      have hce := fun w => cid_eqd 9998 t.cid.1 t.cid.2 u.cid.1 u.cid.2 w
      simp only [show 9998 + 2 = 10000 from rfl] at hte hce
      generalize (t.ty.1 == u.ty.1 && (t.ty.2.1 == u.ty.2.1 && (t.ty.2.2.1 == u.ty.2.2.1 && t.ty.2.2.2 == u.ty.2.2.2))) = tb at *
      generalize (t.cid.1 == u.cid.1 && t.cid.2 == u.cid.2) = cb at *
      cases t2b : (t.act == 2) with
      | false =>
        go_wp2_with fail
        go_ret
        exact ⟨_, rfl, (HS.go (by repeat (first | exact Below.refl _ _ | apply Below.drew | apply below_drewN | apply below_al))).out.low⟩
      | true =>
        cases tb with
        | false =>
          go_wp2_with fail
          go_ret
          exact ⟨_, rfl, (HS.go (by repeat (first | exact Below.refl _ _ | apply Below.drew | apply below_drewN | apply below_al))).out.low⟩
        | true =>
          go_wp2_with fail
          go_ret
          exact ⟨_, rfl, (HS.go (by repeat (first | exact Below.refl _ _ | apply Below.drew | apply below_drewN | apply below_al))).out.low⟩
end Go.Proofs.YteagecjhpfijjaaDoor

