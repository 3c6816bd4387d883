/-
  The walk of the reference's record: the line of the target.
-/
import Derived.Test.YteagecjhpfijjaaDoorV18d31
namespace Go.Proofs.YteagecjhpfijjaaDoor
set_option linter.unusedSimpArgs false
set_option linter.unusedVariables false
open Go.RowKit

set_option maxHeartbeats 40000000 in
set_option maxRecDepth 100000 in
theorem rec_27 {A B C : Option Addr} {c m d ce dr : Nat} {rs : List Rv} {n : Int} {S T : ByteArray} {es : List Ed} {rcs : List Rc} {i : Nat} {x : Rc} {w wr : World} {b o' : Nat} {g3 : Nat} {t : Ed} {q : Bool} {g4 g5 : Nat} {sv f : Rv}
    {u5 u6 u10 u11 u12 u13 u15 u17 u18 u19 u20 u21 u22 u23 u24 u25 u26 u27 u28 u29 u30 u31 u32 u33 u34 u35 u36 u37 u38 u39 u40 u41 u42 u43 u44 u45 u46 u47 u48 u49 u50 u51 u52 u53 u54 u55 u56 u57 u58 u59 u60 u61 u62 u63 u64 u65 u66 u67 u68 u69 u70 u71 u72 u73 u74 u75 u76 u77 u78 u79 u80 u81 u82 u83 u84 u85 u86 u87 u88 u89 u90 u91 u92 u93 u94 u95 u96 u97 u98 u99 u100 u101 u102 u103 u104 u105 u106 u107 u108 u109 u110 u111 u112 u113 u114 u115 u116 u117 u118 u119 u120 u121 u122 u123 u124 u125 u126 u127 u128 u129 u130 u131 u132 u133 u134 u135 u136 u137 u138 u139 u140 u141 u142 u143 u144 u145 u146 u147 u148 u149 u150 u151 u152 u153 u154 u155 u156 u157 u158 u159 u160 u161 u162 u163 u164 u165 u166 u167 u168 u169 u170 u171 u172 u173 u174 u175 u176 u177 u178 u179 u180 u181 u182 u183 u184 u185 u186 u187 u188 u189 u190 u191 u192 u193 u194 u195 u196 u197 u198 u199 u200 u201 u202 u203 u204 u205 u206 u207 u208 u209 u210 u211 u212 u213 u214 u215 u216 u217 u218 u219 u220 u221 u222 u223 u224 u225 u226 u227 u228 u229 u230 u231 u232 u233 u234 u235 u236 u237 u238 u239 u240 u241 u242 : Value}
    (hrl : rs.length ≤ 100000) (hel : es.length ≤ 100000) (hcl : rcs.length ≤ 100000) (q1 : rcs.length ≤ dr) (q2 : dr ≤ 9223372036854775807)
    (HR : Hid (RV w A c rs)) (HE : Hid (EV w C ce es)) (HM : Hid (ML w)) (HRN : Hid (∀ u ∈ rs, nearN u.num)) (HEN : Hid (∀ y ∈ es, nearN y.base ∧ nearN (y.base + 1))) (HC : Hid (RC w (some ⟨b, o', none⟩) dr rcs)) (hg1 : w.heap.size + 1 < g3) (hg2 : w.heap.size + 1 + 1 < g3) (HTN : Hid (nearN t.base ∧ nearN (t.base + 1))) {K K1 : Act → World → Prop} (hK : ∀ x y, Code.wp Tryd.prog (csnd (cfst (recAt 27))) (Exit.then K1 (bodyPost Tryd.prog Tryd.f52 (RetQ w))) x y → K x y) (hK1 : ∀ x y, Code.wp Tryd.prog (csnd (recAt 27)) (bodyPost Tryd.prog Tryd.f52 (RetQ w)) x y → K1 x y) (HS : At (BB w [(w.heap.size, [.slice A rs.length c, .slice B m d]), (w.heap.size + 1, [.int .i64 n, .string S, .string T, .slice C es.length ce, .slice (some ⟨b, o', none⟩) rcs.length dr]), (w.heap.size + 1 + 1, recV x), (g3, edV t), (g4, revV sv), (g5, [.string f.path, .int .i64 f.num])]) wr)
    : Code.wp Tryd.prog (cfst (cfst (recAt 27))) (Exit.then K (Exit.then K1 (bodyPost Tryd.prog Tryd.f52 (RetQ w)))) { tmps := #[.agg #[.slice A rs.length c, .slice B m d], .agg #[.int .i64 n, .string S, .string T, .slice C es.length ce, .slice (some ⟨b, o', none⟩) rcs.length dr], .int .i64 i, .pointer (some ⟨w.heap.size, 0, none⟩), .pointer (some ⟨w.heap.size + 1, 0, none⟩), u5, u6, .pointer (some ⟨w.heap.size + 1 + 1, 0, none⟩), .pointer (some ⟨g3, 0, none⟩), .bool q, u10, u11, u12, u13, .pointer (some ⟨g4, 0, none⟩), u15, .pointer (some ⟨g5, 0, none⟩), u17, u18, u19, u20, u21, u22, u23, u24, u25, u26, u27, u28, u29, u30, u31, u32, u33, u34, u35, u36, u37, u38, u39, u40, u41, u42, u43, u44, u45, u46, u47, u48, u49, u50, u51, u52, u53, u54, u55, u56, u57, u58, u59, u60, u61, u62, u63, u64, u65, u66, u67, u68, u69, u70, u71, u72, u73, u74, u75, u76, u77, u78, u79, u80, u81, u82, u83, u84, u85, u86, u87, u88, u89, u90, u91, u92, u93, u94, u95, u96, u97, u98, u99, u100, u101, u102, u103, u104, u105, u106, u107, u108, u109, u110, u111, u112, u113, u114, u115, u116, u117, u118, u119, u120, u121, u122, u123, u124, u125, u126, u127, u128, u129, u130, u131, u132, u133, u134, u135, u136, u137, u138, u139, u140, u141, u142, u143, u144, u145, u146, u147, u148, u149, u150, u151, u152, u153, u154, u155, u156, u157, u158, u159, u160, u161, u162, u163, u164, u165, u166, u167, u168, u169, u170, u171, u172, u173, u174, u175, u176, u177, u178, u179, u180, u181, u182, u183, u184, u185, u186, u187, u188, u189, u190, u191, u192, u193, u194, u195, u196, u197, u198, u199, u200, u201, u202, u203, u204, u205, u206, u207, u208, u209, u210, u211, u212, u213, u214, u215, u216, u217, u218, u219, u220, u221, u222, u223, u224, u225, u226, u227, u228, u229, u230, u231, u232, u233, u234, u235, u236, u237, u238, u239, u240, u241, u242], defers := [] } wr := by
  conv at hK => enter [x, y, 1, 2]; whnf
  conv at hK1 => enter [x, y, 1, 2]; whnf
  conv => arg 2; whnf
  obtain ⟨d0, d1⟩ := (HS.go (by repeat (first | exact Below.refl _ _ | apply Below.drew | apply below_drewN | apply below_al))).out.get 0 rfl |>.c2
  obtain ⟨k0, k1, k2, k3, k4⟩ := (HS.go (by repeat (first | exact Below.refl _ _ | apply Below.drew | apply below_drewN | apply below_al))).out.get 1 rfl |>.c5
  obtain ⟨x0, x1, x2, x3, x4, x5⟩ := (HS.go (by repeat (first | exact Below.refl _ _ | apply Below.drew | apply below_drewN | apply below_al))).out.get 2 rfl |>.rc
  obtain ⟨t0, t1, t2, t3, t4, t5, t6, t7, t8, t9, t10, t11⟩ := ((HS.go (by repeat (first | exact Below.refl _ _ | apply Below.drew | apply below_drewN | apply below_al))).out.get 3 rfl).ed
  obtain ⟨s0, s1, s2, s3, s4, s5, s6, s7, s8, s9, s10, s11⟩ := ((HS.go (by repeat (first | exact Below.refl _ _ | apply Below.drew | apply below_drewN | apply below_al))).out.get 4 rfl).rev
  obtain ⟨f0, f1⟩ := (HS.go (by repeat (first | exact Below.refl _ _ | apply Below.drew | apply below_drewN | apply below_al))).out.get 5 rfl |>.c2
  have g0l := ((HS.go (by repeat (first | exact Below.refl _ _ | apply Below.drew | apply below_drewN | apply below_al))).out.get 0 rfl).2.2
  have g1l := ((HS.go (by repeat (first | exact Below.refl _ _ | apply Below.drew | apply below_drewN | apply below_al))).out.get 1 rfl).2.2
  have g2l := ((HS.go (by repeat (first | exact Below.refl _ _ | apply Below.drew | apply below_drewN | apply below_al))).out.get 2 rfl).2.2
  have g3l := ((HS.go (by repeat (first | exact Below.refl _ _ | apply Below.drew | apply below_drewN | apply below_al))).out.get 3 rfl).2.2
  have g4l := ((HS.go (by repeat (first | exact Below.refl _ _ | apply Below.drew | apply below_drewN | apply below_al))).out.get 4 rfl).2.2
  have g5l := ((HS.go (by repeat (first | exact Below.refl _ _ | apply Below.drew | apply below_drewN | apply below_al))).out.get 5 rfl).2.2
  go_upto_if 173 with (fail)
  go_cut [20] (fun _ wx => At (BB w [(w.heap.size, [.slice A rs.length c, .slice B m d]), (w.heap.size + 1, [.int .i64 n, .string S, .string T, .slice C es.length ce, .slice (some ⟨b, o', none⟩) rcs.length dr]), (w.heap.size + 1 + 1, recV x), (g3, edV t), (g4, revV sv), (g5, [.string f.path, .int .i64 f.num])]) wx)
  case first =>
    by_cases a1 : t.act = 1
    · have b1 : (t.act != 1) = false := by simpa using a1
      clear a1
      go_wp2_with fail
      go_meet
      exact HS.go (by repeat (first | exact Below.refl _ _ | apply Below.drew | apply below_drewN | apply below_al))
    · have b1 : (t.act != 1) = true := by simpa using a1
      clear a1
      have HMD := Lib.hid (fun W => made_any n S T C (some ⟨b, o', none⟩) es.length ce rcs.length dr t W HTN.out.1)
      have HPV := Lib.hid (fun W h => previous_any A B c m d rs (madeR n t) W h hrl HTN.out.2)
      unfold RetOR at HPV
      generalize (prevR rs (madeR n t)).isSome = ob3 at *
      generalize hsv : (prevR rs (madeR n t)).getD rv0 = u at *
      have HUN : Hid (nearN u.num) := Lib.hid (by
        rw [← hsv]
        cases hg : prevR rs (madeR n t) with
        | none => exact ⟨by decide, by decide⟩
        | some u => exact HRN.out u (prevR_mem hg))
      clear hsv
      have HF4 := Lib.hid (fun W h => first_any A B c m d rs u W h hrl HRN.out HUN.out)
      unfold RetF at HF4
      generalize firstR rs u = fu at *
      unfold madeR aggR at HPV
      unfold madeR aggR at HMD
      unfold aggR at HF4
      unfold aggE at HMD
      go_upto_region 28 with (fail)
      go_cut [20] (fun s20 wx => ∃ g : Nat, s20 = .pointer (some ⟨g, 0, none⟩) ∧ At (BB w [(w.heap.size, [.slice A rs.length c, .slice B m d]), (w.heap.size + 1, [.int .i64 n, .string S, .string T, .slice C es.length ce, .slice (some ⟨b, o', none⟩) rcs.length dr]), (w.heap.size + 1 + 1, recV x), (g3, edV t), (g4, revV sv), (g5, [.string f.path, .int .i64 f.num])]) wx ∧ At (fun w' => BX w' g (revV u)) wx)
      case first =>
        have HSx : (fun w' => w'.cell? ⟨w.heap.size, 0, none⟩ = some (.slice A rs.length c) ∧ w'.cell? ⟨w.heap.size, 1, none⟩ = some (.slice B m d) ∧ w'.cell? ⟨w.heap.size + 1, 0, none⟩ = some (.int .i64 n) ∧ w'.cell? ⟨w.heap.size + 1, 1, none⟩ = some (.string S) ∧ w'.cell? ⟨w.heap.size + 1, 2, none⟩ = some (.string T) ∧ w'.cell? ⟨w.heap.size + 1, 3, none⟩ = some (.slice C es.length ce) ∧ w'.cell? ⟨w.heap.size + 1, 4, none⟩ = some (.slice (some ⟨b, o', none⟩) rcs.length dr) ∧ w'.cell? ⟨g3, 0, none⟩ = some (.string t.path) ∧ w'.cell? ⟨g3, 1, none⟩ = some (.int .i64 t.act) ∧ w'.cell? ⟨g3, 2, none⟩ = some (.int .i64 t.ty.1) ∧ w'.cell? ⟨g3, 3, none⟩ = some (.bool t.ty.2.1) ∧ w'.cell? ⟨g3, 4, none⟩ = some (.bool t.ty.2.2.1) ∧ w'.cell? ⟨g3, 5, none⟩ = some (.bool t.ty.2.2.2) ∧ w'.cell? ⟨g3, 6, none⟩ = some (.int .u64 t.cid.1) ∧ w'.cell? ⟨g3, 7, none⟩ = some (.int .i64 t.cid.2) ∧ w'.cell? ⟨g3, 8, none⟩ = some (.int .i64 t.base) ∧ w'.cell? ⟨g3, 9, none⟩ = some (.string t.frm) ∧ w'.cell? ⟨g3, 10, none⟩ = some (.int .i64 t.fnum) ∧ w'.cell? ⟨g3, 11, none⟩ = some (.int .i64 t.fence)) wr.drew := by exact reads28 ((HS.go (Below.drew (Below.refl _ _))).out.get 0 rfl).c2 ((HS.go (Below.drew (Below.refl _ _))).out.get 1 rfl).c5 ((HS.go (Below.drew (Below.refl _ _))).out.get 3 rfl).ed
        refine wp_region_wpH (S := fun w' => w'.cell? ⟨w.heap.size, 0, none⟩ = some (.slice A rs.length c) ∧ w'.cell? ⟨w.heap.size, 1, none⟩ = some (.slice B m d) ∧ w'.cell? ⟨w.heap.size + 1, 0, none⟩ = some (.int .i64 n) ∧ w'.cell? ⟨w.heap.size + 1, 1, none⟩ = some (.string S) ∧ w'.cell? ⟨w.heap.size + 1, 2, none⟩ = some (.string T) ∧ w'.cell? ⟨w.heap.size + 1, 3, none⟩ = some (.slice C es.length ce) ∧ w'.cell? ⟨w.heap.size + 1, 4, none⟩ = some (.slice (some ⟨b, o', none⟩) rcs.length dr) ∧ w'.cell? ⟨g3, 0, none⟩ = some (.string t.path) ∧ w'.cell? ⟨g3, 1, none⟩ = some (.int .i64 t.act) ∧ w'.cell? ⟨g3, 2, none⟩ = some (.int .i64 t.ty.1) ∧ w'.cell? ⟨g3, 3, none⟩ = some (.bool t.ty.2.1) ∧ w'.cell? ⟨g3, 4, none⟩ = some (.bool t.ty.2.2.1) ∧ w'.cell? ⟨g3, 5, none⟩ = some (.bool t.ty.2.2.2) ∧ w'.cell? ⟨g3, 6, none⟩ = some (.int .u64 t.cid.1) ∧ w'.cell? ⟨g3, 7, none⟩ = some (.int .i64 t.cid.2) ∧ w'.cell? ⟨g3, 8, none⟩ = some (.int .i64 t.base) ∧ w'.cell? ⟨g3, 9, none⟩ = some (.string t.frm) ∧ w'.cell? ⟨g3, 10, none⟩ = some (.int .i64 t.fnum) ∧ w'.cell? ⟨g3, 11, none⟩ = some (.int .i64 t.fence)) (c := 4) (by kernel_rfl) ?_
        refine wpH_take2 (i := 0) (v := ?_) [4] 175 rfl rfl (by kernel_rfl) (by kernel_rfl) (by kernel_rfl) (by kernel_rfl) (by kernel_rfl) (fun _ _ _ h => h) (Or.inl ⟨by rfl, ?y0⟩) HSx ?r0
        case y0 =>
          intro w' hSw
          obtain ⟨q0, q1, q2, q3, q4, q5, q6, q7, q8, q9, q10, q11, q12, q13, q14, q15, q16, q17, q18⟩ := hSw
          go_simp
          with_reducible rfl
        try simp only [Act.put, List.setIfInBounds_toArray, List.set_cons_zero, List.set_cons_succ]
        refine wpH_take2 (i := 1) (v := ?_) [3, 4] 176 rfl rfl (by kernel_rfl) (by kernel_rfl) (by kernel_rfl) (by kernel_rfl) (by kernel_rfl) (fun _ _ _ h => h) (Or.inl ⟨by rfl, ?y1⟩) HSx ?r1
        case y1 =>
          intro w' hSw
          obtain ⟨q0, q1, q2, q3, q4, q5, q6, q7, q8, q9, q10, q11, q12, q13, q14, q15, q16, q17, q18⟩ := hSw
          go_simp
          with_reducible rfl
        try simp only [Act.put, List.setIfInBounds_toArray, List.set_cons_zero, List.set_cons_succ]
        refine wpH_take2 (i := 2) (v := ?_) [3, 4] 177 rfl rfl (by kernel_rfl) (by kernel_rfl) (by kernel_rfl) (by kernel_rfl) (by kernel_rfl) (fun _ _ _ h => h) (Or.inl ⟨by rfl, ?y2⟩) HSx ?r2
        case y2 =>
          intro w' hSw
          obtain ⟨q0, q1, q2, q3, q4, q5, q6, q7, q8, q9, q10, q11, q12, q13, q14, q15, q16, q17, q18⟩ := hSw
          go_simp
          with_reducible rfl
        try simp only [Act.put, List.setIfInBounds_toArray, List.set_cons_zero, List.set_cons_succ]
        refine wpH_all (rs := [3, 8]) (by kernel_rfl) (by simp) ?_
        intro z hz
        have hz2 : z = 3 ∨ z = 8 := by simpa using hz
        clear hz
        rcases hz2 with rfl | rfl
        ·
          refine wpOp_step rfl (fun K hK => ?_)
          go_simp
          refine (HMD.out _).mono ?_
          rintro e wl ⟨rfl, hb⟩
          have HSl := HS.go2 (by repeat (first | exact Below.refl _ _ | apply Below.drew | apply below_drewN | apply below_al)) hb
          clear hb
          refine hK _ _ ?_
          clear hK K
          rw [if_neg (by decide)]
          refine ⟨by exact reads28 ((HSl.go (by repeat (first | exact Below.refl _ _ | apply Below.drew | apply below_drewN | apply below_al))).out.get 0 rfl).c2 ((HSl.go (by repeat (first | exact Below.refl _ _ | apply Below.drew | apply below_drewN | apply below_al))).out.get 1 rfl).c5 ((HSl.go (by repeat (first | exact Below.refl _ _ | apply Below.drew | apply below_drewN | apply below_al))).out.get 3 rfl).ed, ?_⟩
          try simp only [Act.put, List.setIfInBounds_toArray, List.set_cons_zero, List.set_cons_succ]
          refine wpH_all (rs := [4, 8]) (by kernel_rfl) (by simp) ?_
          intro z hz
          have hz2 : z = 4 ∨ z = 8 := by simpa using hz
          clear hz
          rcases hz2 with rfl | rfl
          ·
            refine wpOp_step rfl (fun K hK => ?_)
            go_simp
            refine (HPV.out _ (HR.out.below (HSl.go (by repeat (first | exact Below.refl _ _ | apply Below.drew | apply below_drewN | apply below_al))).out.low)).mono ?_
            rintro e wp ⟨rfl, hb⟩
            have HSp := HSl.go2 (by repeat (first | exact Below.refl _ _ | apply Below.drew | apply below_drewN | apply below_al)) hb
            clear hb
            refine hK _ _ ?_
            rw [if_pos rfl]
            clear hK K
            try simp only [Act.put, List.setIfInBounds_toArray, List.set_cons_zero, List.set_cons_succ]
            refine takeA (i := 5) (v := ?_) 174 rfl rfl (by kernel_rfl) (by kernel_rfl) (by kernel_rfl) (fun _ _ _ h => h) (Or.inl ⟨by rfl, ?y5⟩) ?_
            case y5 =>
              intro w'
              go_simp
              with_reducible rfl
            try simp only [Act.put, List.setIfInBounds_toArray, List.set_cons_zero, List.set_cons_succ]
            refine takeA (i := 6) (v := ?_) 180 rfl rfl (by kernel_rfl) (by kernel_rfl) (by kernel_rfl) (fun _ _ _ h => h) (Or.inl ⟨by rfl, ?y6⟩) ?_
            case y6 =>
              intro w'
              go_simp
              with_reducible rfl
            try simp only [Act.put, List.setIfInBounds_toArray, List.set_cons_zero, List.set_cons_succ]
            refine takeA (i := 7) (v := ?_) 181 rfl rfl (by kernel_rfl) (by kernel_rfl) (by kernel_rfl) (fun _ _ _ h => h) (Or.inl ⟨by rfl, ?y7⟩) ?_
            case y7 =>
              intro w'
              go_simp
              with_reducible rfl
            try simp only [Act.put, List.setIfInBounds_toArray, List.set_cons_zero, List.set_cons_succ]
            refine wpAny_all (rs := [8]) (by kernel_rfl) (by simp) ?_
            intro z hz
            obtain rfl : z = 8 := by simpa using hz
            refine wpOp_step rfl (fun K hK => ?_)
            go_simp
            refine hK _ _ ?_
            clear hK K
            try simp only [Act.put, List.setIfInBounds_toArray, List.set_cons_zero, List.set_cons_succ]
            refine wpAny_all (rs := [9]) (by kernel_rfl) (by simp) ?_
            intro z hz
            obtain rfl : z = 9 := by simpa using hz
            refine wpOp_step rfl (fun K hK => ?_)
            go_simp
            refine hK _ _ ?_
            clear hK K
            try simp only [Act.put, List.setIfInBounds_toArray, List.set_cons_zero, List.set_cons_succ]
            refine wpAny_all (rs := [10]) (by kernel_rfl) (by simp) ?_
            intro z hz
            obtain rfl : z = 10 := by simpa using hz
            refine wpOp_step rfl (fun K hK => ?_)
            go_simp
            refine hK _ _ ?_
            clear hK K
            try simp only [Act.put, List.setIfInBounds_toArray, List.set_cons_zero, List.set_cons_succ]
            refine wpAny_done (by kernel_rfl) ?_ _
            go_wp2_with fail
            go_meet
            exact ⟨_, rfl, HSp.go (by repeat (first | exact Below.refl _ _ | apply Below.drew | apply below_drewN | apply below_al)), ⟨fun X Y h hb => h.below hb, BX.new wp (revV u) _ rfl⟩⟩
          ·
            refine wpOp_step rfl (fun K hK => ?_)
            go_simp
            refine hK _ _ ?_
            clear hK K
            rw [if_neg (by decide)]
            refine ⟨by exact reads28 ((HSl.go (by repeat (first | exact Below.refl _ _ | apply Below.drew | apply below_drewN | apply below_al))).out.get 0 rfl).c2 ((HSl.go (by repeat (first | exact Below.refl _ _ | apply Below.drew | apply below_drewN | apply below_al))).out.get 1 rfl).c5 ((HSl.go (by repeat (first | exact Below.refl _ _ | apply Below.drew | apply below_drewN | apply below_al))).out.get 3 rfl).ed, ?_⟩
            try simp only [Act.put, List.setIfInBounds_toArray, List.set_cons_zero, List.set_cons_succ]
            have HG : At (fun w' => BX w' wl.heap.size zeroV) (wl.alloc (.cells #[.string ⟨#[]⟩, .int .i64 0, .int .i64 0, .int .i64 0, .int .i64 0, .bool false, .bool false, .bool false, .int .u64 0, .int .i64 0, .string ⟨#[]⟩, .int .i64 0] 40)) := ⟨fun X Y h hb => h.below hb, BX.new wl zeroV _ (g := wl.heap.size) rfl⟩
            refine wpH_all (rs := [4]) (by kernel_rfl) (by simp) ?_
            intro z hz
            obtain rfl : z = 4 := by simpa using hz
            refine wpOp_step rfl (fun K hK => ?_)
            go_simp
            refine (HPV.out _ (HR.out.below (HSl.go (by repeat (first | exact Below.refl _ _ | apply Below.drew | apply below_drewN | apply below_al))).out.low)).mono ?_
            rintro e wp ⟨rfl, hb⟩
            have HSp := HSl.go2 (by repeat (first | exact Below.refl _ _ | apply Below.drew | apply below_drewN | apply below_al)) hb
            have HGp := HG.go2 (by repeat (first | exact Below.refl _ _ | apply Below.drew | apply below_drewN | apply below_al)) hb
            obtain ⟨v0, v1, v2, v3, v4, v5, v6, v7, v8, v9, v10, v11⟩ := (show At12 _ _ 0 rv0 from HGp.out.rev)
            have vf := HGp.out.2.1
            clear hb
            refine hK _ _ ?_
            rw [if_pos rfl]
            clear hK K
            try simp only [Act.put, List.setIfInBounds_toArray, List.set_cons_zero, List.set_cons_succ]
            refine takeA (i := 5) (v := ?_) 174 rfl rfl (by kernel_rfl) (by kernel_rfl) (by kernel_rfl) (fun _ _ _ h => h) (Or.inl ⟨by rfl, ?y5⟩) ?_
            case y5 =>
              intro w'
              go_simp
              with_reducible rfl
            try simp only [Act.put, List.setIfInBounds_toArray, List.set_cons_zero, List.set_cons_succ]
            refine takeA (i := 6) (v := ?_) 180 rfl rfl (by kernel_rfl) (by kernel_rfl) (by kernel_rfl) (fun _ _ _ h => h) (Or.inl ⟨by rfl, ?y6⟩) ?_
            case y6 =>
              intro w'
              go_simp
              with_reducible rfl
            try simp only [Act.put, List.setIfInBounds_toArray, List.set_cons_zero, List.set_cons_succ]
            refine takeA (i := 7) (v := ?_) 181 rfl rfl (by kernel_rfl) (by kernel_rfl) (by kernel_rfl) (fun _ _ _ h => h) (Or.inl ⟨by rfl, ?y7⟩) ?_
            case y7 =>
              intro w'
              go_simp
              with_reducible rfl
            try simp only [Act.put, List.setIfInBounds_toArray, List.set_cons_zero, List.set_cons_succ]
            refine wpAny_all (rs := [9]) (by kernel_rfl) (by simp) ?_
            intro z hz
            obtain rfl : z = 9 := by simpa using hz
            refine wpOp_step rfl (fun K hK => ?_)
            go_simp
            refine hK _ _ ?_
            clear hK K
            try simp only [Act.put, List.setIfInBounds_toArray, List.set_cons_zero, List.set_cons_succ]
            refine wpAny_all (rs := [10]) (by kernel_rfl) (by simp) ?_
            intro z hz
            obtain rfl : z = 10 := by simpa using hz
            refine wpOp_step rfl (fun K hK => ?_)
            go_simp
            refine hK _ _ ?_
            clear hK K
            try simp only [Act.put, List.setIfInBounds_toArray, List.set_cons_zero, List.set_cons_succ]
            refine wpAny_done (by kernel_rfl) ?_ _
            go_wp2_with fail
            go_meet
            exact ⟨_, rfl, ⟨BB.kept _ _, HSp.out.other12 (fun p hp => Nat.ne_of_lt (HSl.out.1 p hp).2.2) HSl.out.2.size _ _ _ _ _ _ _ _ _ _ _ _⟩, ⟨fun X Y h hb => h.below hb, HGp.out.put12 rfl _ _ _ _ _ _ _ _ _ _ _ _⟩⟩
        ·
          refine wpOp_step rfl (fun K hK => ?_)
          go_simp
          refine hK _ _ ?_
          clear hK K
          rw [if_neg (by decide)]
          refine ⟨by exact reads28 ((HS.go (by repeat (first | exact Below.refl _ _ | apply Below.drew | apply below_drewN | apply below_al))).out.get 0 rfl).c2 ((HS.go (by repeat (first | exact Below.refl _ _ | apply Below.drew | apply below_drewN | apply below_al))).out.get 1 rfl).c5 ((HS.go (by repeat (first | exact Below.refl _ _ | apply Below.drew | apply below_drewN | apply below_al))).out.get 3 rfl).ed, ?_⟩
          try simp only [Act.put, List.setIfInBounds_toArray, List.set_cons_zero, List.set_cons_succ]
          have HG : At (fun w' => BX w' wr.heap.size zeroV) (wr.drew.alloc (.cells #[.string ⟨#[]⟩, .int .i64 0, .int .i64 0, .int .i64 0, .int .i64 0, .bool false, .bool false, .bool false, .int .u64 0, .int .i64 0, .string ⟨#[]⟩, .int .i64 0] 40)) := ⟨fun X Y h hb => h.below hb, BX.new wr.drew zeroV _ (g := wr.heap.size) rfl⟩
          refine wpH_all (rs := [3]) (by kernel_rfl) (by simp) ?_
          intro z hz
          obtain rfl : z = 3 := by simpa using hz
          refine wpOp_step rfl (fun K hK => ?_)
          go_simp
          refine (HMD.out _).mono ?_
          rintro e wl ⟨rfl, hb⟩
          have HSl := HS.go2 (by repeat (first | exact Below.refl _ _ | apply Below.drew | apply below_drewN | apply below_al)) hb
          have HGl := HG.go2 (by repeat (first | exact Below.refl _ _ | apply Below.drew | apply below_drewN | apply below_al)) hb
          clear HG
          have HG := HGl
          clear HGl hb
          refine hK _ _ ?_
          clear hK K
          rw [if_neg (by decide)]
          refine ⟨by exact reads28 ((HSl.go (by repeat (first | exact Below.refl _ _ | apply Below.drew | apply below_drewN | apply below_al))).out.get 0 rfl).c2 ((HSl.go (by repeat (first | exact Below.refl _ _ | apply Below.drew | apply below_drewN | apply below_al))).out.get 1 rfl).c5 ((HSl.go (by repeat (first | exact Below.refl _ _ | apply Below.drew | apply below_drewN | apply below_al))).out.get 3 rfl).ed, ?_⟩
          try simp only [Act.put, List.setIfInBounds_toArray, List.set_cons_zero, List.set_cons_succ]
          refine wpH_all (rs := [4]) (by kernel_rfl) (by simp) ?_
          intro z hz
          obtain rfl : z = 4 := by simpa using hz
          refine wpOp_step rfl (fun K hK => ?_)
          go_simp
          refine (HPV.out _ (HR.out.below (HSl.go (by repeat (first | exact Below.refl _ _ | apply Below.drew | apply below_drewN | apply below_al))).out.low)).mono ?_
          rintro e wp ⟨rfl, hb⟩
          have HSp := HSl.go2 (by repeat (first | exact Below.refl _ _ | apply Below.drew | apply below_drewN | apply below_al)) hb
          have HGp := HG.go2 (by repeat (first | exact Below.refl _ _ | apply Below.drew | apply below_drewN | apply below_al)) hb
          obtain ⟨v0, v1, v2, v3, v4, v5, v6, v7, v8, v9, v10, v11⟩ := (show At12 _ _ 0 rv0 from HGp.out.rev)
          have vf := HGp.out.2.1
          clear hb
          refine hK _ _ ?_
          rw [if_pos rfl]
          clear hK K
          try simp only [Act.put, List.setIfInBounds_toArray, List.set_cons_zero, List.set_cons_succ]
          refine takeA (i := 5) (v := ?_) 174 rfl rfl (by kernel_rfl) (by kernel_rfl) (by kernel_rfl) (fun _ _ _ h => h) (Or.inl ⟨by rfl, ?y5⟩) ?_
          case y5 =>
            intro w'
            go_simp
            with_reducible rfl
          try simp only [Act.put, List.setIfInBounds_toArray, List.set_cons_zero, List.set_cons_succ]
          refine takeA (i := 6) (v := ?_) 180 rfl rfl (by kernel_rfl) (by kernel_rfl) (by kernel_rfl) (fun _ _ _ h => h) (Or.inl ⟨by rfl, ?y6⟩) ?_
          case y6 =>
            intro w'
            go_simp
            with_reducible rfl
          try simp only [Act.put, List.setIfInBounds_toArray, List.set_cons_zero, List.set_cons_succ]
          refine takeA (i := 7) (v := ?_) 181 rfl rfl (by kernel_rfl) (by kernel_rfl) (by kernel_rfl) (fun _ _ _ h => h) (Or.inl ⟨by rfl, ?y7⟩) ?_
          case y7 =>
            intro w'
            go_simp
            with_reducible rfl
          try simp only [Act.put, List.setIfInBounds_toArray, List.set_cons_zero, List.set_cons_succ]
          refine wpAny_all (rs := [9]) (by kernel_rfl) (by simp) ?_
          intro z hz
          obtain rfl : z = 9 := by simpa using hz
          refine wpOp_step rfl (fun K hK => ?_)
          go_simp
          refine hK _ _ ?_
          clear hK K
          try simp only [Act.put, List.setIfInBounds_toArray, List.set_cons_zero, List.set_cons_succ]
          refine wpAny_all (rs := [10]) (by kernel_rfl) (by simp) ?_
          intro z hz
          obtain rfl : z = 10 := by simpa using hz
          refine wpOp_step rfl (fun K hK => ?_)
          go_simp
          refine hK _ _ ?_
          clear hK K
          try simp only [Act.put, List.setIfInBounds_toArray, List.set_cons_zero, List.set_cons_succ]
          refine wpAny_done (by kernel_rfl) ?_ _
          go_wp2_with fail
          go_meet
          exact ⟨_, rfl, ⟨BB.kept _ _, HSp.out.other12 (fun p hp => Nat.ne_of_lt (HS.out.1 p hp).2.2) HS.out.2.size _ _ _ _ _ _ _ _ _ _ _ _⟩, ⟨fun X Y h hb => h.below hb, HGp.out.put12 rfl _ _ _ _ _ _ _ _ _ _ _ _⟩⟩
      case rest =>
       as_aux_lemma =>
        obtain ⟨gu, rfl, HS9, HU⟩ := hcut
        clear HS
        have HS := HS9
        clear HS9
        clear d0 d1 k0 k1 k2 k3 k4 x0 x1 x2 x3 x4 x5 t0 t1 t2 t3 t4 t5 t6 t7 t8 t9 t10 t11 s0 s1 s2 s3 s4 s5 s6 s7 s8 s9 s10 s11 g0l g1l g2l g3l g4l g5l f0 f1
        obtain ⟨d0, d1⟩ := (HS.go (by repeat (first | exact Below.refl _ _ | apply Below.drew | apply below_drewN | apply below_al))).out.get 0 rfl |>.c2
        obtain ⟨k0, k1, k2, k3, k4⟩ := (HS.go (by repeat (first | exact Below.refl _ _ | apply Below.drew | apply below_drewN | apply below_al))).out.get 1 rfl |>.c5
        obtain ⟨x0, x1, x2, x3, x4, x5⟩ := (HS.go (by repeat (first | exact Below.refl _ _ | apply Below.drew | apply below_drewN | apply below_al))).out.get 2 rfl |>.rc
        obtain ⟨t0, t1, t2, t3, t4, t5, t6, t7, t8, t9, t10, t11⟩ := ((HS.go (by repeat (first | exact Below.refl _ _ | apply Below.drew | apply below_drewN | apply below_al))).out.get 3 rfl).ed
        obtain ⟨s0, s1, s2, s3, s4, s5, s6, s7, s8, s9, s10, s11⟩ := ((HS.go (by repeat (first | exact Below.refl _ _ | apply Below.drew | apply below_drewN | apply below_al))).out.get 4 rfl).rev
        obtain ⟨f0, f1⟩ := (HS.go (by repeat (first | exact Below.refl _ _ | apply Below.drew | apply below_drewN | apply below_al))).out.get 5 rfl |>.c2
        have g0l := ((HS.go (by repeat (first | exact Below.refl _ _ | apply Below.drew | apply below_drewN | apply below_al))).out.get 0 rfl).2.2
        have g1l := ((HS.go (by repeat (first | exact Below.refl _ _ | apply Below.drew | apply below_drewN | apply below_al))).out.get 1 rfl).2.2
        have g2l := ((HS.go (by repeat (first | exact Below.refl _ _ | apply Below.drew | apply below_drewN | apply below_al))).out.get 2 rfl).2.2
        have g3l := ((HS.go (by repeat (first | exact Below.refl _ _ | apply Below.drew | apply below_drewN | apply below_al))).out.get 3 rfl).2.2
        have g4l := ((HS.go (by repeat (first | exact Below.refl _ _ | apply Below.drew | apply below_drewN | apply below_al))).out.get 4 rfl).2.2
        have g5l := ((HS.go (by repeat (first | exact Below.refl _ _ | apply Below.drew | apply below_drewN | apply below_al))).out.get 5 rfl).2.2
        obtain ⟨v0, v1, v2, v3, v4, v5, v6, v7, v8, v9, v10, v11⟩ := HU.out.rev
        have hfe := fun w => file_eq fu.path f.path fu.num f.num w
        generalize fileB fu.path f.path fu.num f.num = fb at *
        go_wp2_with fail
        cases fb with
        | true =>
          go_region_held3 (fun w' => w'.cell? ⟨w.heap.size, 0, none⟩ = some (.slice A rs.length c) ∧ w'.cell? ⟨w.heap.size, 1, none⟩ = some (.slice B m d) ∧ w'.cell? ⟨gu, 0, none⟩ = some (.string u.path) ∧ w'.cell? ⟨gu, 1, none⟩ = some (.int .i64 u.num) ∧ w'.cell? ⟨gu, 2, none⟩ = some (.int .i64 u.chg) ∧ w'.cell? ⟨gu, 3, none⟩ = some (.int .i64 u.act) ∧ w'.cell? ⟨gu, 4, none⟩ = some (.int .i64 u.ty.1) ∧ w'.cell? ⟨gu, 5, none⟩ = some (.bool u.ty.2.1) ∧ w'.cell? ⟨gu, 6, none⟩ = some (.bool u.ty.2.2.1) ∧ w'.cell? ⟨gu, 7, none⟩ = some (.bool u.ty.2.2.2) ∧ w'.cell? ⟨gu, 8, none⟩ = some (.int .u64 u.cid.1) ∧ w'.cell? ⟨gu, 9, none⟩ = some (.int .i64 u.cid.2) ∧ w'.cell? ⟨gu, 10, none⟩ = some (.string u.frm) ∧ w'.cell? ⟨gu, 11, none⟩ = some (.int .i64 u.fnum) ∧ w'.cell? ⟨g5, 0, none⟩ = some (.string f.path) ∧ w'.cell? ⟨g5, 1, none⟩ = some (.int .i64 f.num))
            (first | exact reads25 ((HS.go (by repeat (first | exact Below.refl _ _ | apply Below.drew | apply below_drewN | apply below_al))).out.get 0 rfl).c2 (HU.go (by repeat (first | exact Below.refl _ _ | apply Below.drew | apply below_drewN | apply below_al))).out.rev ((HS.go (by repeat (first | exact Below.refl _ _ | apply Below.drew | apply below_drewN | apply below_al))).out.get 5 rfl).c2)
            (first | (go_at_call 36; refine (HF4.out _ (HR.out.below (HS.go (by repeat (first | exact Below.refl _ _ | apply Below.drew | apply below_drewN | apply below_al))).out.low)).mono ?_; rintro e wl ⟨rfl, hb⟩; replace HS := HS.go2 (by repeat (first | exact Below.refl _ _ | apply Below.drew | apply below_drewN | apply below_al)) hb; replace HU := HU.go2 (by repeat (first | exact Below.refl _ _ | apply Below.drew | apply below_drewN | apply below_al)) hb; clear hb))
          all_goals
            go_wp2_with fail
            go_ret
            exact ⟨_, rfl, (HS.go (by repeat (first | exact Below.refl _ _ | apply Below.drew | apply below_drewN | apply below_al))).out.low⟩
        | false =>
          go_region_held3 (fun w' => w'.cell? ⟨w.heap.size, 0, none⟩ = some (.slice A rs.length c) ∧ w'.cell? ⟨w.heap.size, 1, none⟩ = some (.slice B m d) ∧ w'.cell? ⟨gu, 0, none⟩ = some (.string u.path) ∧ w'.cell? ⟨gu, 1, none⟩ = some (.int .i64 u.num) ∧ w'.cell? ⟨gu, 2, none⟩ = some (.int .i64 u.chg) ∧ w'.cell? ⟨gu, 3, none⟩ = some (.int .i64 u.act) ∧ w'.cell? ⟨gu, 4, none⟩ = some (.int .i64 u.ty.1) ∧ w'.cell? ⟨gu, 5, none⟩ = some (.bool u.ty.2.1) ∧ w'.cell? ⟨gu, 6, none⟩ = some (.bool u.ty.2.2.1) ∧ w'.cell? ⟨gu, 7, none⟩ = some (.bool u.ty.2.2.2) ∧ w'.cell? ⟨gu, 8, none⟩ = some (.int .u64 u.cid.1) ∧ w'.cell? ⟨gu, 9, none⟩ = some (.int .i64 u.cid.2) ∧ w'.cell? ⟨gu, 10, none⟩ = some (.string u.frm) ∧ w'.cell? ⟨gu, 11, none⟩ = some (.int .i64 u.fnum) ∧ w'.cell? ⟨g5, 0, none⟩ = some (.string f.path) ∧ w'.cell? ⟨g5, 1, none⟩ = some (.int .i64 f.num))
            (first | exact reads25 ((HS.go (by repeat (first | exact Below.refl _ _ | apply Below.drew | apply below_drewN | apply below_al))).out.get 0 rfl).c2 (HU.go (by repeat (first | exact Below.refl _ _ | apply Below.drew | apply below_drewN | apply below_al))).out.rev ((HS.go (by repeat (first | exact Below.refl _ _ | apply Below.drew | apply below_drewN | apply below_al))).out.get 5 rfl).c2)
            (first | (go_at_call 36; refine (HF4.out _ (HR.out.below (HS.go (by repeat (first | exact Below.refl _ _ | apply Below.drew | apply below_drewN | apply below_al))).out.low)).mono ?_; rintro e wl ⟨rfl, hb⟩; replace HS := HS.go2 (by repeat (first | exact Below.refl _ _ | apply Below.drew | apply below_drewN | apply below_al)) hb; replace HU := HU.go2 (by repeat (first | exact Below.refl _ _ | apply Below.drew | apply below_drewN | apply below_al)) hb; clear hb))
          all_goals
            go_wp2_with fail
            go_meet
            exact HS.go (by repeat (first | exact Below.refl _ _ | apply Below.drew | apply below_drewN | apply below_al))
  case rest =>
    clear HS
    have HS := hcut
    clear hcut
    clear d0 d1 k0 k1 k2 k3 k4 x0 x1 x2 x3 x4 x5 t0 t1 t2 t3 t4 t5 t6 t7 t8 t9 t10 t11 s0 s1 s2 s3 s4 s5 s6 s7 s8 s9 s10 s11 g0l g1l g2l g3l g4l g5l f0 f1
    obtain ⟨d0, d1⟩ := (HS.go (by repeat (first | exact Below.refl _ _ | apply Below.drew | apply below_drewN | apply below_al))).out.get 0 rfl |>.c2
    obtain ⟨k0, k1, k2, k3, k4⟩ := (HS.go (by repeat (first | exact Below.refl _ _ | apply Below.drew | apply below_drewN | apply below_al))).out.get 1 rfl |>.c5
    obtain ⟨x0, x1, x2, x3, x4, x5⟩ := (HS.go (by repeat (first | exact Below.refl _ _ | apply Below.drew | apply below_drewN | apply below_al))).out.get 2 rfl |>.rc
    obtain ⟨t0, t1, t2, t3, t4, t5, t6, t7, t8, t9, t10, t11⟩ := ((HS.go (by repeat (first | exact Below.refl _ _ | apply Below.drew | apply below_drewN | apply below_al))).out.get 3 rfl).ed
    obtain ⟨s0, s1, s2, s3, s4, s5, s6, s7, s8, s9, s10, s11⟩ := ((HS.go (by repeat (first | exact Below.refl _ _ | apply Below.drew | apply below_drewN | apply below_al))).out.get 4 rfl).rev
    obtain ⟨f0, f1⟩ := (HS.go (by repeat (first | exact Below.refl _ _ | apply Below.drew | apply below_drewN | apply below_al))).out.get 5 rfl |>.c2
    have g0l := ((HS.go (by repeat (first | exact Below.refl _ _ | apply Below.drew | apply below_drewN | apply below_al))).out.get 0 rfl).2.2
    have g1l := ((HS.go (by repeat (first | exact Below.refl _ _ | apply Below.drew | apply below_drewN | apply below_al))).out.get 1 rfl).2.2
    have g2l := ((HS.go (by repeat (first | exact Below.refl _ _ | apply Below.drew | apply below_drewN | apply below_al))).out.get 2 rfl).2.2
    have g3l := ((HS.go (by repeat (first | exact Below.refl _ _ | apply Below.drew | apply below_drewN | apply below_al))).out.get 3 rfl).2.2
    have g4l := ((HS.go (by repeat (first | exact Below.refl _ _ | apply Below.drew | apply below_drewN | apply below_al))).out.get 4 rfl).2.2
    have g5l := ((HS.go (by repeat (first | exact Below.refl _ _ | apply Below.drew | apply below_drewN | apply below_al))).out.get 5 rfl).2.2
    as_aux_lemma =>
      exact (by assumption : ∀ (a : Act) (w1 : World), Code.wp Tryd.prog (recAt 31) (bodyPost Tryd.prog Tryd.f52 (RetQ w)) a w1 → _) _ _ (rec_31 (hrl := hrl) (hel := hel) (hcl := hcl) (q1 := q1) (q2 := q2) (HR := HR) (HE := HE) (HM := HM) (HRN := HRN) (HEN := HEN) (HC := HC) (hg1 := hg1) (hg2 := hg2) (HTN := HTN) (HS := HS))
end Go.Proofs.YteagecjhpfijjaaDoor

