/-
  The walk of the reference's record: the edits.
-/
import Derived.Test.YteagecjhpfijjaaDoorV18d12
namespace Go.Proofs.YteagecjhpfijjaaDoor
set_option linter.unusedSimpArgs false
set_option linter.unusedVariables false
open Go.RowKit

set_option maxHeartbeats 40000000 in
set_option maxRecDepth 100000 in
theorem rec_4 {A B C : Option Addr} {c m d ce dr : Nat} {rs : List Rv} {n : Int} {S T : ByteArray} {es : List Ed} {rcs : List Rc} {i : Nat} {x : Rc} {w wr : World} {b o' : Nat} 
    {u5 u6 u8 u9 u10 u11 u12 u13 u14 u15 u16 u17 u18 u19 u20 u21 u22 u23 u24 u25 u26 u27 u28 u29 u30 u31 u32 u33 u34 u35 u36 u37 u38 u39 u40 u41 u42 u43 u44 u45 u46 u47 u48 u49 u50 u51 u52 u53 u54 u55 u56 u57 u58 u59 u60 u61 u62 u63 u64 u65 u66 u67 u68 u69 u70 u71 u72 u73 u74 u75 u76 u77 u78 u79 u80 u81 u82 u83 u84 u85 u86 u87 u88 u89 u90 u91 u92 u93 u94 u95 u96 u97 u98 u99 u100 u101 u102 u103 u104 u105 u106 u107 u108 u109 u110 u111 u112 u113 u114 u115 u116 u117 u118 u119 u120 u121 u122 u123 u124 u125 u126 u127 u128 u129 u130 u131 u132 u133 u134 u135 u136 u137 u138 u139 u140 u141 u142 u143 u144 u145 u146 u147 u148 u149 u150 u151 u152 u153 u154 u155 u156 u157 u158 u159 u160 u161 u162 u163 u164 u165 u166 u167 u168 u169 u170 u171 u172 u173 u174 u175 u176 u177 u178 u179 u180 u181 u182 u183 u184 u185 u186 u187 u188 u189 u190 u191 u192 u193 u194 u195 u196 u197 u198 u199 u200 u201 u202 u203 u204 u205 u206 u207 u208 u209 u210 u211 u212 u213 u214 u215 u216 u217 u218 u219 u220 u221 u222 u223 u224 u225 u226 u227 u228 u229 u230 u231 u232 u233 u234 u235 u236 u237 u238 u239 u240 u241 u242 : Value}
    (hrl : rs.length ≤ 100000) (hel : es.length ≤ 100000) (hcl : rcs.length ≤ 100000) (q1 : rcs.length ≤ dr) (q2 : dr ≤ 9223372036854775807)
    (HR : Hid (RV w A c rs)) (HE : Hid (EV w C ce es)) (HM : Hid (ML w)) (HRN : Hid (∀ u ∈ rs, nearN u.num)) (HEN : Hid (∀ y ∈ es, nearN y.base ∧ nearN (y.base + 1))) (HC : Hid (RC w (some ⟨b, o', none⟩) dr rcs))  {K : Act → World → Prop} (hK : ∀ x y, Code.wp Tryd.prog (csnd (recAt 4)) (bodyPost Tryd.prog Tryd.f52 (RetQ w)) x y → K x y) (HS : At (BB w [(w.heap.size, [.slice A rs.length c, .slice B m d]), (w.heap.size + 1, [.int .i64 n, .string S, .string T, .slice C es.length ce, .slice (some ⟨b, o', none⟩) rcs.length dr]), (w.heap.size + 1 + 1, recV x)]) wr)
    : Code.wp Tryd.prog (cfst (recAt 4)) (Exit.then K (bodyPost Tryd.prog Tryd.f52 (RetQ w))) { tmps := #[.agg #[.slice A rs.length c, .slice B m d], .agg #[.int .i64 n, .string S, .string T, .slice C es.length ce, .slice (some ⟨b, o', none⟩) rcs.length dr], .int .i64 i, .pointer (some ⟨w.heap.size, 0, none⟩), .pointer (some ⟨w.heap.size + 1, 0, none⟩), u5, u6, .pointer (some ⟨w.heap.size + 1 + 1, 0, none⟩), u8, u9, u10, u11, u12, u13, u14, u15, u16, u17, u18, u19, u20, u21, u22, u23, u24, u25, u26, u27, u28, u29, u30, u31, u32, u33, u34, u35, u36, u37, u38, u39, u40, u41, u42, u43, u44, u45, u46, u47, u48, u49, u50, u51, u52, u53, u54, u55, u56, u57, u58, u59, u60, u61, u62, u63, u64, u65, u66, u67, u68, u69, u70, u71, u72, u73, u74, u75, u76, u77, u78, u79, u80, u81, u82, u83, u84, u85, u86, u87, u88, u89, u90, u91, u92, u93, u94, u95, u96, u97, u98, u99, u100, u101, u102, u103, u104, u105, u106, u107, u108, u109, u110, u111, u112, u113, u114, u115, u116, u117, u118, u119, u120, u121, u122, u123, u124, u125, u126, u127, u128, u129, u130, u131, u132, u133, u134, u135, u136, u137, u138, u139, u140, u141, u142, u143, u144, u145, u146, u147, u148, u149, u150, u151, u152, u153, u154, u155, u156, u157, u158, u159, u160, u161, u162, u163, u164, u165, u166, u167, u168, u169, u170, u171, u172, u173, u174, u175, u176, u177, u178, u179, u180, u181, u182, u183, u184, u185, u186, u187, u188, u189, u190, u191, u192, u193, u194, u195, u196, u197, u198, u199, u200, u201, u202, u203, u204, u205, u206, u207, u208, u209, u210, u211, u212, u213, u214, u215, u216, u217, u218, u219, u220, u221, u222, u223, u224, u225, u226, u227, u228, u229, u230, u231, u232, u233, u234, u235, u236, u237, u238, u239, u240, u241, u242], defers := [] } wr := by
  conv at hK => enter [x, y, 1, 2]; whnf
  conv => arg 2; whnf
  obtain ⟨wc, rfl⟩ : ∃ wc, wc = wr := ⟨wr, rfl⟩
  obtain ⟨d0, d1⟩ := (HS.go (by repeat (first | exact Below.refl _ _ | apply Below.drew | apply below_drewN | apply below_al))).out.get 0 rfl |>.c2
  obtain ⟨k0, k1, k2, k3, k4⟩ := (HS.go (by repeat (first | exact Below.refl _ _ | apply Below.drew | apply below_drewN | apply below_al))).out.get 1 rfl |>.c5
  obtain ⟨x0, x1, x2, x3, x4, x5⟩ := (HS.go (by repeat (first | exact Below.refl _ _ | apply Below.drew | apply below_drewN | apply below_al))).out.get 2 rfl |>.rc
  have hg1 : w.heap.size + 1 < wc.heap.size := by have := (HS.out.get 1 rfl).2.2; omega
  have hg2 : w.heap.size + 1 + 1 < wc.heap.size := by have := (HS.out.get 2 rfl).2.2; omega
  have hec := HE.out.2.1
  have hecl := HE.out.1
  rw [List.length_map] at hecl
  go_wp2_with fail
  generalize hg3 : wc.heap.size = g3 at *
  go_loopw [56] (fun s56 wr => ∃ (k : Nat) (t : Ed), k ≤ es.length ∧ s56 = .int .i64 k ∧ Hid (nearN t.base ∧ nearN (t.base + 1)) ∧ Hid (BB w [(w.heap.size, [.slice A rs.length c, .slice B m d]), (w.heap.size + 1, [.int .i64 n, .string S, .string T, .slice C es.length ce, .slice (some ⟨b, o', none⟩) rcs.length dr]), (w.heap.size + 1 + 1, recV x), (g3, edV t)] wr)) (fun s56 _ => es.length - (intOf s56).toNat)
  case atStart => exact ⟨0, ed0, Nat.zero_le _, rfl, Lib.hid ⟨⟨by decide, by decide⟩, ⟨by decide, by decide⟩⟩, Lib.hid (HS.out.push (edV ed0) 63 hg3.symm)⟩
  case round =>
    clear HS d0 d1 k0 k1 k2 k3 k4 x0 x1 x2 x3 x4 x5
    obtain ⟨k, t, hk, rfl, HTN, HS⟩ := hrel
    obtain ⟨d0, d1⟩ := HS.out.get 0 rfl |>.c2
    obtain ⟨k0, k1, k2, k3, k4⟩ := HS.out.get 1 rfl |>.c5
    obtain ⟨x0, x1, x2, x3, x4, x5⟩ := HS.out.get 2 rfl |>.rc
    have g0l := (HS.out.get 0 rfl).2.2
    have g1l := (HS.out.get 1 rfl).2.2
    have g2l := (HS.out.get 2 rfl).2.2
    obtain ⟨t0, t1, t2, t3, t4, t5, t6, t7, t8, t9, t10, t11⟩ := (HS.out.get 3 rfl).ed
    by_cases hlt : k < es.length
    · obtain ⟨y, hy⟩ : ∃ y, es[k]? = some y := ⟨_, List.getElem?_eq_getElem hlt⟩
      have HYN := Lib.hid (HEN.out y (List.mem_of_getElem? hy))
      obtain ⟨⟨n1, n2⟩, _⟩ := HYN.out
      obtain ⟨b2, o2, rfl, hb2, y0, y1, y2, y3, y4, y5, y6, y7, y8, y9, y10, y11⟩ := (HE.out.below HS.out.low).at_ hy
      have tf := (HS.out.get 3 rfl).2.1
      have tl := (HS.out.get 3 rfl).2.2
      have hdis : ∀ p ∈ [(w.heap.size, [.slice A rs.length c, .slice B m d]), (w.heap.size + 1, [.int .i64 n, .string S, .string T, .slice (some ⟨b2, o2, none⟩) es.length ce, .slice (some ⟨b, o', none⟩) rcs.length dr]), (w.heap.size + 1 + 1, recV x)], p.1 ≠ g3 := fun p hp => by
        simp only [List.mem_cons, List.not_mem_nil, or_false] at hp
        rcases hp with rfl | rfl | rfl <;> simp only <;> omega
      have HDIS := Lib.hid hdis
      clear hdis hy
      by_cases s1 : y.path = x.dst
      · have e1 := str_eqt s1
        clear s1
        by_cases s2 : y.base + 1 = x.num
        · have e2 : (y.base + 1 == x.num) = true := by simpa using s2
          clear s2
          by_cases s3 : y.act = 5
          · have e3 : (y.act != 5) = false := by simpa using s3
            clear s3
            go_wp2_with fail
            go_roundw
            case rel => exact ⟨k + 1, t, by omega, by go_num, HTN, Lib.hid (HS.out.al _)⟩
            case measure => simp [intOf]; omega
          · have e3 : (y.act != 5) = true := by simpa using s3
            clear s3
            go_wp2_with fail
            go_roundw
            case rel => exact ⟨k + 1, y, by omega, by go_num, HYN, Lib.hid ((BB.tgt y HS.out HDIS.out (Nat.le_of_lt (Nat.lt_trans (Nat.lt_succ_self _) hg1))).al _)⟩
            case measure => simp [intOf]; omega
        · have e2 : (y.base + 1 == x.num) = false := by simpa using s2
          clear s2
          go_wp2_with fail
          go_roundw
          case rel => exact ⟨k + 1, t, by omega, by go_num, HTN, Lib.hid (HS.out.al _)⟩
          case measure => simp [intOf]; omega
      · have e1 := str_eqb s1
        clear s1
        go_wp2_with fail
        go_roundw
        case rel => exact ⟨k + 1, t, by omega, by go_num, HTN, Lib.hid (HS.out.al _)⟩
        case measure => simp [intOf]; omega
    · obtain rfl : k = es.length := by omega
      clear hec hecl hlt hk
      as_aux_lemma =>
        go_upto_region 12 with (fail)
        exact rec_12 (hK := by assumption) (hK1 := by assumption) (hrl := hrl) (hel := hel) (hcl := hcl) (q1 := q1) (q2 := q2) (HR := HR) (HE := HE) (HM := HM) (HRN := HRN) (HEN := HEN) (HC := HC) (hg1 := hg1) (hg2 := hg2) (HTN := HTN) (HS := HS)
end Go.Proofs.YteagecjhpfijjaaDoor

