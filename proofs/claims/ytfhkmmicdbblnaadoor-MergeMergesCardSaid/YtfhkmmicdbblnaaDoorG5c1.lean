/-
  The walk of the reference's Merge.
-/
import Derived.Test.YtfhkmmicdbblnaaDoorG5c
import Derived.Deep.DeepCutAuto
import Derived.Deep.RegionHeld3
namespace Go.Proofs.YtfhkmmicdbblnaaDoor
set_option linter.unusedSimpArgs false
set_option linter.unusedVariables false
open Go.RowKit Go.Maps

set_option maxHeartbeats 8000000 in
set_option maxRecDepth 1000000 in
theorem rm_1 {o a b : ByteArray}
    {w : World}
    {xs : List ByteArray}
    (lx : xs.length ≤ 400)
    {ys : List ByteArray}
    (ly : ys.length ≤ 400)
    {zs : List ByteArray}
    (lz : zs.length ≤ 400)
    {ps1 : List (Nat × Nat)}
    {ps2 : List (Nat × Nat)}
    (m1 : ¬400 < xs.length)
    (m2 : ¬400 < ys.length)
    (m3 : ¬400 < zs.length)
    {w1 : World}
    {c1 : Nat}
    {w2 : World}
    {A2 : Option Addr}
    {c2 : Nat}
    {w3 : World}
    {A3 : Option Addr}
    {c3 : Nat}
    (r1 : xs.length ≤ c1)
    (r2 : c1 ≤ 9223372036854775807)
    (r3 : ys.length ≤ c2)
    (r4 : c2 ≤ 9223372036854775807)
    (r5 : zs.length ≤ c3)
    (r6 : c3 ≤ 9223372036854775807)
    {w4 : World}
    {A4 : Option Addr}
    {c4 : Nat}
    {u14 u53 u54 u55 u56 u57 u58 u59 u60 u61 : Value}
    {wl : World}
    {w6 : World}
    {A6 : Option Addr}
    {c6 : Nat}
    {u16 u67 u68 u69 u70 u71 u72 u73 u74 u75 : Value}
    (hk : ps2.length ≤ ps2.length)
    {w8 : World}
    (HY : Hid (RT w8 A2 c2 ys))
    (HZ : Hid (RT w8 A3 c3 zs))
    (HBW : Hid (Below w.heap.size w w8))
    (HMR : Hid (MM w8 (w3.heap.size + 1) ps2.length ps2))
    (HML : Hid (MM w8 w3.heap.size ps1.length ps1))
    {Z0 : Act → World → Prop}
    {gk : Nat}
    {wr : World}
    {u22 u23 u24 u25 u26 u76 u77 u78 u79 u80 u81 u82 u83 u84 u85 u86 u87 u88 u89 u90 u91 u92 u93 u94 u95 u96 u97 u98 u99 u100 u101 u102 u103 u104 u105 u106 u107 u108 u109 u110 u111 u112 u113 u114 u115 u116 u117 u118 u119 u120 u121 u122 u123 u124 u125 u126 u127 u128 u129 u130 u131 u132 u133 u134 u135 u136 u137 u138 u139 u140 u141 u142 u143 u144 u145 u146 u147 u148 u149 u150 u151 u152 u153 u154 u155 u156 u157 u158 u159 u160 u161 u162 u163 u164 u165 u166 u167 u168 u169 u170 u171 u172 u173 u174 u175 u176 u177 u178 u179 u180 u181 u182 u183 u184 u185 u186 u187 u188 u189 u190 u191 u192 u193 u194 u195 u196 u197 u198 u199 u200 u201 u202 u203 u204 u205 u206 u207 u208 u209 u210 u211 u212 u213 u214 u215 u216 u217 u218 u219 u220 u221 u222 u223 u224 u225 u226 u227 u228 u229 u230 u231 u232 u233 u234 u235 u236 u237 u238 u239 u240 u241 u242 : Value}
    {JJ : Nat → Act → World → Prop}
    {KK : Act → World → Prop}
    (hkk : ∀ (a' : Act) (w' : World), Handed JJ gk a' w' → KK a' w')
    {f1 f2 f3 : Nat}
    {ps : List (Pc ByteArray)}
    (HB : Hid (Below w8.heap.size w8 wr))
    {A7 : Option Addr}
    {n7 : Nat}
    (HP : Hid (PS wr w8.heap.size (Value.slice A7 ps.length n7) ps))
    (hrc : ps.length ≤ n7)
    (hrc2 : n7 ≤ 9223372036854775807)
    (hbs : w8.heap.size ≤ wr.heap.size)
    (D1 D2 : DataW Unit)
    (HOWN1 : Hid (wr.ownsMap Tryd.prog 3 (plainElem Tryd.prog 3) w3.heap.size ps1.length D1))
    (HOWN2 : Hid (wr.ownsMap Tryd.prog 3 (plainElem Tryd.prog 3) (w3.heap.size + 1) ps2.length D2))
    {u : ByteArray}
    {bx ox : Nat}
    (HX : Hid (RT w8 (some { block := bx, off := ox }) c1 xs))
    (hjj : ∀ (k : Nat) (a' : Act) (w' : World),
    (∃ u17 u18 u19 u20 u21 u22 u23 u24 u25 u26 u76 u77 u78 u79 u80 u81 u82 u83 u84 u85 u86 u87 u88 u89 u90 u91 u92 u93
        u94 u95 u96 u97 u98 u99 u100 u101 u102 u103 u104 u105 u106 u107 u108 u109 u110 u111 u112 u113 u114 u115 u116
        u117 u118 u119 u120 u121 u122 u123 u124 u125 u126 u127 u128 u129 u130 u131 u132 u133 u134 u135 u136 u137 u138
        u139 u140 u141 u142 u143 u144 u145 u146 u147 u148 u149 u150 u151 u152 u153 u154 u155 u156 u157 u158 u159 u160
        u161 u162 u163 u164 u165 u166 u167 u168 u169 u170 u171 u172 u173 u174 u175 u176 u177 u178 u179 u180 u181 u182
        u183 u184 u185 u186 u187 u188 u189 u190 u191 u192 u193 u194 u195 u196 u197 u198 u199 u200 u201 u202 u203 u204
        u205 u206 u207 u208 u209 u210 u211 u212 u213 u214 u215 u216 u217 u218 u219 u220 u221 u222 u223 u224 u225 u226
        u227 u228 u229 u230 u231 u232 u233 u234 u235 u236 u237 u238 u239 u240 u241 u242,
        (∃ (m f1 f2 f3 : Nat) (ps : List (Pc ByteArray)),
            m + k = xs.length + 2 ∧
              u18 = Value.int IntKind.i64 (↑f1 : Int) ∧
                u19 = Value.int IntKind.i64 (↑f2 : Int) ∧
                  u20 = Value.int IntKind.i64 (↑f3 : Int) ∧
                    u21 = Value.int IntKind.i64 (↑m : Int) ∧
                      Hid (GE xs ys zs m (f1, f2, f3) ps) ∧
                        Hid (PS w' w8.heap.size u17 ps) ∧ Hid (Below w8.heap.size w8 w')) ∧
          a' =
            {
              tmps :=
                #[Value.string o, Value.string a, Value.string b, undef, undef, undef, Value.slice none 0 0,
                  Value.int IntKind.i64 0, Value.slice (some { block := bx, off := ox }) xs.length c1,
                  Value.slice A2 ys.length c2, Value.slice A3 zs.length c3, Value.map (some w3.heap.size),
                  Value.map (some (w3.heap.size + 1)), undef, u14, undef, u16, u17, u18, u19, u20, u21, u22, u23, u24,
                  u25, u26, Value.string o, Value.slice (some { block := bx, off := ox }) xs.length c1, Value.string a,
                  Value.slice A2 ys.length c2, Value.string b, Value.slice A3 zs.length c3,
                  Value.slice (some { block := bx, off := ox }) xs.length c1, Value.int IntKind.i64 (↑xs.length : Int),
                  Value.bool (decide (400 < (↑xs.length : Int))), Value.bool (decide (400 < (↑xs.length : Int))),
                  Value.slice A2 ys.length c2, Value.int IntKind.i64 (↑ys.length : Int),
                  Value.bool (decide (400 < (↑ys.length : Int))),
                  Value.bool (decide (400 < (↑xs.length : Int)) || decide (400 < (↑ys.length : Int))),
                  Value.bool (decide (400 < (↑xs.length : Int)) || decide (400 < (↑ys.length : Int))),
                  Value.slice A3 zs.length c3, Value.int IntKind.i64 (↑zs.length : Int),
                  Value.bool (decide (400 < (↑zs.length : Int))),
                  Value.bool
                    (decide (400 < (↑xs.length : Int)) || decide (400 < (↑ys.length : Int)) ||
                      decide (400 < (↑zs.length : Int))),
                  Value.map (some w3.heap.size), Value.map (some (w3.heap.size + 1)),
                  Value.slice (some { block := bx, off := ox }) xs.length c1, Value.slice A2 ys.length c2,
                  Value.slice A4 ps1.length c4, Value.int IntKind.i64 (↑ps1.length : Int),
                  Value.int IntKind.i64 (↑ps1.length : Int), Value.bool false, u54, u55, u56, u57, u58, u59, u60, u61,
                  Value.slice (some { block := bx, off := ox }) xs.length c1, Value.slice A3 zs.length c3,
                  Value.slice A6 ps2.length c6, Value.int IntKind.i64 (↑ps2.length : Int),
                  Value.int IntKind.i64 (↑ps2.length : Int), Value.bool false, u68, u69, u70, u71, u72, u73, u74, u75,
                  u76, u77, u78, u79, u80, u81, u82, u83, u84, u85, u86, u87, u88, u89, u90, u91, u92, u93, u94, u95,
                  u96, u97, u98, u99, u100, u101, u102, u103, u104, u105, u106, u107, u108, u109, u110, u111, u112,
                  u113, u114, u115, u116, u117, u118, u119, u120, u121, u122, u123, u124, u125, u126, u127, u128, u129,
                  u130, u131, u132, u133, u134, u135, u136, u137, u138, u139, u140, u141, u142, u143, u144, u145, u146,
                  u147, u148, u149, u150, u151, u152, u153, u154, u155, u156, u157, u158, u159, u160, u161, u162, u163,
                  u164, u165, u166, u167, u168, u169, u170, u171, u172, u173, u174, u175, u176, u177, u178, u179, u180,
                  u181, u182, u183, u184, u185, u186, u187, u188, u189, u190, u191, u192, u193, u194, u195, u196, u197,
                  u198, u199, u200, u201, u202, u203, u204, u205, u206, u207, u208, u209, u210, u211, u212, u213, u214,
                  u215, u216, u217, u218, u219, u220, u221, u222, u223, u224, u225, u226, u227, u228, u229, u230, u231,
                  u232, u233, u234, u235, u236, u237, u238, u239, u240, u241, u242, undef],
              defers := [] }) →
      JJ k a' w')
    (HBX : Hid (bx < w8.heap.size))
    (hm : f1 + gk = xs.length + 2)
    (HG : Hid (GE xs ys zs f1 (f1, f2, f3) ps))
    (hmu : f1 ≤ xs.length + 1)
    (hlt : f1 ≤ xs.length)
    (hpl : ps.length ≤ 2 * f1)
    (hl2 : f1 < xs.length)
    (HKEY : Hid (keyOf Tryd.prog 3 (Value.int IntKind.i64 (↑f1 : Int)) = some (Lit.int IntKind.i64 (↑f1 : Int))))
    (hh1 : has D1 (Lit.int IntKind.i64 (↑f1 : Int)) = true)
    (hh2 : has D2 (Lit.int IntKind.i64 (↑f1 : Int)) = true)
    (g1 : f1 ≤ f1)
    (g4 : f1 < xs.length)
    (HCU : Hid (w8.cell? { block := bx, off := ox + f1 } = some (Value.string u)))
    (g2 : f2 ≤ f2)
    (g5 : f2 < ys.length)
    (HV1 : Hid
    (∀ (y : Nat),
      some f2 = some y →
        ∀ (z : DataW Unit), D1.atKey (Lit.int IntKind.i64 (↑f1 : Int)) z = DataW.lit (Lit.int IntKind.i64 (↑y : Int))))
    (g3 : f3 ≤ f3)
    (g6 : f3 < zs.length)
    (HV2 : Hid
    (∀ (y : Nat),
      some f3 = some y →
        ∀ (z : DataW Unit), D2.atKey (Lit.int IntKind.i64 (↑f1 : Int)) z = DataW.lit (Lit.int IntKind.i64 (↑y : Int))))
    (HNO : Hid
    (¬(0 < f1 ∧ (f1, f2, f3) = (f1, f2, f3)) →
      GI xs ys zs (f1 + 1) (f1 + 1, f2 + 1, f3 + 1)
        (ps ++ diffP xs ys zs (f1, f2, f3) (f1, f2, f3) ++ [{ kind := 1, o := [u], a := [u], b := [u] }])))
    (HYES : Hid
    (0 < f1 ∧ (f1, f2, f3) = (f1, f2, f3) →
      ∃ qs p,
        ps = qs ++ [p] ∧
          p.kind = 1 ∧
            (p.o.length ≤ xs.length ∧ p.a.length ≤ ys.length ∧ p.b.length ≤ zs.length) ∧
              GI xs ys zs (f1 + 1) (f1 + 1, f2 + 1, f3 + 1)
                (qs ++ [{ kind := 1, o := p.o ++ [u], a := p.a ++ [u], b := p.b ++ [u] }])))
    (hm0 : 0 < f1) :
    Code.wp Tryd.prog rbody
    (Exit.then KK (Exit.inBlock 4 (Exit.then Z0 (bodyPost Tryd.prog Tryd.f19 (RetP w (mergeT o a b) (dvE [o, a, b]))))))
    {
      tmps :=
        #[Value.string o, Value.string a, Value.string b, undef, undef, undef, Value.slice none 0 0,
          Value.int IntKind.i64 0, Value.slice (some { block := bx, off := ox }) xs.length c1,
          Value.slice A2 ys.length c2, Value.slice A3 zs.length c3, Value.map (some w3.heap.size),
          Value.map (some (w3.heap.size + 1)), undef, u14, undef, u16, Value.slice A7 ps.length n7,
          Value.int IntKind.i64 (↑f1 : Int), Value.int IntKind.i64 (↑f2 : Int), Value.int IntKind.i64 (↑f3 : Int),
          Value.int IntKind.i64 (↑f1 : Int), u22, u23, u24, u25, u26, Value.string o,
          Value.slice (some { block := bx, off := ox }) xs.length c1, Value.string a, Value.slice A2 ys.length c2,
          Value.string b, Value.slice A3 zs.length c3, Value.slice (some { block := bx, off := ox }) xs.length c1,
          Value.int IntKind.i64 (↑xs.length : Int), Value.bool (decide (400 < (↑xs.length : Int))),
          Value.bool (decide (400 < (↑xs.length : Int))), Value.slice A2 ys.length c2,
          Value.int IntKind.i64 (↑ys.length : Int), Value.bool (decide (400 < (↑ys.length : Int))),
          Value.bool (decide (400 < (↑xs.length : Int)) || decide (400 < (↑ys.length : Int))),
          Value.bool (decide (400 < (↑xs.length : Int)) || decide (400 < (↑ys.length : Int))),
          Value.slice A3 zs.length c3, Value.int IntKind.i64 (↑zs.length : Int),
          Value.bool (decide (400 < (↑zs.length : Int))),
          Value.bool
            (decide (400 < (↑xs.length : Int)) || decide (400 < (↑ys.length : Int)) ||
              decide (400 < (↑zs.length : Int))),
          Value.map (some w3.heap.size), Value.map (some (w3.heap.size + 1)),
          Value.slice (some { block := bx, off := ox }) xs.length c1, Value.slice A2 ys.length c2,
          Value.slice A4 ps1.length c4, Value.int IntKind.i64 (↑ps1.length : Int),
          Value.int IntKind.i64 (↑ps1.length : Int), Value.bool false, u54, u55, u56, u57, u58, u59, u60, u61,
          Value.slice (some { block := bx, off := ox }) xs.length c1, Value.slice A3 zs.length c3,
          Value.slice A6 ps2.length c6, Value.int IntKind.i64 (↑ps2.length : Int),
          Value.int IntKind.i64 (↑ps2.length : Int), Value.bool false, u68, u69, u70, u71, u72, u73, u74, u75, u76, u77,
          u78, u79, u80, u81, u82, u83, u84, u85, u86, u87, u88, u89, u90, u91, u92, u93, u94, u95, u96, u97, u98, u99,
          u100, u101, u102, u103, u104, u105, u106, u107, u108, u109, u110, u111, u112, u113, u114, u115, u116, u117,
          u118, u119, u120, u121, u122, u123, u124, u125, u126, u127, u128, u129, u130, u131, u132, u133, u134, u135,
          u136, u137, u138, u139, u140, u141, u142, u143, u144, u145, u146, u147, u148, u149, u150, u151, u152, u153,
          u154, u155, u156, u157, u158, u159, u160, u161, u162, u163, u164, u165, u166, u167, u168, u169, u170, u171,
          u172, u173, u174, u175, u176, u177, u178, u179, u180, u181, u182, u183, u184, u185, u186, u187, u188, u189,
          u190, u191, u192, u193, u194, u195, u196, u197, u198, u199, u200, u201, u202, u203, u204, u205, u206, u207,
          u208, u209, u210, u211, u212, u213, u214, u215, u216, u217, u218, u219, u220, u221, u222, u223, u224, u225,
          u226, u227, u228, u229, u230, u231, u232, u233, u234, u235, u236, u237, u238, u239, u240, u241, u242, undef],
      defers := [] }
    wr := by
  conv => arg 2; whnf
  obtain ⟨qs, p, hps, hkd, hlens, hnx⟩ := HYES.out ⟨hm0, rfl⟩
  have HN := Lib.hid (GE.of hnx hl2)
  have hlen : ps.length = qs.length + 1 := by rw [hps]; simp
  rw [hlen]
  rw [hlen] at HP hrc hpl
  have HPS := Lib.hid hps
  rw [hps] at HP
  obtain ⟨us, hpl2⟩ := PS.last HP.out
  rw [hkd] at hpl2
  obtain ⟨g7, cap, hv, h7a, h7b, h7c, h7d⟩ := hpl2.len
  cases hv
  obtain ⟨u1, u2, u3, rfl⟩ : ∃ u1 u2 u3, us = [u1, u2, u3] := by
    have := hpl2.uslen
    match us, this with
    | [a, b, c], _ => exact ⟨a, b, c, rfl⟩
  obtain ⟨A1', d1, rfl, r1'⟩ := (hpl2.row 0 rfl rfl).read
  obtain ⟨A2', d2, rfl, r2'⟩ := (hpl2.row 1 rfl rfl).read
  obtain ⟨A3', d3, rfl, r3'⟩ := (hpl2.row 2 rfl rfl).read
  have t1 := r1'.1
  have t2 := r1'.2.1
  have t3 := r2'.1
  have t4 := r2'.2.1
  have t5 := r3'.1
  have t6 := r3'.2.1
  have HGU1 := Lib.hid (hpl2.off3 (u := .slice A1' p.o.length d1) (by simp))
  have HGU2 := Lib.hid (hpl2.off3 (u := .slice A2' p.a.length d2) (by simp))
  have HGU3 := Lib.hid (hpl2.off3 (u := .slice A3' p.b.length d3) (by simp))
  have HY : At (ZS w8 (.slice (some ⟨g7, 0, none⟩) (qs.length + 1) n7) qs 1 [.slice A1' p.o.length d1, .slice A2' p.a.length d2, .slice A3' p.b.length d3] [p.o, p.a, p.b]) wr := ⟨ZS.kept _ _ _ _ _ _, hpl2, HB.out⟩
  have HLN := Lib.hid hlens
  have HKA : Hid (qs.length * 4 = (qs.length + 1 - 1) * 4) := Lib.hid (by omega)
  have HK := Lib.hid hpl2.kind
  rw [HKA.out] at HK
  have xk := HK.out
  clear hnx hps hlen hkd hlens hpl2 r1' r2' r3' HNO HYES HP
  generalize hn : qs.length + 1 = n at *
  have hn1 : (1 : Int) ≤ (n : Int) := by omega
  have hn2 : (n : Int) - 1 < (n : Int) := by omega
  have HA1 : Hid (qs.length * 4 + (1 + 0) = (n - 1) * 4 + 1) := Lib.hid (by omega)
  have HA2 : Hid (qs.length * 4 + (1 + 1) = (n - 1) * 4 + 2) := Lib.hid (by omega)
  have HA3 : Hid (qs.length * 4 + (1 + 2) = (n - 1) * 4 + 3) := Lib.hid (by omega)
  clear hn HKA HK
  obtain ⟨⟨x1, x1f⟩, ⟨x2, x2f⟩, ⟨x3, x3f⟩⟩ := And.intro (HY.out.1.cell 0 rfl) (And.intro (HY.out.1.cell 1 rfl) (HY.out.1.cell 2 rfl))
  rw [HA1.out] at x1 x1f
  rw [HA2.out] at x2 x2f
  rw [HA3.out] at x3 x3f
  have hgw : g7 < wr.heap.size := cell_lt x1
  have cu := (HY.out.2.cell (p := ⟨bx, ox + f1, none⟩) HBX.out).trans HCU.out
  go_upto_region 31 with (first | (at_lookup; refine wpList_lookup_own_ok_int _ rfl _ _ 77 rfl 3 3 .i64 lawI Tryd.underlying77 Tryd.underlying3 (zeroI _) w3.heap.size _ D1 rfl HOWN1.out _ _ rfl HKEY.out ?_; intro cx hat _; obtain rfl := lit_inj (hat.symm.trans (HV1.out _ rfl _)); clear hat) | (at_lookup; refine wpList_lookup_own_ok_int _ rfl _ _ 77 rfl 3 3 .i64 lawI Tryd.underlying77 Tryd.underlying3 (zeroI _) (w3.heap.size + 1) _ D2 rfl HOWN2.out _ _ rfl HKEY.out ?_; intro cy hat _; obtain rfl := lit_inj (hat.symm.trans (HV2.out _ rfl _)); clear hat))
  go_cut [17] (fun s17 wx => ∃ (A9 : Option Addr) (m9 d9 : Nat), s17 = .slice (some ⟨g7, 0, none⟩) n n7 ∧ Hid (ZS w8 (.slice (some ⟨g7, 0, none⟩) n n7) qs 1 [.slice A9 m9 d9, .slice A2' p.a.length d2, .slice A3' p.b.length d3] [p.o ++ [u], p.a, p.b] wx))
  case first =>
    go_region_law (first | (refine step_append_texts rfl _ _ rfl w8.heap.size (.slice A1' p.o.length d1) p.o [u] (some ⟨_, 0, none⟩) 1 rfl rfl ((HY.go (by repeat (first | exact Below.refl _ _ | apply Below.drew | apply below_drewN | apply below_al))).out.1.row 0 rfl rfl) (RT.below (RT.oneS rfl) (by repeat (first | exact Below.refl _ _ | apply Below.drew | apply below_drewN | apply below_al))) (by have := HLN.out; simp only [List.length_singleton]; omega) (HY.go (by repeat (first | exact Below.refl _ _ | apply Below.drew | apply below_drewN | apply below_al))).out.2.size ?_; intro v7 w7 hown hg hv; obtain ⟨A9, m9, d9, hv7⟩ := hown.shape; subst hv7; have HY1 := Lib.hid ((HY.go (by repeat (first | exact Below.refl _ _ | apply Below.drew | apply below_drewN | apply below_al))).out.put (j := 0) rfl rfl hown hg hv (a := (n - 1) * 4 + 1) HA1.out.symm); have z1 := kept2 (by repeat (first | exact Below.refl _ _ | apply Below.drew | apply below_drewN | apply below_al)) hg hgw HGU1.out x1; have z2 := keptF (by repeat (first | exact Below.refl _ _ | apply Below.drew | apply below_drewN | apply below_al)) hg hgw HGU1.out x1f; clear hown hg hv))
    all_goals
      go_wp2_with fail
      go_meet
      exact ⟨A9, m9, d9, rfl, Lib.hid (ZS.kept _ _ _ _ _ _ _ _ HY1.out (by repeat (first | exact Below.refl _ _ | apply Below.drew | apply below_drewN | apply below_al)))⟩
  case rest =>
    clear x1 x2 x3 x1f x2f x3f hgw cu HY xk
    obtain ⟨A9, m9, d9, rfl, HYH⟩ := hcut
    have HY : At _ wc := ⟨ZS.kept _ _ _ _ _ _, HYH.out⟩
    clear HYH
    obtain ⟨⟨x1, x1f⟩, ⟨x2, x2f⟩, ⟨x3, x3f⟩⟩ := And.intro (HY.out.1.cell 0 rfl) (And.intro (HY.out.1.cell 1 rfl) (HY.out.1.cell 2 rfl))
    rw [HA1.out] at x1 x1f
    rw [HA2.out] at x2 x2f
    rw [HA3.out] at x3 x3f
    have hgw : g7 < wc.heap.size := cell_lt x1
    have cu := (HY.out.2.cell (p := ⟨bx, ox + f1, none⟩) HBX.out).trans HCU.out
    go_upto_region 32 with fail
    go_cut [17] (fun s17 wx => ∃ (A10 : Option Addr) (m10 d10 : Nat), s17 = .slice (some ⟨g7, 0, none⟩) n n7 ∧ Hid (ZS w8 (.slice (some ⟨g7, 0, none⟩) n n7) qs 1 [.slice A9 m9 d9, .slice A10 m10 d10, .slice A3' p.b.length d3] [p.o ++ [u], p.a ++ [u], p.b] wx))
    case first =>
      go_region_law (first | (refine step_append_texts rfl _ _ rfl w8.heap.size (.slice A2' p.a.length d2) p.a [u] (some ⟨_, 0, none⟩) 1 rfl rfl ((HY.go (by repeat (first | exact Below.refl _ _ | apply Below.drew | apply below_drewN | apply below_al))).out.1.row 1 rfl rfl) (RT.below (RT.oneS rfl) (by repeat (first | exact Below.refl _ _ | apply Below.drew | apply below_drewN | apply below_al))) (by have := HLN.out; simp only [List.length_singleton]; omega) (HY.go (by repeat (first | exact Below.refl _ _ | apply Below.drew | apply below_drewN | apply below_al))).out.2.size ?_; intro v7 w7 hown hg hv; obtain ⟨A10, m10, d10, hv7⟩ := hown.shape; subst hv7; have HY1 := Lib.hid ((HY.go (by repeat (first | exact Below.refl _ _ | apply Below.drew | apply below_drewN | apply below_al))).out.put (j := 1) rfl rfl hown hg hv (a := (n - 1) * 4 + 2) HA2.out.symm); have z1 := kept2 (by repeat (first | exact Below.refl _ _ | apply Below.drew | apply below_drewN | apply below_al)) hg hgw HGU2.out x2; have z2 := keptF (by repeat (first | exact Below.refl _ _ | apply Below.drew | apply below_drewN | apply below_al)) hg hgw HGU2.out x2f; clear hown hg hv))
      all_goals
        go_wp2_with fail
        go_meet
        exact ⟨A10, m10, d10, rfl, Lib.hid (ZS.kept _ _ _ _ _ _ _ _ HY1.out (by repeat (first | exact Below.refl _ _ | apply Below.drew | apply below_drewN | apply below_al)))⟩
    case rest =>
      clear x1 x2 x3 x1f x2f x3f hgw cu HY
      obtain ⟨A10, m10, d10, rfl, HYH⟩ := hcut
      have HY : At _ wc := ⟨ZS.kept _ _ _ _ _ _, HYH.out⟩
      clear HYH
      obtain ⟨⟨x1, x1f⟩, ⟨x2, x2f⟩, ⟨x3, x3f⟩⟩ := And.intro (HY.out.1.cell 0 rfl) (And.intro (HY.out.1.cell 1 rfl) (HY.out.1.cell 2 rfl))
      rw [HA1.out] at x1 x1f
      rw [HA2.out] at x2 x2f
      rw [HA3.out] at x3 x3f
      have hgw : g7 < wc.heap.size := cell_lt x1
      have cu := (HY.out.2.cell (p := ⟨bx, ox + f1, none⟩) HBX.out).trans HCU.out
      go_wp2_with fail
      go_region_law (first | (refine step_append_texts rfl _ _ rfl w8.heap.size (.slice A3' p.b.length d3) p.b [u] (some ⟨_, 0, none⟩) 1 rfl rfl ((HY.go (by repeat (first | exact Below.refl _ _ | apply Below.drew | apply below_drewN | apply below_al))).out.1.row 2 rfl rfl) (RT.below (RT.oneS rfl) (by repeat (first | exact Below.refl _ _ | apply Below.drew | apply below_drewN | apply below_al))) (by have := HLN.out; simp only [List.length_singleton]; omega) (HY.go (by repeat (first | exact Below.refl _ _ | apply Below.drew | apply below_drewN | apply below_al))).out.2.size ?_; intro v7 w7 hown hg hv; obtain ⟨A11, m11, d11, hv7⟩ := hown.shape; subst hv7; have HY1 := Lib.hid ((HY.go (by repeat (first | exact Below.refl _ _ | apply Below.drew | apply below_drewN | apply below_al))).out.put (j := 2) rfl rfl hown hg hv (a := (n - 1) * 4 + 3) HA3.out.symm); have z1 := kept2 (by repeat (first | exact Below.refl _ _ | apply Below.drew | apply below_drewN | apply below_al)) hg hgw HGU3.out x3; have z2 := keptF (by repeat (first | exact Below.refl _ _ | apply Below.drew | apply below_drewN | apply below_al)) hg hgw HGU3.out x3f; clear hown hg hv))
      all_goals
        go_wp2_with fail
        go_roundg (gk - 1)
        case measure => omega
        case rel => exact ⟨f1 + 1, f1 + 1, f2 + 1, f3 + 1, _, by omega, by go_num, by go_num, by go_num, by go_num, HN, Lib.hid (PS.below (.inr ⟨qs, ⟨1, p.o ++ [u], p.a ++ [u], p.b ++ [u]⟩, _, rfl, HY1.out.1⟩) (by repeat (first | exact Below.refl _ _ | apply Below.drew | apply below_drewN | apply below_al))), Lib.hid (go3 HY1.out.2 (by repeat (first | exact Below.refl _ _ | apply Below.drew | apply below_drewN | apply below_al)))⟩
end Go.Proofs.YtfhkmmicdbblnaaDoor

