/-
  The walk of the reference's Merge.
-/
import Derived.Test.YtfhkmmicdbblnaaDoorG5c
import Derived.Deep.DeepCutAuto
import Derived.Deep.RegionHeld3
namespace Go.Proofs.YtfhkmmicdbblnaaDoor
set_option linter.unusedSimpArgs false
set_option linter.unusedVariables false
open Go.RowKit Go.Maps

set_option maxHeartbeats 8000000 in
set_option maxRecDepth 1000000 in
theorem rm_7 {o a b : ByteArray}
    {w : World}
    {xs : List ByteArray}
    (lx : xs.length ≤ 400)
    {ys : List ByteArray}
    (ly : ys.length ≤ 400)
    {zs : List ByteArray}
    (lz : zs.length ≤ 400)
    {ps1 : List (Nat × Nat)}
    {ps2 : List (Nat × Nat)}
    (m1 : ¬400 < xs.length)
    (m2 : ¬400 < ys.length)
    (m3 : ¬400 < zs.length)
    {w1 : World}
    {c1 : Nat}
    {w2 : World}
    {A2 : Option Addr}
    {c2 : Nat}
    {w3 : World}
    {A3 : Option Addr}
    {c3 : Nat}
    (r1 : xs.length ≤ c1)
    (r2 : c1 ≤ 9223372036854775807)
    (r3 : ys.length ≤ c2)
    (r4 : c2 ≤ 9223372036854775807)
    (r5 : zs.length ≤ c3)
    (r6 : c3 ≤ 9223372036854775807)
    {w4 : World}
    {A4 : Option Addr}
    {c4 : Nat}
    {u14 u53 u54 u55 u56 u57 u58 u59 u60 u61 : Value}
    {wl : World}
    {w6 : World}
    {A6 : Option Addr}
    {c6 : Nat}
    {u16 u67 u68 u69 u70 u71 u72 u73 u74 u75 : Value}
    (hk : ps2.length ≤ ps2.length)
    {w8 : World}
    (HY : Hid (RT w8 A2 c2 ys))
    (HZ : Hid (RT w8 A3 c3 zs))
    (HBW : Hid (Below w.heap.size w w8))
    (HMR : Hid (MM w8 (w3.heap.size + 1) ps2.length ps2))
    (HML : Hid (MM w8 w3.heap.size ps1.length ps1))
    {Z0 : Act → World → Prop}
    {gk : Nat}
    {wr : World}
    {u22 u23 u24 u25 u26 u76 u77 u78 u79 u80 u81 u82 u83 u84 u85 u86 u87 u88 u89 u90 u91 u92 u93 u94 u95 u96 u97 u98 u99 u100 u101 u102 u103 u104 u105 u106 u107 u108 u109 u110 u111 u112 u113 u114 u115 u116 u117 u118 u119 u120 u121 u122 u123 u124 u125 u126 u127 u128 u129 u130 u131 u132 u133 u134 u135 u136 u137 u138 u139 u140 u141 u142 u143 u144 u145 u146 u147 u148 u149 u150 u151 u152 u153 u154 u155 u156 u157 u158 u159 u160 u161 u162 u163 u164 u165 u166 u167 u168 u169 u170 u171 u172 u173 u174 u175 u176 u177 u178 u179 u180 u181 u182 u183 u184 u185 u186 u187 u188 u189 u190 u191 u192 u193 u194 u195 u196 u197 u198 u199 u200 u201 u202 u203 u204 u205 u206 u207 u208 u209 u210 u211 u212 u213 u214 u215 u216 u217 u218 u219 u220 u221 u222 u223 u224 u225 u226 u227 u228 u229 u230 u231 u232 u233 u234 u235 u236 u237 u238 u239 u240 u241 u242 : Value}
    {JJ : Nat → Act → World → Prop}
    {KK : Act → World → Prop}
    (hkk : ∀ (a' : Act) (w' : World), Handed JJ gk a' w' → KK a' w')
    {f1 f2 f3 : Nat}
    {ps : List (Pc ByteArray)}
    (HB : Hid (Below w8.heap.size w8 wr))
    {A7 : Option Addr}
    {n7 : Nat}
    (HP : Hid (PS wr w8.heap.size (Value.slice A7 ps.length n7) ps))
    (hrc : ps.length ≤ n7)
    (hrc2 : n7 ≤ 9223372036854775807)
    (hbs : w8.heap.size ≤ wr.heap.size)
    (D1 D2 : DataW Unit)
    (HOWN1 : Hid (wr.ownsMap Tryd.prog 3 (plainElem Tryd.prog 3) w3.heap.size ps1.length D1))
    (HOWN2 : Hid (wr.ownsMap Tryd.prog 3 (plainElem Tryd.prog 3) (w3.heap.size + 1) ps2.length D2))
    {y : Nat}
    {u : ByteArray}
    (g3 : f3 ≤ y)
    (g6 : y < zs.length)
    {bx ox : Nat}
    (HX : Hid (RT w8 (some { block := bx, off := ox }) c1 xs))
    (hjj : ∀ (k : Nat) (a' : Act) (w' : World),
    (∃ u17 u18 u19 u20 u21 u22 u23 u24 u25 u26 u76 u77 u78 u79 u80 u81 u82 u83 u84 u85 u86 u87 u88 u89 u90 u91 u92 u93
        u94 u95 u96 u97 u98 u99 u100 u101 u102 u103 u104 u105 u106 u107 u108 u109 u110 u111 u112 u113 u114 u115 u116
        u117 u118 u119 u120 u121 u122 u123 u124 u125 u126 u127 u128 u129 u130 u131 u132 u133 u134 u135 u136 u137 u138
        u139 u140 u141 u142 u143 u144 u145 u146 u147 u148 u149 u150 u151 u152 u153 u154 u155 u156 u157 u158 u159 u160
        u161 u162 u163 u164 u165 u166 u167 u168 u169 u170 u171 u172 u173 u174 u175 u176 u177 u178 u179 u180 u181 u182
        u183 u184 u185 u186 u187 u188 u189 u190 u191 u192 u193 u194 u195 u196 u197 u198 u199 u200 u201 u202 u203 u204
        u205 u206 u207 u208 u209 u210 u211 u212 u213 u214 u215 u216 u217 u218 u219 u220 u221 u222 u223 u224 u225 u226
        u227 u228 u229 u230 u231 u232 u233 u234 u235 u236 u237 u238 u239 u240 u241 u242,
        (∃ (m f1 f2 f3 : Nat) (ps : List (Pc ByteArray)),
            m + k = xs.length + 2 ∧
              u18 = Value.int IntKind.i64 (↑f1 : Int) ∧
                u19 = Value.int IntKind.i64 (↑f2 : Int) ∧
                  u20 = Value.int IntKind.i64 (↑f3 : Int) ∧
                    u21 = Value.int IntKind.i64 (↑m : Int) ∧
                      Hid (GE xs ys zs m (f1, f2, f3) ps) ∧
                        Hid (PS w' w8.heap.size u17 ps) ∧ Hid (Below w8.heap.size w8 w')) ∧
          a' =
            {
              tmps :=
                #[Value.string o, Value.string a, Value.string b, undef, undef, undef, Value.slice none 0 0,
                  Value.int IntKind.i64 0, Value.slice (some { block := bx, off := ox }) xs.length c1,
                  Value.slice A2 ys.length c2, Value.slice A3 zs.length c3, Value.map (some w3.heap.size),
                  Value.map (some (w3.heap.size + 1)), undef, u14, undef, u16, u17, u18, u19, u20, u21, u22, u23, u24,
                  u25, u26, Value.string o, Value.slice (some { block := bx, off := ox }) xs.length c1, Value.string a,
                  Value.slice A2 ys.length c2, Value.string b, Value.slice A3 zs.length c3,
                  Value.slice (some { block := bx, off := ox }) xs.length c1, Value.int IntKind.i64 (↑xs.length : Int),
                  Value.bool (decide (400 < (↑xs.length : Int))), Value.bool (decide (400 < (↑xs.length : Int))),
                  Value.slice A2 ys.length c2, Value.int IntKind.i64 (↑ys.length : Int),
                  Value.bool (decide (400 < (↑ys.length : Int))),
                  Value.bool (decide (400 < (↑xs.length : Int)) || decide (400 < (↑ys.length : Int))),
                  Value.bool (decide (400 < (↑xs.length : Int)) || decide (400 < (↑ys.length : Int))),
                  Value.slice A3 zs.length c3, Value.int IntKind.i64 (↑zs.length : Int),
                  Value.bool (decide (400 < (↑zs.length : Int))),
                  Value.bool
                    (decide (400 < (↑xs.length : Int)) || decide (400 < (↑ys.length : Int)) ||
                      decide (400 < (↑zs.length : Int))),
                  Value.map (some w3.heap.size), Value.map (some (w3.heap.size + 1)),
                  Value.slice (some { block := bx, off := ox }) xs.length c1, Value.slice A2 ys.length c2,
                  Value.slice A4 ps1.length c4, Value.int IntKind.i64 (↑ps1.length : Int),
                  Value.int IntKind.i64 (↑ps1.length : Int), Value.bool false, u54, u55, u56, u57, u58, u59, u60, u61,
                  Value.slice (some { block := bx, off := ox }) xs.length c1, Value.slice A3 zs.length c3,
                  Value.slice A6 ps2.length c6, Value.int IntKind.i64 (↑ps2.length : Int),
                  Value.int IntKind.i64 (↑ps2.length : Int), Value.bool false, u68, u69, u70, u71, u72, u73, u74, u75,
                  u76, u77, u78, u79, u80, u81, u82, u83, u84, u85, u86, u87, u88, u89, u90, u91, u92, u93, u94, u95,
                  u96, u97, u98, u99, u100, u101, u102, u103, u104, u105, u106, u107, u108, u109, u110, u111, u112,
                  u113, u114, u115, u116, u117, u118, u119, u120, u121, u122, u123, u124, u125, u126, u127, u128, u129,
                  u130, u131, u132, u133, u134, u135, u136, u137, u138, u139, u140, u141, u142, u143, u144, u145, u146,
                  u147, u148, u149, u150, u151, u152, u153, u154, u155, u156, u157, u158, u159, u160, u161, u162, u163,
                  u164, u165, u166, u167, u168, u169, u170, u171, u172, u173, u174, u175, u176, u177, u178, u179, u180,
                  u181, u182, u183, u184, u185, u186, u187, u188, u189, u190, u191, u192, u193, u194, u195, u196, u197,
                  u198, u199, u200, u201, u202, u203, u204, u205, u206, u207, u208, u209, u210, u211, u212, u213, u214,
                  u215, u216, u217, u218, u219, u220, u221, u222, u223, u224, u225, u226, u227, u228, u229, u230, u231,
                  u232, u233, u234, u235, u236, u237, u238, u239, u240, u241, u242, undef],
              defers := [] }) →
      JJ k a' w')
    (HBX : Hid (bx < w8.heap.size))
    (hm : f1 + gk = xs.length + 2)
    (hmu : f1 ≤ xs.length + 1)
    (hlt : f1 ≤ xs.length)
    (hpl : ps.length ≤ 2 * f1)
    (hl2 : f1 < xs.length)
    (HKEY : Hid (keyOf Tryd.prog 3 (Value.int IntKind.i64 (↑f1 : Int)) = some (Lit.int IntKind.i64 (↑f1 : Int))))
    (hh1 : has D1 (Lit.int IntKind.i64 (↑f1 : Int)) = true)
    (hh2 : has D2 (Lit.int IntKind.i64 (↑f1 : Int)) = true)
    (HV2 : Hid
    (∀ (y_1 : Nat),
      some y = some y_1 →
        ∀ (z : DataW Unit), D2.atKey (Lit.int IntKind.i64 (↑f1 : Int)) z = DataW.lit (Lit.int IntKind.i64 (↑y_1 : Int))))
    (g1 : f1 ≤ f1)
    (g4 : f1 < xs.length)
    (HCU : Hid (w8.cell? { block := bx, off := ox + f1 } = some (Value.string u)))
    (hd1 : ¬f1 < f1)
    (g2 : f2 ≤ f2)
    (g5 : f2 < ys.length)
    (HV1 : Hid
    (∀ (y : Nat),
      some f2 = some y →
        ∀ (z : DataW Unit), D1.atKey (Lit.int IntKind.i64 (↑f1 : Int)) z = DataW.lit (Lit.int IntKind.i64 (↑y : Int))))
    (HN : Hid
    (GE xs ys zs (f1 + 1) (f1 + 1, f2 + 1, y + 1)
      (ps ++
          [{ kind := kindOf (seg xs f1 f1) (seg ys f2 f2) (seg zs f3 y), o := seg xs f1 f1, a := seg ys f2 f2,
              b := seg zs f3 y }] ++
        [{ kind := 1, o := [u], a := [u], b := [u] }])))
    (hd2 : ¬f2 < f2)
    (hd3 : f3 < y)
    (b1 : ((↑y : Int) == (↑f3 : Int)) = false)
    (hm1 : ¬0 < (↑f1 : Int)) :
    Code.wp Tryd.prog rbody
    (Exit.then KK (Exit.inBlock 4 (Exit.then Z0 (bodyPost Tryd.prog Tryd.f19 (RetP w (mergeT o a b) (dvE [o, a, b]))))))
    {
      tmps :=
        #[Value.string o, Value.string a, Value.string b, undef, undef, undef, Value.slice none 0 0,
          Value.int IntKind.i64 0, Value.slice (some { block := bx, off := ox }) xs.length c1,
          Value.slice A2 ys.length c2, Value.slice A3 zs.length c3, Value.map (some w3.heap.size),
          Value.map (some (w3.heap.size + 1)), undef, u14, undef, u16, Value.slice A7 ps.length n7,
          Value.int IntKind.i64 (↑f1 : Int), Value.int IntKind.i64 (↑f2 : Int), Value.int IntKind.i64 (↑f3 : Int),
          Value.int IntKind.i64 (↑f1 : Int), u22, u23, u24, u25, u26, Value.string o,
          Value.slice (some { block := bx, off := ox }) xs.length c1, Value.string a, Value.slice A2 ys.length c2,
          Value.string b, Value.slice A3 zs.length c3, Value.slice (some { block := bx, off := ox }) xs.length c1,
          Value.int IntKind.i64 (↑xs.length : Int), Value.bool (decide (400 < (↑xs.length : Int))),
          Value.bool (decide (400 < (↑xs.length : Int))), Value.slice A2 ys.length c2,
          Value.int IntKind.i64 (↑ys.length : Int), Value.bool (decide (400 < (↑ys.length : Int))),
          Value.bool (decide (400 < (↑xs.length : Int)) || decide (400 < (↑ys.length : Int))),
          Value.bool (decide (400 < (↑xs.length : Int)) || decide (400 < (↑ys.length : Int))),
          Value.slice A3 zs.length c3, Value.int IntKind.i64 (↑zs.length : Int),
          Value.bool (decide (400 < (↑zs.length : Int))),
          Value.bool
            (decide (400 < (↑xs.length : Int)) || decide (400 < (↑ys.length : Int)) ||
              decide (400 < (↑zs.length : Int))),
          Value.map (some w3.heap.size), Value.map (some (w3.heap.size + 1)),
          Value.slice (some { block := bx, off := ox }) xs.length c1, Value.slice A2 ys.length c2,
          Value.slice A4 ps1.length c4, Value.int IntKind.i64 (↑ps1.length : Int),
          Value.int IntKind.i64 (↑ps1.length : Int), Value.bool false, u54, u55, u56, u57, u58, u59, u60, u61,
          Value.slice (some { block := bx, off := ox }) xs.length c1, Value.slice A3 zs.length c3,
          Value.slice A6 ps2.length c6, Value.int IntKind.i64 (↑ps2.length : Int),
          Value.int IntKind.i64 (↑ps2.length : Int), Value.bool false, u68, u69, u70, u71, u72, u73, u74, u75, u76, u77,
          u78, u79, u80, u81, u82, u83, u84, u85, u86, u87, u88, u89, u90, u91, u92, u93, u94, u95, u96, u97, u98, u99,
          u100, u101, u102, u103, u104, u105, u106, u107, u108, u109, u110, u111, u112, u113, u114, u115, u116, u117,
          u118, u119, u120, u121, u122, u123, u124, u125, u126, u127, u128, u129, u130, u131, u132, u133, u134, u135,
          u136, u137, u138, u139, u140, u141, u142, u143, u144, u145, u146, u147, u148, u149, u150, u151, u152, u153,
          u154, u155, u156, u157, u158, u159, u160, u161, u162, u163, u164, u165, u166, u167, u168, u169, u170, u171,
          u172, u173, u174, u175, u176, u177, u178, u179, u180, u181, u182, u183, u184, u185, u186, u187, u188, u189,
          u190, u191, u192, u193, u194, u195, u196, u197, u198, u199, u200, u201, u202, u203, u204, u205, u206, u207,
          u208, u209, u210, u211, u212, u213, u214, u215, u216, u217, u218, u219, u220, u221, u222, u223, u224, u225,
          u226, u227, u228, u229, u230, u231, u232, u233, u234, u235, u236, u237, u238, u239, u240, u241, u242, undef],
      defers := [] }
    wr := by
  conv => arg 2; whnf
  have HS1 : Hid (RT wr (cutA (some ⟨bx, ox, none⟩) c1 f1 1) (c1 - f1) (seg xs f1 f1)) := Lib.hid ((HX.out.below HB.out).cut (t := f1) f1 (by omega))
  have HS2 : Hid (RT wr (cutA A2 c2 f2 1) (c2 - f2) (seg ys f2 f2)) := Lib.hid ((HY.out.below HB.out).cut (t := f2) f2 (by omega))
  have HS3 : Hid (RT wr (cutA A3 c3 f3 1) (c3 - f3) (seg zs f3 y)) := Lib.hid ((HZ.out.below HB.out).cut (t := f3) y (by omega))
  have e1 : (seg xs f1 f1).length = f1 - f1 := cut_len (by omega)
  have e2 : (seg ys f2 f2).length = f2 - f2 := cut_len (by omega)
  have e3 : (seg zs f3 y).length = y - f3 := cut_len (by omega)
  have HPC := Lib.hid (fun W h1 h2 h3 => piece_any (cutA (some ⟨bx, ox, none⟩) c1 f1 1) (cutA A2 c2 f2 1) (cutA A3 c3 f3 1) (c1 - f1) (c2 - f2) (c3 - f3) (seg xs f1 f1) (seg ys f2 f2) (seg zs f3 y) W h1 h2 h3 (by omega) (by omega) (by omega))
  rw [e1, e2, e3] at HPC
  unfold RetPc at HPC
  have hcut1 := run_cut_texts (some ⟨bx, ox, none⟩) xs.length c1 f1 f1 g1 (by omega) r2
  have hcut2 := run_cut_texts A2 ys.length c2 f2 f2 g2 (by omega) r4
  have hcut3 := run_cut_texts A3 zs.length c3 f3 y g3 (by omega) r6
  clear e1 e2 e3
  try simp only [Nat.sub_self] at HPC hcut1 hcut2 hcut3
  generalize kindOf (seg xs f1 f1) (seg ys f2 f2) (seg zs f3 y) = kd at *
  generalize seg xs f1 f1 = l1 at *
  generalize seg ys f2 f2 = l2 at *
  generalize seg zs f3 y = l3 at *
  generalize cutA (some ⟨bx, ox, none⟩) c1 f1 1 = K1 at *
  generalize cutA A2 c2 f2 1 = K2 at *
  generalize cutA A3 c3 f3 1 = K3 at *
  have HPZ := Lib.hid HP.out.still
  go_wp2_with (first | (at_lookup; refine wpList_lookup_own_ok_int _ rfl _ _ 77 rfl 3 3 .i64 lawI Tryd.underlying77 Tryd.underlying3 (zeroI _) w3.heap.size _ D1 rfl HOWN1.out _ _ rfl HKEY.out ?_; intro cx hat _; obtain rfl := lit_inj (hat.symm.trans (HV1.out _ rfl _)); clear hat) | (at_lookup; refine wpList_lookup_own_ok_int _ rfl _ _ 77 rfl 3 3 .i64 lawI Tryd.underlying77 Tryd.underlying3 (zeroI _) (w3.heap.size + 1) _ D2 rfl HOWN2.out _ _ rfl HKEY.out ?_; intro cy hat _; obtain rfl := lit_inj (hat.symm.trans (HV2.out _ rfl _)); clear hat))
  go_region_held3 (fun _ => True)
    (first | exact True.intro)
    (first
      | (go_at_call 39; refine (HPC.out _ (HS1.out.below (by repeat (first | exact Below.refl _ _ | apply Below.drew | apply below_drewN | apply below_al))) (HS2.out.below (by repeat (first | exact Below.refl _ _ | apply Below.drew | apply below_drewN | apply below_al))) (HS3.out.below (by repeat (first | exact Below.refl _ _ | apply Below.drew | apply below_drewN | apply below_al)))).mono ?_; rintro e w9 ⟨C1, n1, C2, n2, C3, n3, rfl, o1, o2, o3, d12, d13, d23, hb⟩; have HI : At (fun w' => (OT w' wr.heap.size (.slice C1 l1.length n1) l1 ∧ OT w' wr.heap.size (.slice C2 l2.length n2) l2 ∧ OT w' wr.heap.size (.slice C3 l3.length n3) l3) ∧ PZ w' wr.heap.size w8.heap.size (.slice A7 ps.length n7) ps ∧ Below w8.heap.size w8 w' ∧ wr.heap.size ≤ w'.heap.size) w9 := ⟨fun X Y h hb => ⟨⟨h.1.1.belowN hb, h.1.2.1.belowN hb, h.1.2.2.belowN hb⟩, h.2.1.below hb, go3 h.2.2.1 hb, Nat.le_trans h.2.2.2 hb.size⟩, ⟨o1, o2, o3⟩, (HPZ.out.below (by repeat (first | exact Below.refl _ _ | apply Below.drew | apply below_drewN | apply below_al))).below hb, go3 (go3 HB.out (by repeat (first | exact Below.refl _ _ | apply Below.drew | apply below_drewN | apply below_al))) hb, hb.size⟩; have HDS := Lib.hid (And.intro d12 (And.intro d13 d23)); clear o1 o2 o3 d12 d13 d23 hb)
      | (refine step_append_chunk rfl _ _ rfl wr.heap.size w8.heap.size (.slice A7 ps.length n7) ps ⟨kd, l1, l2, l3⟩ (.slice C1 l1.length n1) (.slice C2 l2.length n2) (.slice C3 l3.length n3) _ 1 rfl rfl (HI.go (by repeat (first | exact Below.refl _ _ | apply Below.drew | apply below_drewN | apply below_al))).out.2.1 (HI.go (by repeat (first | exact Below.refl _ _ | apply Below.drew | apply below_drewN | apply below_al))).out.1.1 (HI.go (by repeat (first | exact Below.refl _ _ | apply Below.drew | apply below_drewN | apply below_al))).out.1.2.1 (HI.go (by repeat (first | exact Below.refl _ _ | apply Below.drew | apply below_drewN | apply below_al))).out.1.2.2 HDS.out.1 HDS.out.2.1 HDS.out.2.2 hbs (HI.go (by repeat (first | exact Below.refl _ _ | apply Below.drew | apply below_drewN | apply below_al))).out.2.2.2 (cells_new _ [_, _, _, _] _ (by simp)) rfl rfl rfl (by omega) ?_; intro v7 wp hps hg hown; obtain ⟨A8, n8, hv7, hrf8⟩ := hps.read; subst hv7; have HQP := Lib.hid hps; have HRP := Lib.hid hrf8; have hr8 := hrf8.1; have hr9 := hrf8.2.1; have HQB := Lib.hid ((HI.go (by repeat (first | exact Below.refl _ _ | apply Below.drew | apply below_drewN | apply below_al))).out.2.2.1.grown hg (HI.go (by repeat (first | exact Below.refl _ _ | apply Below.drew | apply below_drewN | apply below_al))).out.2.2.1.size (fun k e => hown k e)); clear hps hg hown hrf8))
  all_goals
    clear HI HDS HPZ HPC HS1 HS2 HS3 hcut1 hcut2 hcut3
    rw [List.length_map] at hr8
    obtain ⟨qs2, hqs2⟩ : ∃ q, q = ps ++ [(⟨kd, l1, l2, l3⟩ : Pc ByteArray)] := ⟨_, rfl⟩
    have hq2 : qs2.length ≤ ps.length + 1 := by rw [hqs2]; simp
    have HQ2 : Hid (qs2.length = ps.length + 1) := Lib.hid (by rw [hqs2]; simp)
    rw [← hqs2] at HQP HRP HN hr8
    rw [← hqs2]
    try rw [← HQ2.out]
    clear hqs2
    have hqs := HQB.out.size
    have cu := (HQB.out.cell (p := ⟨bx, ox + f1, none⟩) HBX.out).trans HCU.out
    have HPZ := Lib.hid HQP.out.still
    have HQ0 : At (fun w' => w'.cell? ⟨bx, ox + f1, none⟩ = some (.string u) ∧ PZ w' wp.heap.size w8.heap.size (.slice A8 qs2.length n8) qs2 ∧ Below w8.heap.size w8 w' ∧ wp.heap.size ≤ w'.heap.size) wp := ⟨fun X Y h hb => ⟨(hb.cell (p := ⟨bx, ox + f1, none⟩) (cell_lt h.1)).trans h.1, h.2.1.below hb, go3 h.2.2.1 hb, Nat.le_trans h.2.2.2 hb.size⟩, cu, HPZ.out, HQB.out, Nat.le_refl _⟩
    have HOA : At (fun w' => OT w' wp.heap.size (.slice (some ⟨wp.heap.size, 0, none⟩) 1 1) [u]) (wp.alloc (.cells #[.string u] 9)) := ⟨fun X Y h hb => h.belowN hb, OT.lit1 _ _ _ rfl (Nat.le_refl _)⟩
    have HOB : At (fun w' => OT w' wp.heap.size (.slice (some ⟨wp.heap.size + 1, 0, none⟩) 1 1) [u]) ((wp.alloc (.cells #[.string u] 9)).alloc (.cells #[.string u] 9)) := ⟨fun X Y h hb => h.belowN hb, OT.lit1 _ _ _ (by simp) (by omega)⟩
    have HOC : At (fun w' => OT w' wp.heap.size (.slice (some ⟨wp.heap.size + 1 + 1, 0, none⟩) 1 1) [u]) (((wp.alloc (.cells #[.string u] 9)).alloc (.cells #[.string u] 9)).alloc (.cells #[.string u] 9)) := ⟨fun X Y h hb => h.belowN hb, OT.lit1 _ _ _ (by simp) (by omega)⟩
    go_upto_region 34 with (fail)
    go_cut [17] (fun s17 wx => ∃ (A9 : Option Addr) (m9 d9 : Nat), s17 = .slice A9 m9 d9 ∧ Hid (PS wx w8.heap.size (.slice A9 m9 d9) (qs2 ++ [⟨1, [u], [u], [u]⟩])) ∧ Hid (Below w8.heap.size w8 wx))
    case first =>
      go_region_held3 (fun w' => w'.cell? ⟨bx, ox + f1, none⟩ = some (.string u))
        (first | exact cu7 | exact (HQ0.go (by repeat (first | exact Below.refl _ _ | apply Below.drew | apply below_drewN | apply below_al))).out.1)
        (first
          | (refine step_append_chunk rfl _ _ rfl wp.heap.size w8.heap.size (.slice A8 qs2.length n8) qs2 ⟨1, [u], [u], [u]⟩ (.slice (some ⟨wp.heap.size, 0, none⟩) 1 1) (.slice (some ⟨wp.heap.size + 1, 0, none⟩) 1 1) (.slice (some ⟨wp.heap.size + 1 + 1, 0, none⟩) 1 1) _ 1 rfl rfl (HQ0.go (by repeat (first | exact Below.refl _ _ | apply Below.drew | apply below_drewN | apply below_al))).out.2.1 (HOA.go (by repeat (first | exact Below.refl _ _ | apply Below.drew | apply below_drewN | apply below_al))).out (HOB.go (by repeat (first | exact Below.refl _ _ | apply Below.drew | apply below_drewN | apply below_al))).out (HOC.go (by repeat (first | exact Below.refl _ _ | apply Below.drew | apply below_drewN | apply below_al))).out (by intro k e1 e2; simp [Value.ownBlock] at e1 e2; omega) (by intro k e1 e2; simp [Value.ownBlock] at e1 e2; omega) (by intro k e1 e2; simp [Value.ownBlock] at e1 e2; omega) hqs (HQ0.go (by repeat (first | exact Below.refl _ _ | apply Below.drew | apply below_drewN | apply below_al))).out.2.2.2 (cells_new _ [_, _, _, _] _ (by simp)) rfl rfl rfl (by omega) ?_; intro v7 w7 hps hg hown; obtain ⟨A9, m9, d9, hv7⟩ := hps.shape; subst hv7; have cu7 := kept2 (by repeat (first | exact Below.refl _ _ | apply Below.drew | apply below_drewN | apply below_al)) hg (show bx < wp.heap.size by have := HBX.out; omega) (fun e => by have := hown _ e; have := HBX.out; omega) cu; have HPN := Lib.hid hps; have HBN := Lib.hid ((HQ0.go (by repeat (first | exact Below.refl _ _ | apply Below.drew | apply below_drewN | apply below_al))).out.2.2.1.grown hg (HQ0.go (by repeat (first | exact Below.refl _ _ | apply Below.drew | apply below_drewN | apply below_al))).out.2.2.1.size (fun k e => hown k e)); clear hps hg hown)
          | (refine step_append_chunk rfl _ _ rfl wp.heap.size w8.heap.size (.slice A8 qs2.length n8) qs2 ⟨1, [u], [u], [u]⟩ (.slice (some ⟨wp.heap.size, 0, none⟩) 1 1) (.slice (some ⟨wp.heap.size + 1 + 1, 0, none⟩) 1 1) (.slice (some ⟨wp.heap.size + 1, 0, none⟩) 1 1) _ 1 rfl rfl (HQ0.go (by repeat (first | exact Below.refl _ _ | apply Below.drew | apply below_drewN | apply below_al))).out.2.1 (HOA.go (by repeat (first | exact Below.refl _ _ | apply Below.drew | apply below_drewN | apply below_al))).out (HOC.go (by repeat (first | exact Below.refl _ _ | apply Below.drew | apply below_drewN | apply below_al))).out (HOB.go (by repeat (first | exact Below.refl _ _ | apply Below.drew | apply below_drewN | apply below_al))).out (by intro k e1 e2; simp [Value.ownBlock] at e1 e2; omega) (by intro k e1 e2; simp [Value.ownBlock] at e1 e2; omega) (by intro k e1 e2; simp [Value.ownBlock] at e1 e2; omega) hqs (HQ0.go (by repeat (first | exact Below.refl _ _ | apply Below.drew | apply below_drewN | apply below_al))).out.2.2.2 (cells_new _ [_, _, _, _] _ (by simp)) rfl rfl rfl (by omega) ?_; intro v7 w7 hps hg hown; obtain ⟨A9, m9, d9, hv7⟩ := hps.shape; subst hv7; have cu7 := kept2 (by repeat (first | exact Below.refl _ _ | apply Below.drew | apply below_drewN | apply below_al)) hg (show bx < wp.heap.size by have := HBX.out; omega) (fun e => by have := hown _ e; have := HBX.out; omega) cu; have HPN := Lib.hid hps; have HBN := Lib.hid ((HQ0.go (by repeat (first | exact Below.refl _ _ | apply Below.drew | apply below_drewN | apply below_al))).out.2.2.1.grown hg (HQ0.go (by repeat (first | exact Below.refl _ _ | apply Below.drew | apply below_drewN | apply below_al))).out.2.2.1.size (fun k e => hown k e)); clear hps hg hown)
          | (refine step_append_chunk rfl _ _ rfl wp.heap.size w8.heap.size (.slice A8 qs2.length n8) qs2 ⟨1, [u], [u], [u]⟩ (.slice (some ⟨wp.heap.size + 1, 0, none⟩) 1 1) (.slice (some ⟨wp.heap.size, 0, none⟩) 1 1) (.slice (some ⟨wp.heap.size + 1 + 1, 0, none⟩) 1 1) _ 1 rfl rfl (HQ0.go (by repeat (first | exact Below.refl _ _ | apply Below.drew | apply below_drewN | apply below_al))).out.2.1 (HOB.go (by repeat (first | exact Below.refl _ _ | apply Below.drew | apply below_drewN | apply below_al))).out (HOA.go (by repeat (first | exact Below.refl _ _ | apply Below.drew | apply below_drewN | apply below_al))).out (HOC.go (by repeat (first | exact Below.refl _ _ | apply Below.drew | apply below_drewN | apply below_al))).out (by intro k e1 e2; simp [Value.ownBlock] at e1 e2; omega) (by intro k e1 e2; simp [Value.ownBlock] at e1 e2; omega) (by intro k e1 e2; simp [Value.ownBlock] at e1 e2; omega) hqs (HQ0.go (by repeat (first | exact Below.refl _ _ | apply Below.drew | apply below_drewN | apply below_al))).out.2.2.2 (cells_new _ [_, _, _, _] _ (by simp)) rfl rfl rfl (by omega) ?_; intro v7 w7 hps hg hown; obtain ⟨A9, m9, d9, hv7⟩ := hps.shape; subst hv7; have cu7 := kept2 (by repeat (first | exact Below.refl _ _ | apply Below.drew | apply below_drewN | apply below_al)) hg (show bx < wp.heap.size by have := HBX.out; omega) (fun e => by have := hown _ e; have := HBX.out; omega) cu; have HPN := Lib.hid hps; have HBN := Lib.hid ((HQ0.go (by repeat (first | exact Below.refl _ _ | apply Below.drew | apply below_drewN | apply below_al))).out.2.2.1.grown hg (HQ0.go (by repeat (first | exact Below.refl _ _ | apply Below.drew | apply below_drewN | apply below_al))).out.2.2.1.size (fun k e => hown k e)); clear hps hg hown)
          | (refine step_append_chunk rfl _ _ rfl wp.heap.size w8.heap.size (.slice A8 qs2.length n8) qs2 ⟨1, [u], [u], [u]⟩ (.slice (some ⟨wp.heap.size + 1, 0, none⟩) 1 1) (.slice (some ⟨wp.heap.size + 1 + 1, 0, none⟩) 1 1) (.slice (some ⟨wp.heap.size, 0, none⟩) 1 1) _ 1 rfl rfl (HQ0.go (by repeat (first | exact Below.refl _ _ | apply Below.drew | apply below_drewN | apply below_al))).out.2.1 (HOB.go (by repeat (first | exact Below.refl _ _ | apply Below.drew | apply below_drewN | apply below_al))).out (HOC.go (by repeat (first | exact Below.refl _ _ | apply Below.drew | apply below_drewN | apply below_al))).out (HOA.go (by repeat (first | exact Below.refl _ _ | apply Below.drew | apply below_drewN | apply below_al))).out (by intro k e1 e2; simp [Value.ownBlock] at e1 e2; omega) (by intro k e1 e2; simp [Value.ownBlock] at e1 e2; omega) (by intro k e1 e2; simp [Value.ownBlock] at e1 e2; omega) hqs (HQ0.go (by repeat (first | exact Below.refl _ _ | apply Below.drew | apply below_drewN | apply below_al))).out.2.2.2 (cells_new _ [_, _, _, _] _ (by simp)) rfl rfl rfl (by omega) ?_; intro v7 w7 hps hg hown; obtain ⟨A9, m9, d9, hv7⟩ := hps.shape; subst hv7; have cu7 := kept2 (by repeat (first | exact Below.refl _ _ | apply Below.drew | apply below_drewN | apply below_al)) hg (show bx < wp.heap.size by have := HBX.out; omega) (fun e => by have := hown _ e; have := HBX.out; omega) cu; have HPN := Lib.hid hps; have HBN := Lib.hid ((HQ0.go (by repeat (first | exact Below.refl _ _ | apply Below.drew | apply below_drewN | apply below_al))).out.2.2.1.grown hg (HQ0.go (by repeat (first | exact Below.refl _ _ | apply Below.drew | apply below_drewN | apply below_al))).out.2.2.1.size (fun k e => hown k e)); clear hps hg hown)
          | (refine step_append_chunk rfl _ _ rfl wp.heap.size w8.heap.size (.slice A8 qs2.length n8) qs2 ⟨1, [u], [u], [u]⟩ (.slice (some ⟨wp.heap.size + 1 + 1, 0, none⟩) 1 1) (.slice (some ⟨wp.heap.size, 0, none⟩) 1 1) (.slice (some ⟨wp.heap.size + 1, 0, none⟩) 1 1) _ 1 rfl rfl (HQ0.go (by repeat (first | exact Below.refl _ _ | apply Below.drew | apply below_drewN | apply below_al))).out.2.1 (HOC.go (by repeat (first | exact Below.refl _ _ | apply Below.drew | apply below_drewN | apply below_al))).out (HOA.go (by repeat (first | exact Below.refl _ _ | apply Below.drew | apply below_drewN | apply below_al))).out (HOB.go (by repeat (first | exact Below.refl _ _ | apply Below.drew | apply below_drewN | apply below_al))).out (by intro k e1 e2; simp [Value.ownBlock] at e1 e2; omega) (by intro k e1 e2; simp [Value.ownBlock] at e1 e2; omega) (by intro k e1 e2; simp [Value.ownBlock] at e1 e2; omega) hqs (HQ0.go (by repeat (first | exact Below.refl _ _ | apply Below.drew | apply below_drewN | apply below_al))).out.2.2.2 (cells_new _ [_, _, _, _] _ (by simp)) rfl rfl rfl (by omega) ?_; intro v7 w7 hps hg hown; obtain ⟨A9, m9, d9, hv7⟩ := hps.shape; subst hv7; have cu7 := kept2 (by repeat (first | exact Below.refl _ _ | apply Below.drew | apply below_drewN | apply below_al)) hg (show bx < wp.heap.size by have := HBX.out; omega) (fun e => by have := hown _ e; have := HBX.out; omega) cu; have HPN := Lib.hid hps; have HBN := Lib.hid ((HQ0.go (by repeat (first | exact Below.refl _ _ | apply Below.drew | apply below_drewN | apply below_al))).out.2.2.1.grown hg (HQ0.go (by repeat (first | exact Below.refl _ _ | apply Below.drew | apply below_drewN | apply below_al))).out.2.2.1.size (fun k e => hown k e)); clear hps hg hown)
          | (refine step_append_chunk rfl _ _ rfl wp.heap.size w8.heap.size (.slice A8 qs2.length n8) qs2 ⟨1, [u], [u], [u]⟩ (.slice (some ⟨wp.heap.size + 1 + 1, 0, none⟩) 1 1) (.slice (some ⟨wp.heap.size + 1, 0, none⟩) 1 1) (.slice (some ⟨wp.heap.size, 0, none⟩) 1 1) _ 1 rfl rfl (HQ0.go (by repeat (first | exact Below.refl _ _ | apply Below.drew | apply below_drewN | apply below_al))).out.2.1 (HOC.go (by repeat (first | exact Below.refl _ _ | apply Below.drew | apply below_drewN | apply below_al))).out (HOB.go (by repeat (first | exact Below.refl _ _ | apply Below.drew | apply below_drewN | apply below_al))).out (HOA.go (by repeat (first | exact Below.refl _ _ | apply Below.drew | apply below_drewN | apply below_al))).out (by intro k e1 e2; simp [Value.ownBlock] at e1 e2; omega) (by intro k e1 e2; simp [Value.ownBlock] at e1 e2; omega) (by intro k e1 e2; simp [Value.ownBlock] at e1 e2; omega) hqs (HQ0.go (by repeat (first | exact Below.refl _ _ | apply Below.drew | apply below_drewN | apply below_al))).out.2.2.2 (cells_new _ [_, _, _, _] _ (by simp)) rfl rfl rfl (by omega) ?_; intro v7 w7 hps hg hown; obtain ⟨A9, m9, d9, hv7⟩ := hps.shape; subst hv7; have cu7 := kept2 (by repeat (first | exact Below.refl _ _ | apply Below.drew | apply below_drewN | apply below_al)) hg (show bx < wp.heap.size by have := HBX.out; omega) (fun e => by have := hown _ e; have := HBX.out; omega) cu; have HPN := Lib.hid hps; have HBN := Lib.hid ((HQ0.go (by repeat (first | exact Below.refl _ _ | apply Below.drew | apply below_drewN | apply below_al))).out.2.2.1.grown hg (HQ0.go (by repeat (first | exact Below.refl _ _ | apply Below.drew | apply below_drewN | apply below_al))).out.2.2.1.size (fun k e => hown k e)); clear hps hg hown))
      all_goals
        go_wp2_with fail
        go_meet
        exact ⟨A9, m9, d9, rfl, Lib.hid (HPN.out.below (by repeat (first | exact Below.refl _ _ | apply Below.drew | apply below_drewN | apply below_al))), Lib.hid (go3 HBN.out (by repeat (first | exact Below.refl _ _ | apply Below.drew | apply below_drewN | apply below_al)))⟩
    case rest =>
      obtain ⟨A9, m9, d9, rfl, HPR, HBR⟩ := hcut
      go_wp2_with fail
      go_roundg (gk - 1)
      case measure => omega
      case rel => exact ⟨f1 + 1, f1 + 1, f2 + 1, y + 1, _, by omega, by go_num, by go_num, by go_num, by go_num, HN, HPR, HBR⟩
end Go.Proofs.YtfhkmmicdbblnaaDoor

