/-
  LineageLines returns true.
-/
import Derived.Test.YteagecjhpfijjaaDoorLineageIdentities
namespace Go.Proofs.YteagecjhpfijjaaDoor
set_option linter.unusedSimpArgs false
set_option linter.unusedVariables false
open Go.RowKit Go.WideShapes

set_option maxHeartbeats 8000000 in
set_option maxRecDepth 100000 in
theorem lineageLines_any (A : Option Addr) (c : Nat) (ls : List Cg) (p : ByteArray) (n : Int) (w : World) (h : CV w A c ls) (hnil : NilC A c) (hr : CgR ls) (hlen : ls.length ≤ 3000000000000) (hp : p.size ≤ maxLen) (hn : (Lit.int .i64 n).wf = true) (hsh : w.ShapedOpen Tryd.prog) :
    Calls Tryd.prog 5 #[.slice A ls.length c, .agg #[.string p, .int .i64 n]] w fun e w' => e = .returned (.bool true) ∧ Below w.heap.size w w' := by
  have HC := Lib.hid h
  have HM := Lib.hid (ML.of hsh)
  have HSM := Lib.hid (fun W h => small_any A c ls W h hr)
  have HBD := Lib.hid (fun W h hs hm => build_any A c ls W h hs hm)
  unfold RetS at HSM
  have hp' : p.size ≤ 9223372036854775807 := hp
  have HS : At (BB w [(w.heap.size, [.string p, .int .i64 n])]) (w.alloc (.cells #[.string p, .int .i64 n] 31)) := ((BB.nil w).push [.string p, .int .i64 n] 31 rfl).at_
  clear h hr hn hp hsh
  go_enter Tryd.func5, Tryd.ntmps5
  go_wp2_with (first
    | (go_at_call 11; refine (HSM.out _ (HC.out.below (below_alloc _ _))).mono ?_; rintro e w1 ⟨q, rfl, hq, hb⟩; have HQ := Lib.hid hq; replace HS := HS.go2 (Below.refl _ _) hb; have HB := Lib.hid HS.out.low; obtain ⟨f0, f1⟩ := (HS.out.get 0 rfl).c2; clear hb hq)
    | (go_at_call 12; refine (awake_any _).mono ?_; rintro e wa ⟨rfl, hb⟩; have HBA := Lib.hid hb; clear hb))
  all_goals (first | (go_ret; exact ⟨rfl, go3 HB.out HBA.out⟩) | skip)
  refine (HBD.out _ (HC.out.below HB.out) (HQ.out (by assumption)) (HM.out.below HB.out)).mono ?_
  rintro e w2 hR
  obtain ⟨rs, A2, c2, B2, m2, d2, rfl, hrv, hdp, hb⟩ := hR.dp (HQ.out (by assumption))
  have HR2 := Lib.hid hrv
  have HLP := Lib.hid (fun W h => lline_any A2 B2 c2 m2 d2 rs p n W h hdp)
  have HLR := Lib.hid (fun W h => rlineN_any A2 B2 c2 m2 d2 rs p n W h (Nat.le_trans hdp.len (by decide)) hdp.near)
  have HNP := Lib.hid (fun W h => lines_any A2 B2 c2 m2 d2 rs W h (Nat.le_trans hdp.len (by decide)))
  have HNR := Lib.hid (fun W h => rlines_any A2 B2 c2 m2 d2 rs W h (Nat.le_trans hdp.len (by decide)))
  have HL5 : Hid ((lineR rs (p, n)).length ≤ 500) := Lib.hid (by unfold lineR; have := List.length_filter_le (memF rs (p, n)) rs; have := hdp.len; omega)
  have HF5 : Hid ((linesR rs).length ≤ 500) := Lib.hid (by unfold linesR; rw [List.length_map]; have := List.length_filter_le (fun v : Rv => v.act == 1) rs; have := hdp.len; omega)
  unfold RetVN at HLP HLR
  unfold RetFs at HNP HNR
  generalize lineR rs (p, n) = ll at *
  generalize linesR rs = fs at *
  replace HS := ((HS.go2 (Below.refl _ _) hb).out.push [.slice A2 rs.length c2, .slice B2 m2 d2] 28 (g := w2.heap.size) rfl).at_
  replace HR2 := Lib.hid (HR2.out.below (below_alloc _ (.cells #[.slice A2 rs.length c2, .slice B2 m2 d2] 28)))
  clear hR hrv hb f0 f1
  obtain ⟨f0, f1⟩ := (HS.out.get 0 rfl).c2
  obtain ⟨d0, d1⟩ := (HS.out.get 1 rfl).c2
  have hl5 := HL5.out
  have hf5 := HF5.out
  go_upto_region 4 with (fail)
  go_region_held3 (fun w' => w'.cell? ⟨w.heap.size, 0, none⟩ = some (.string p) ∧ w'.cell? ⟨w.heap.size, 1, none⟩ = some (.int .i64 n) ∧ w'.cell? ⟨w2.heap.size, 0, none⟩ = some (.slice A2 rs.length c2) ∧ w'.cell? ⟨w2.heap.size, 1, none⟩ = some (.slice B2 m2 d2))
    (first | exact ⟨((HS.go (by repeat (first | exact Below.refl _ _ | apply Below.drew | apply below_drewN | apply below_al))).out.get 0 rfl).c2.1, ((HS.go (by repeat (first | exact Below.refl _ _ | apply Below.drew | apply below_drewN | apply below_al))).out.get 0 rfl).c2.2, ((HS.go (by repeat (first | exact Below.refl _ _ | apply Below.drew | apply below_drewN | apply below_al))).out.get 1 rfl).c2.1, ((HS.go (by repeat (first | exact Below.refl _ _ | apply Below.drew | apply below_drewN | apply below_al))).out.get 1 rfl).c2.2⟩)
    (first
      | (go_at_call 18; refine (HLP.out _ (HR2.out.below (by repeat (first | exact Below.refl _ _ | apply Below.drew | apply below_drewN | apply below_al)))).mono ?_; rintro e w3 ⟨A3, c3, rfl, hv3, hb, _⟩; have HL1 := Lib.hid hv3; have q3 := hv3.1; have q3' := hv3.2.1; rw [List.length_map] at q3; replace HR2 := Lib.hid (HR2.out.below (go3 (by repeat (first | exact Below.refl _ _ | apply Below.drew | apply below_drewN | apply below_al)) hb)); replace HS := HS.go2 (by repeat (first | exact Below.refl _ _ | apply Below.drew | apply below_drewN | apply below_al)) hb; clear hb hv3 f0 f1 d0 d1)
      | (go_at_call 20; refine (HLR.out _ (HR2.out.below (by repeat (first | exact Below.refl _ _ | apply Below.drew | apply below_drewN | apply below_al)))).mono ?_; rintro e w4 ⟨A4, c4, rfl, hv4, hb, _⟩; have HL2 := Lib.hid hv4; have q4 := hv4.1; have q4' := hv4.2.1; rw [List.length_map] at q4; replace HL1 := Lib.hid (HL1.out.below (go3 (by repeat (first | exact Below.refl _ _ | apply Below.drew | apply below_drewN | apply below_al)) hb)); replace HR2 := Lib.hid (HR2.out.below (go3 (by repeat (first | exact Below.refl _ _ | apply Below.drew | apply below_drewN | apply below_al)) hb)); replace HS := HS.go2 (by repeat (first | exact Below.refl _ _ | apply Below.drew | apply below_drewN | apply below_al)) hb; clear hb hv4)
      | (go_at_call 19; refine (same_any A3 A4 c3 c4 ll ll _ (HL1.out.below (by repeat (first | exact Below.refl _ _ | apply Below.drew | apply below_drewN | apply below_al))) (HL2.out.below (by repeat (first | exact Below.refl _ _ | apply Below.drew | apply below_drewN | apply below_al))) rfl (by omega)).mono ?_; rintro e w5 ⟨rfl, hb⟩; replace HR2 := Lib.hid (HR2.out.below (go3 (by repeat (first | exact Below.refl _ _ | apply Below.drew | apply below_drewN | apply below_al)) hb)); replace HS := HS.go2 (by repeat (first | exact Below.refl _ _ | apply Below.drew | apply below_drewN | apply below_al)) hb; clear hb))
  all_goals
    obtain ⟨d0, d1⟩ := ((HS.go (by repeat (first | exact Below.refl _ _ | apply Below.drew | apply below_drewN | apply below_al))).out.get 1 rfl).c2
    go_upto_region 6 with (fail)
    go_region_held3 (fun w' => w'.cell? ⟨w2.heap.size, 0, none⟩ = some (.slice A2 rs.length c2) ∧ w'.cell? ⟨w2.heap.size, 1, none⟩ = some (.slice B2 m2 d2))
      (first | exact ⟨((HS.go (by repeat (first | exact Below.refl _ _ | apply Below.drew | apply below_drewN | apply below_al))).out.get 1 rfl).c2.1, ((HS.go (by repeat (first | exact Below.refl _ _ | apply Below.drew | apply below_drewN | apply below_al))).out.get 1 rfl).c2.2⟩)
      (first
        | (go_at_call 21; refine (HNP.out _ (HR2.out.below (by repeat (first | exact Below.refl _ _ | apply Below.drew | apply below_drewN | apply below_al)))).mono ?_; rintro e w6 ⟨A5, c5, rfl, hv5, hb⟩; have HF1 := Lib.hid hv5; have q5 := hv5.1; have q5' := hv5.2.1; rw [List.length_map] at q5; replace HR2 := Lib.hid (HR2.out.below (go3 (by repeat (first | exact Below.refl _ _ | apply Below.drew | apply below_drewN | apply below_al)) hb)); replace HS := HS.go2 (by repeat (first | exact Below.refl _ _ | apply Below.drew | apply below_drewN | apply below_al)) hb; clear hb hv5 d0 d1)
        | (go_at_call 22; refine (HNR.out _ (HR2.out.below (by repeat (first | exact Below.refl _ _ | apply Below.drew | apply below_drewN | apply below_al)))).mono ?_; rintro e w7 ⟨A6, c6, rfl, hv6, hb⟩; have HF2 := Lib.hid hv6; have q6 := hv6.1; have q6' := hv6.2.1; rw [List.length_map] at q6; replace HF1 := Lib.hid (HF1.out.below (go3 (by repeat (first | exact Below.refl _ _ | apply Below.drew | apply below_drewN | apply below_al)) hb)); replace HS := HS.go2 (by repeat (first | exact Below.refl _ _ | apply Below.drew | apply below_drewN | apply below_al)) hb; clear hb hv6))
    all_goals
      go_wp2_with fail
      go_loopw [40] (fun s wr => ∃ k : Nat, k ≤ fs.length ∧ s = .int .i64 k ∧ Hid (Below w7.heap.size w7 wr)) (fun s _ => fs.length - (intOf s).toNat)
      case atStart => exact ⟨0, Nat.zero_le _, rfl, Lib.hid (by repeat (first | exact Below.refl _ _ | apply Below.drew | apply below_drewN | apply below_al))⟩
      case round =>
        obtain ⟨k, hk, rfl, HW⟩ := hrel
        by_cases hlt : k < fs.length
        · obtain ⟨f, hf⟩ : ∃ f, fs[k]? = some f := ⟨_, List.getElem?_eq_getElem hlt⟩
          obtain ⟨b3, o3, rfl, hb3, x0, x1⟩ := (HF1.out.below HW.out).at_ hf
          obtain ⟨b4, o4, rfl, hb4, y0, y1⟩ := (HF2.out.below HW.out).at_ hf
          have hfe := (fun w => file_eq f.1 f.1 f.2 f.2 w)
          simp only [show fileB f.1 f.1 f.2 f.2 = true from (fileB_iff _ _ _ _).2 rfl] at hfe
          clear hf
          go_upto_region 12 with (fail)
          go_quiet (fail)
          all_goals
            go_wp2_with fail
            go_roundw
            case rel => exact ⟨k + 1, by omega, by go_num, Lib.hid (go3 HW.out (by repeat (first | exact Below.refl _ _ | apply Below.drew | apply below_drewN | apply below_al)))⟩
            case measure => simp [intOf]; omega
        · obtain rfl : k = fs.length := by omega
          have HBW := Lib.hid (go3 HS.out.low HW.out)
          go_wp2_with (go_at_call 12; refine (awake_any _).mono ?_; rintro e wa ⟨rfl, hb⟩; have HBA := Lib.hid hb; clear hb)
          go_ret
          exact ⟨rfl, go3 HBW.out HBA.out⟩
end Go.Proofs.YteagecjhpfijjaaDoor

