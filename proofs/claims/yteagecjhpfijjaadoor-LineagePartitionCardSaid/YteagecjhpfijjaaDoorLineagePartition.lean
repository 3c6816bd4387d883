/-
  LineagePartition returns true.
-/
import Derived.Test.YteagecjhpfijjaaDoorLineageIdentities
import Derived.Test.YteagecjhpfijjaaDoorMX
namespace Go.Proofs.YteagecjhpfijjaaDoor
set_option linter.unusedSimpArgs false
set_option linter.unusedVariables false
open Go.RowKit Go.WideShapes

theorem BB.grown3 {w w' w'' : World} {g1 g2 g3 j : Nat} {c1 c2 c3 : List Value} (h : BB w [(g1, c1), (g2, c2), (g3, c3)] w') (hg : w'.grownBy w'' (some j)) (h1 : g1 ≠ j) (h2 : g2 ≠ j) (h3 : g3 ≠ j) (hj : w.heap.size ≤ j) : BB w [(g1, c1), (g2, c2), (g3, c3)] w'' :=
  h.grown hg (fun i hi => by
    obtain rfl := Option.some.inj hi
    refine ⟨fun p hp => ?_, hj⟩
    simp only [List.mem_cons, List.not_mem_nil, or_false] at hp
    rcases hp with rfl | rfl | rfl
    · exact h1
    · exact h2
    · exact h3)
set_option maxHeartbeats 20000000 in
set_option maxRecDepth 100000 in
theorem lineagePartition_any (A : Option Addr) (c : Nat) (ls : List Cg) (w : World) (h : CV w A c ls) (hnil : NilC A c) (hr : CgR ls) (hlen : ls.length ≤ 3000000000000) (hsh : w.ShapedOpen Tryd.prog) :
    Calls Tryd.prog 6 #[.slice A ls.length c] w fun e w' => e = .returned (.bool true) ∧ Below w.heap.size w w' := by
  have HC := Lib.hid h
  have HM := Lib.hid (ML.of hsh)
  have HSM := Lib.hid (fun W h => small_any A c ls W h hr)
  have HBD := Lib.hid (fun W h hs hm => build_any A c ls W h hs hm)
  unfold RetS at HSM
  clear h hr hsh
  have hmm := run_makeMapF
  go_enter Tryd.func6, Tryd.ntmps6
  go_wp2_with (first
    | (go_at_call 11; refine (HSM.out _ HC.out).mono ?_; rintro e w1 ⟨q, rfl, hq, hb⟩; have HQ := Lib.hid hq; have HB := Lib.hid hb; clear hb hq)
    | (go_at_call 12; refine (awake_any _).mono ?_; rintro e wa ⟨rfl, hb⟩; have HBA := Lib.hid hb; clear hb))
  all_goals (first | (go_ret; exact ⟨rfl, go3 HB.out HBA.out⟩) | skip)
  have hq1 : q = true := by have h0 : (!q) = false := (by assumption); cases q <;> simp_all
  refine (HBD.out _ (HC.out.below HB.out) (HQ.out hq1) (HM.out.below HB.out)).mono ?_
  rintro e w2 hR
  obtain ⟨rs, A2, c2, B2, m2, d2, rfl, hrv, hdp, hb⟩ := hR.dp (HQ.out hq1)
  have HB2 := Lib.hid (go3 HB.out hb)
  have hw2 : w.heap.size ≤ w2.heap.size := HB2.out.size
  have HR2 := Lib.hid (hrv.below (below_two w2 (.cells #[.slice A2 rs.length c2, .slice B2 m2 d2] 28) (.map #[] 0)))
  have HDP := Lib.hid hdp
  have HNP := Lib.hid (fun W h => lines_any A2 B2 c2 m2 d2 rs W h (Nat.le_trans hdp.len (by decide)))
  unfold RetFs at HNP
  have HF5 : Hid ((linesR rs).length ≤ 500) := Lib.hid (by unfold linesR; rw [List.length_map]; have := List.length_filter_le (fun v : Rv => v.act == 1) rs; have := hdp.len; omega)
  have hf5 := HF5.out
  generalize hfs : linesR rs = fs at *
  have HFS := Lib.hid hfs
  have HS : At (BB w [(w2.heap.size, [.slice A2 rs.length c2, .slice B2 m2 d2])]) ((w2.alloc (.cells #[.slice A2 rs.length c2, .slice B2 m2 d2] 28)).alloc (.map #[] 0)) := ((show BB w [] w2 from ⟨(fun p hp => by cases hp), HB2.out⟩).push [.slice A2 rs.length c2, .slice B2 m2 d2] 28 rfl).at_.go2 (Below.refl _ _) (below_alloc _ _)
  have HMP : Hid (MPv ((w2.alloc (.cells #[.slice A2 rs.length c2, .slice B2 m2 d2] 28)).alloc (.map #[] 0)) (w2.heap.size + 1) (MC []) 0) := Lib.hid (by have := MPv.made (w2.alloc (.cells #[.slice A2 rs.length c2, .slice B2 m2 d2] 28)); rw [World.size_alloc] at this; exact this)
  clear hR hrv hb hdp hfs
  obtain ⟨d0, d1⟩ := (HS.out.get 0 rfl).c2
  have dl := (HS.out.get 0 rfl).2.2
  go_upto_region 6 with (go_at_call 21; refine (HNP.out _ HR2.out).mono ?_; rintro e w7 ⟨A5, c5, rfl, hv5, hb⟩; have HF1 := Lib.hid hv5; have q5 := hv5.1; have q5' := hv5.2.1; rw [List.length_map] at q5; replace HR2 := Lib.hid (HR2.out.below hb); replace HMP := Lib.hid (HMP.out.below hb); replace HS := HS.go2 (Below.refl _ _) hb; have hsz7 : w2.heap.size + 1 < w7.heap.size := (by have := hb.size; simp at this; omega); clear hb hv5)
  clear d0 d1 dl
  go_loopw [24] (fun s wr => ∃ k : Nat, k ≤ fs.length ∧ s = .int .i64 k ∧ Hid (BB w [(w2.heap.size, [.slice A2 rs.length c2, .slice B2 m2 d2])] wr) ∧ Hid (RV wr A2 c2 rs) ∧ Hid (FV wr A5 c5 fs) ∧ Hid (MPv wr (w2.heap.size + 1) (MC (seenN rs (fs.take k))) (seenN rs (fs.take k)).length) ∧ Hid (seenN rs (fs.take k)).Nodup ∧ w2.heap.size + 1 < wr.heap.size) (fun s _ => fs.length - (intOf s).toNat)
  case atStart => exact ⟨0, Nat.zero_le _, rfl, Lib.hid HS.out, HR2, HF1, HMP, Lib.hid List.nodup_nil, hsz7⟩
  case round =>
    clear HS HR2 HF1 HMP hsz7
    obtain ⟨k, hk, rfl, HS0, HR2, HF1, HMP, HND, hsz⟩ := hrel
    have HS := HS0.out.at_
    clear HS0
    obtain ⟨d0, d1⟩ := (HS.out.get 0 rfl).c2
    have dl := (HS.out.get 0 rfl).2.2
    by_cases hlt : k < fs.length
    · obtain ⟨f, hf⟩ : ∃ f, fs[k]? = some f := ⟨_, List.getElem?_eq_getElem hlt⟩
      obtain ⟨b5, o5, rfl, hb5, x0, x1⟩ := HF1.out.at_ hf
      have HLA := Lib.hid (fun W h => lline_any A2 B2 c2 m2 d2 rs f.1 f.2 W h HDP.out)
      unfold RetVN at HLA
      rw [show lineR rs (f.1, f.2) = lineR rs f from rfl] at HLA
      have HL5 : Hid ((lineR rs f).length ≤ 500) := Lib.hid (by unfold lineR; have := List.length_filter_le (memF rs f) rs; have := HDP.out.len; omega)
      have hl5 := HL5.out
      have HFR : Hid (∀ (i : Nat) v, (lineR rs f)[i]? = some v → nameR v ∉ seenT rs fs k f i ∧ v ∈ rs ∧ v.act ≠ 5 ∧ nameR (firstR rs v) = f ∧ (i = 0 → nameR v = f)) := Lib.hid (fun i v hv => by
        obtain ⟨m1, m2, m3⟩ := mem_line.1 (List.mem_of_getElem? hv)
        have := HFS.out
        subst this
        exact ⟨HDP.out.inv.fresh hf hv, m1, m2, m3, fun e => ((HDP.out.inv.line_at hv).1 e).2.2⟩)
      have HEND : Hid (seenT rs fs k f (lineR rs f).length = seenN rs (fs.take (k + 1))) := Lib.hid (seenT_end hf)
      have HSNO : Hid (∀ (i : Nat) v, (lineR rs f)[i]? = some v → seenT rs fs k f (i + 1) = seenT rs fs k f i ++ [nameR v]) := Lib.hid (fun i v hv => seenT_snoc hv)
      have HSUB : Hid (∀ i, ∀ g ∈ seenT rs fs k f i, g ∈ rs.map nameR) := Lib.hid (fun i => Inv.seen_sub)
      rw [← seenT_zero (f := f)] at HMP HND
      generalize lineR rs f = la at *
      generalize seenT rs fs k f = TT at *
      replace HS := (HS.out.push [.string f.1, .int .i64 f.2] 31 (g := wr.heap.size) rfl).at_
      replace HR2 := Lib.hid (HR2.out.below (below_alloc _ (.cells #[.string f.1, .int .i64 f.2] 31)))
      replace HF1 := Lib.hid (HF1.out.below (below_alloc _ (.cells #[.string f.1, .int .i64 f.2] 31)))
      replace HMP := Lib.hid (HMP.out.below (below_alloc _ (.cells #[.string f.1, .int .i64 f.2] 31)))
      clear hf
      go_upto_region 9 with (go_at_call 18; refine (HLA.out _ (HR2.out.below (by repeat (first | exact Below.refl _ _ | apply Below.drew | apply below_drewN | apply below_al)))).mono ?_; rintro e w3 ⟨A7, c7, rfl, hv7, hb, _⟩; have HL1 := Lib.hid hv7; have q7 := hv7.1; have q7' := hv7.2.1; rw [List.length_map] at q7; replace HR2 := Lib.hid (HR2.out.below (go3 (by repeat (first | exact Below.refl _ _ | apply Below.drew | apply below_drewN | apply below_al)) hb)); replace HF1 := Lib.hid (HF1.out.below (go3 (by repeat (first | exact Below.refl _ _ | apply Below.drew | apply below_drewN | apply below_al)) hb)); replace HMP := Lib.hid (HMP.out.below (go3 (by repeat (first | exact Below.refl _ _ | apply Below.drew | apply below_drewN | apply below_al)) hb)); replace HS := HS.go2 (by repeat (first | exact Below.refl _ _ | apply Below.drew | apply below_drewN | apply below_al)) hb; have hsz3 : wr.heap.size < w3.heap.size := (by have := hb.size; simp at this; omega); clear hb hv7 d0 d1 dl)
      obtain ⟨wo, rfl⟩ : ∃ wo, wo = wr := ⟨wr, rfl⟩
      clear x0 x1 hb5
      go_loopw [32] (fun s wr => ∃ i : Nat, i ≤ la.length ∧ s = .int .i64 i ∧ Hid (BB w [(w2.heap.size, [.slice A2 rs.length c2, .slice B2 m2 d2]), (wo.heap.size, [.string f.1, .int .i64 f.2])] wr) ∧ Hid (RV wr A2 c2 rs) ∧ Hid (FV wr (some ⟨b5, o5, none⟩) c5 fs) ∧ Hid (RV wr A7 c7 la) ∧ Hid (MPv wr (w2.heap.size + 1) (MC (TT i)) (TT i).length) ∧ Hid (TT i).Nodup ∧ wo.heap.size < wr.heap.size) (fun s _ => la.length - (intOf s).toNat)
      case atStart => exact ⟨0, Nat.zero_le _, rfl, Lib.hid HS.out, HR2, HF1, HL1, HMP, HND, hsz3⟩
      case round =>
        clear HS HR2 HF1 HL1 HMP HND hsz3
        obtain ⟨i, hi, rfl, HS0, HR2, HF1, HL1, HMP, HND, hsz3⟩ := hrel
        have HS := HS0.out.at_
        clear HS0
        obtain ⟨d0, d1⟩ := (HS.out.get 0 rfl).c2
        obtain ⟨f0, f1⟩ := (HS.out.get 1 rfl).c2
        have dl := (HS.out.get 0 rfl).2.2
        have fl := (HS.out.get 1 rfl).2.2
        by_cases hil : i < la.length
        · obtain ⟨v, hv⟩ : ∃ v, la[i]? = some v := ⟨_, List.getElem?_eq_getElem hil⟩
          obtain ⟨b7, o7, rfl, hb7, x0, x1, x2, x3, x4, x5, x6, x7, x8, x9, x10, x11⟩ := HL1.out.at_ hv
          obtain ⟨hfr, hvr, hv5, hvf, hv0⟩ := HFR.out i v hv
          have HID := Lib.hid (fun W h => lidentity_any A2 B2 c2 m2 d2 rs v.path v.num W h HDP.out (by have := HDP.out.sz v hvr; omega) (okF_of (p := v.path) (by have := HDP.out.sz v hvr; omega) (HDP.out.near v hvr)).2)
          unfold RetOF at HID
          rw [show idR rs v.path v.num = some f from by unfold idR; rw [memR_some.2 ⟨HDP.out.inv.get_mem hvr, hv5⟩]; exact congrArg some hvf] at HID
          simp only [Option.getD_some, Option.isSome_some] at HID
          have HOK : Hid (okF (nameR v)) := Lib.hid (okF_of (by have := HDP.out.sz v hvr; omega) (HDP.out.near v hvr))
          have HSN := Lib.hid (HSNO.out i v hv)
          generalize hT : TT i = T at *
          have HMN : Hid (MC T (nameR v) = none) := Lib.hid (MC_out hfr)
          have HTL : Hid (T.length ≤ 500) := Lib.hid (by have := nodup_sub_len HND.out (m := rs.map nameR) (by rw [← hT]; exact HSUB.out i); rw [List.length_map] at this; have := HDP.out.len; omega)
          have HND2 : Hid (TT (i + 1)).Nodup := Lib.hid (by rw [HSN.out, List.nodup_append]; exact ⟨HND.out, by simp, fun a ha b hb e => by obtain rfl := List.mem_singleton.1 hb; subst e; exact hfr ha⟩)
          have HV0 := Lib.hid hv0
          replace HS := (HS.out.push [.string v.path, .int .i64 v.num, .int .i64 v.chg, .int .i64 v.act, .int .i64 v.ty.1, .bool v.ty.2.1, .bool v.ty.2.2.1, .bool v.ty.2.2.2, .int .u64 v.cid.1, .int .i64 v.cid.2, .string v.frm, .int .i64 v.fnum] 40 (g := wr.heap.size) rfl).at_
          replace HR2 := Lib.hid (HR2.out.below (below_alloc _ (.cells #[.string v.path, .int .i64 v.num, .int .i64 v.chg, .int .i64 v.act, .int .i64 v.ty.1, .bool v.ty.2.1, .bool v.ty.2.2.1, .bool v.ty.2.2.2, .int .u64 v.cid.1, .int .i64 v.cid.2, .string v.frm, .int .i64 v.fnum] 40)))
          replace HF1 := Lib.hid (HF1.out.below (below_alloc _ (.cells #[.string v.path, .int .i64 v.num, .int .i64 v.chg, .int .i64 v.act, .int .i64 v.ty.1, .bool v.ty.2.1, .bool v.ty.2.2.1, .bool v.ty.2.2.2, .int .u64 v.cid.1, .int .i64 v.cid.2, .string v.frm, .int .i64 v.fnum] 40)))
          replace HL1 := Lib.hid (HL1.out.below (below_alloc _ (.cells #[.string v.path, .int .i64 v.num, .int .i64 v.chg, .int .i64 v.act, .int .i64 v.ty.1, .bool v.ty.2.1, .bool v.ty.2.2.1, .bool v.ty.2.2.2, .int .u64 v.cid.1, .int .i64 v.cid.2, .string v.frm, .int .i64 v.fnum] 40)))
          replace HMP := Lib.hid (HMP.out.below (below_alloc _ (.cells #[.string v.path, .int .i64 v.num, .int .i64 v.chg, .int .i64 v.act, .int .i64 v.ty.1, .bool v.ty.2.1, .bool v.ty.2.2.1, .bool v.ty.2.2.2, .int .u64 v.cid.1, .int .i64 v.cid.2, .string v.frm, .int .i64 v.fnum] 40)))
          clear hfr hvr hv5 hvf hv hT hv0
          go_upto_region 11 with (fail)
          have HSx : (fun w' => (Instr.lookup 49 (.map (some (w2.heap.size + 1))) (fileA (nameR v)) false).run Tryd.prog w' = .ok (.int .i64 0) w' ∧ w'.cell? ⟨wr.heap.size, 0, none⟩ = some (.string v.path) ∧ w'.cell? ⟨wr.heap.size, 1, none⟩ = some (.int .i64 v.num) ∧ w'.cell? ⟨wr.heap.size, 2, none⟩ = some (.int .i64 v.chg) ∧ w'.cell? ⟨wr.heap.size, 3, none⟩ = some (.int .i64 v.act) ∧ w'.cell? ⟨wr.heap.size, 4, none⟩ = some (.int .i64 v.ty.1) ∧ w'.cell? ⟨wr.heap.size, 5, none⟩ = some (.bool v.ty.2.1) ∧ w'.cell? ⟨wr.heap.size, 6, none⟩ = some (.bool v.ty.2.2.1) ∧ w'.cell? ⟨wr.heap.size, 7, none⟩ = some (.bool v.ty.2.2.2) ∧ w'.cell? ⟨wr.heap.size, 8, none⟩ = some (.int .u64 v.cid.1) ∧ w'.cell? ⟨wr.heap.size, 9, none⟩ = some (.int .i64 v.cid.2) ∧ w'.cell? ⟨wr.heap.size, 10, none⟩ = some (.string v.frm) ∧ w'.cell? ⟨wr.heap.size, 11, none⟩ = some (.int .i64 v.fnum)) (wr.alloc (.cells #[.string v.path, .int .i64 v.num, .int .i64 v.chg, .int .i64 v.act, .int .i64 v.ty.1, .bool v.ty.2.1, .bool v.ty.2.2.1, .bool v.ty.2.2.2, .int .u64 v.cid.1, .int .i64 v.cid.2, .string v.frm, .int .i64 v.fnum] 40)).drew := ⟨by have := (HMP.out.below (Below.drew (Below.refl _ _))).look0 Tryd.underlying49 (zeroInt _) (f := nameR v) HOK.out; rw [HMN.out] at this; exact this, ((HS.go (by repeat (first | exact Below.refl _ _ | apply Below.drew | apply below_drewN | apply below_al))).out.get 2 rfl).rev⟩
          refine wp_region_wpH (S := fun w' => (Instr.lookup 49 (.map (some (w2.heap.size + 1))) (fileA (nameR v)) false).run Tryd.prog w' = .ok (.int .i64 0) w' ∧ w'.cell? ⟨wr.heap.size, 0, none⟩ = some (.string v.path) ∧ w'.cell? ⟨wr.heap.size, 1, none⟩ = some (.int .i64 v.num) ∧ w'.cell? ⟨wr.heap.size, 2, none⟩ = some (.int .i64 v.chg) ∧ w'.cell? ⟨wr.heap.size, 3, none⟩ = some (.int .i64 v.act) ∧ w'.cell? ⟨wr.heap.size, 4, none⟩ = some (.int .i64 v.ty.1) ∧ w'.cell? ⟨wr.heap.size, 5, none⟩ = some (.bool v.ty.2.1) ∧ w'.cell? ⟨wr.heap.size, 6, none⟩ = some (.bool v.ty.2.2.1) ∧ w'.cell? ⟨wr.heap.size, 7, none⟩ = some (.bool v.ty.2.2.2) ∧ w'.cell? ⟨wr.heap.size, 8, none⟩ = some (.int .u64 v.cid.1) ∧ w'.cell? ⟨wr.heap.size, 9, none⟩ = some (.int .i64 v.cid.2) ∧ w'.cell? ⟨wr.heap.size, 10, none⟩ = some (.string v.frm) ∧ w'.cell? ⟨wr.heap.size, 11, none⟩ = some (.int .i64 v.fnum)) (c := 10) (by kernel_rfl) ?_
          refine wpH_take2 (i := 0) (v := ?_) [8, 9, 10] 37 rfl rfl (by kernel_rfl) (by kernel_rfl) (by kernel_rfl) (by kernel_rfl) (by kernel_rfl) (fun _ _ _ h => h) (Or.inl ⟨by rfl, ?y0⟩) HSx ?r0
          case y0 =>
            intro w' hSw
            obtain ⟨q0, q1, q2, q3, q4, q5, q6, q7, q8, q9, q10, q11, q12⟩ := hSw
            unfold fileA nameR at q0
            go_simp
            with_reducible rfl
          try simp only [Act.put, List.setIfInBounds_toArray, List.set_cons_zero, List.set_cons_succ]
          refine wpH_take2 (i := 1) (v := ?_) [2, 5, 8, 9, 10] 38 rfl rfl (by kernel_rfl) (by kernel_rfl) (by kernel_rfl) (by kernel_rfl) (by kernel_rfl) (fun _ _ _ h => h) (Or.inl ⟨by rfl, ?y1⟩) HSx ?r1
          case y1 =>
            intro w' hSw
            obtain ⟨q0, q1, q2, q3, q4, q5, q6, q7, q8, q9, q10, q11, q12⟩ := hSw
            unfold fileA nameR at q0
            go_simp
            with_reducible rfl
          try simp only [Act.put, List.setIfInBounds_toArray, List.set_cons_zero, List.set_cons_succ]
          refine wpH_take2 (i := 2) (v := ?_) [5, 8, 9, 10] 39 rfl rfl (by kernel_rfl) (by kernel_rfl) (by kernel_rfl) (by kernel_rfl) (by kernel_rfl) (fun _ _ _ h => h) (Or.inl ⟨by rfl, ?y2⟩) HSx ?r2
          case y2 =>
            intro w' hSw
            obtain ⟨q0, q1, q2, q3, q4, q5, q6, q7, q8, q9, q10, q11, q12⟩ := hSw
            unfold fileA nameR at q0
            go_simp
            with_reducible rfl
          try simp only [Act.put, List.setIfInBounds_toArray, List.set_cons_zero, List.set_cons_succ]
          refine wpH_take2 (i := 3) (v := ?_) [4, 5, 8, 9, 10] 40 rfl rfl (by kernel_rfl) (by kernel_rfl) (by kernel_rfl) (by kernel_rfl) (by kernel_rfl) (fun _ _ _ h => h) (Or.inl ⟨by rfl, ?y3⟩) HSx ?r3
          case y3 =>
            intro w' hSw
            obtain ⟨q0, q1, q2, q3, q4, q5, q6, q7, q8, q9, q10, q11, q12⟩ := hSw
            unfold fileA nameR at q0
            go_simp
            with_reducible rfl
          try simp only [Act.put, List.setIfInBounds_toArray, List.set_cons_zero, List.set_cons_succ]
          refine wpH_take2 (i := 4) (v := ?_) [5, 8, 9, 10] 41 rfl rfl (by kernel_rfl) (by kernel_rfl) (by kernel_rfl) (by kernel_rfl) (by kernel_rfl) (fun _ _ _ h => h) (Or.inl ⟨by rfl, ?y4⟩) HSx ?r4
          case y4 =>
            intro w' hSw
            obtain ⟨q0, q1, q2, q3, q4, q5, q6, q7, q8, q9, q10, q11, q12⟩ := hSw
            unfold fileA nameR at q0
            go_simp
            with_reducible rfl
          try simp only [Act.put, List.setIfInBounds_toArray, List.set_cons_zero, List.set_cons_succ]
          refine wpH_take2 (i := 5) (v := ?_) [8, 9, 10] 42 rfl rfl (by kernel_rfl) (by kernel_rfl) (by kernel_rfl) (by kernel_rfl) (by kernel_rfl) (fun _ _ _ h => h) (Or.inl ⟨by rfl, ?y5⟩) HSx ?r5
          case y5 =>
            intro w' hSw
            obtain ⟨q0, q1, q2, q3, q4, q5, q6, q7, q8, q9, q10, q11, q12⟩ := hSw
            unfold fileA nameR at q0
            go_simp
            with_reducible rfl
          try simp only [Act.put, List.setIfInBounds_toArray, List.set_cons_zero, List.set_cons_succ]
          refine wpH_take2 (i := 6) (v := ?_) [7, 10] 43 rfl rfl (by kernel_rfl) (by kernel_rfl) (by kernel_rfl) (by kernel_rfl) (by kernel_rfl) (fun _ _ _ h => h) (Or.inl ⟨by rfl, ?y6⟩) HSx ?r6
          case y6 =>
            intro w' hSw
            obtain ⟨q0, q1, q2, q3, q4, q5, q6, q7, q8, q9, q10, q11, q12⟩ := hSw
            unfold fileA nameR at q0
            go_simp
            with_reducible rfl
          try simp only [Act.put, List.setIfInBounds_toArray, List.set_cons_zero, List.set_cons_succ]
          refine wpH_take2 (i := 7) (v := ?_) [10] 44 rfl rfl (by kernel_rfl) (by kernel_rfl) (by kernel_rfl) (by kernel_rfl) (by kernel_rfl) (fun _ _ _ h => h) (Or.inl ⟨by rfl, ?y7⟩) HSx ?r7
          case y7 =>
            intro w' hSw
            obtain ⟨q0, q1, q2, q3, q4, q5, q6, q7, q8, q9, q10, q11, q12⟩ := hSw
            unfold fileA nameR at q0
            go_simp
            with_reducible rfl
          try simp only [Act.put, List.setIfInBounds_toArray, List.set_cons_zero, List.set_cons_succ]
          refine wpH_all (rs := [8]) (by kernel_rfl) (by simp) ?_
          intro z hz
          obtain rfl : z = 8 := by simpa using hz
          clear hz
          refine wpOp_step rfl (fun K hK => ?_)
          rw [if_pos (by rfl)]
          refine wp_mapEntry _ _ _ rfl Tryd.underlying49 zeroInt (w2.heap.size + 1) (MC T) T.length rfl (HMP.out.below (by repeat (first | exact Below.refl _ _ | apply Below.drew | apply below_drewN | apply below_al | (refine Below.setCell ?_ (by simp) _)))) (nameR v) rfl HOK.out HMN.out (by have := HTL.out; omega) ?_
          intro st w5 hg5 hm5 hst
          have HST := Lib.hid hst
          have HG5 := Lib.hid hg5
          have HS5 := BB.grown3 (HS.go (w' := _) (by repeat (first | exact Below.refl _ _ | apply Below.drew | apply below_drewN | apply below_al))).out hg5 (by omega) (by omega) (by omega) (by omega)
          clear hg5 hst
          refine hK _ _ ?_
          clear hK K
          rw [if_neg (by decide)]
          refine ⟨⟨by have := hm5.look0 Tryd.underlying49 (zeroInt _) (f := nameR v) HOK.out; simp only [if_pos] at this; exact this, (HS5.get 2 rfl).rev⟩, ?_⟩
          try simp only [Act.put, List.setIfInBounds_toArray, List.set_cons_zero, List.set_cons_succ]
          refine wpH_all (rs := [9]) (by kernel_rfl) (by simp) ?_
          intro z hz
          obtain rfl : z = 9 := by simpa using hz
          clear hz
          refine wpOp_step rfl (fun K hK => ?_)
          go_simp
          refine hK _ _ ?_
          clear hK K
          rw [if_neg (by decide)]
          refine ⟨⟨by have := hm5.look0 Tryd.underlying49 (zeroInt _) (f := nameR v) HOK.out; simp only [if_pos] at this; exact this, (HS5.get 2 rfl).rev⟩, ?_⟩
          try simp only [Act.put, List.setIfInBounds_toArray, List.set_cons_zero, List.set_cons_succ]
          refine wpH_all (rs := [10]) (by kernel_rfl) (by simp) ?_
          intro z hz
          obtain rfl : z = 10 := by simpa using hz
          clear hz
          refine wpOp_step rfl (fun K hK => ?_)
          rw [if_pos (by rfl)]
          obtain ⟨w6, hr6, hg6, hm6⟩ := HST.out (.int .i64 1)
          refine wp_entryStore _ _ _ _ rfl (w2.heap.size + 1) st (.int .i64 1) rfl rfl rfl hr6 ?_
          refine hK _ _ ?_
          clear hK K
          rw [if_pos rfl]
          try simp only [Act.put, List.setIfInBounds_toArray, List.set_cons_zero, List.set_cons_succ]
          refine wpAny_done (by kernel_rfl) ?_ _
          have HS6 := (BB.grown3 (HS.go (w' := _) (by repeat (first | exact Below.refl _ _ | apply Below.drew | apply below_drewN | apply below_al))).out hg6 (by omega) (by omega) (by omega) (by omega)).at_
          have HMP6 : Hid (MPv w6 (w2.heap.size + 1) (MC (TT (i + 1))) (TT (i + 1)).length) := Lib.hid (by rw [HSN.out, MC_snoc, List.length_append]; exact hm6)
          have HR6 : Hid (RV w6 A2 c2 rs) := Lib.hid (RR.grownM (HR2.out.below (by repeat (first | exact Below.refl _ _ | apply Below.drew | apply below_drewN | apply below_al))) (HMP.out.below (by repeat (first | exact Below.refl _ _ | apply Below.drew | apply below_drewN | apply below_al))) hg6)
          have HF6 : Hid (FV w6 (some ⟨b5, o5, none⟩) c5 fs) := Lib.hid (RR.grownM (HF1.out.below (by repeat (first | exact Below.refl _ _ | apply Below.drew | apply below_drewN | apply below_al))) (HMP.out.below (by repeat (first | exact Below.refl _ _ | apply Below.drew | apply below_drewN | apply below_al))) hg6)
          have HL6 : Hid (RV w6 (some ⟨b7, o7, none⟩) c7 la) := Lib.hid (RR.grownM (HL1.out.below (by repeat (first | exact Below.refl _ _ | apply Below.drew | apply below_drewN | apply below_al))) (HMP.out.below (by repeat (first | exact Below.refl _ _ | apply Below.drew | apply below_drewN | apply below_al))) hg6)
          have hs6 := hg6.size
          simp at hs6
          clear hm6 hg6 HS HS5 HMP HR2 HF1 HL1 HST HG5 hr6 hm5 HND HSN HMN d0 d1 f0 f1 dl fl hb7 x0 x1 x2 x3 x4 x5 x6 x7 x8 x9 x10 x11
          obtain ⟨d0, d1⟩ := (HS6.out.get 0 rfl).c2
          obtain ⟨f0, f1⟩ := (HS6.out.get 1 rfl).c2
          obtain ⟨v0, v1, v2, v3, v4, v5, v6, v7, v8, v9, v10, v11⟩ := (HS6.out.get 2 rfl).rev
          have dl := (HS6.out.get 0 rfl).2.2
          have fl := (HS6.out.get 1 rfl).2.2
          have vl := (HS6.out.get 2 rfl).2.2
          have hfe := (fun w => file_eq f.1 f.1 f.2 f.2 w)
          simp only [show fileB f.1 f.1 f.2 f.2 = true from (fileB_iff _ _ _ _).2 rfl] at hfe
          go_upto_region 13 with (go_at_call 14; refine (HID.out _ (HR6.out.below (by repeat (first | exact Below.refl _ _ | apply Below.drew | apply below_drewN | apply below_al)))).mono ?_; rintro e w8 ⟨rfl, hb⟩; replace HR6 := Lib.hid (HR6.out.below (go3 (by repeat (first | exact Below.refl _ _ | apply Below.drew | apply below_drewN | apply below_al)) hb)); replace HF6 := Lib.hid (HF6.out.below (go3 (by repeat (first | exact Below.refl _ _ | apply Below.drew | apply below_drewN | apply below_al)) hb)); replace HL6 := Lib.hid (HL6.out.below (go3 (by repeat (first | exact Below.refl _ _ | apply Below.drew | apply below_drewN | apply below_al)) hb)); replace HMP6 := Lib.hid (HMP6.out.below (go3 (by repeat (first | exact Below.refl _ _ | apply Below.drew | apply below_drewN | apply below_al)) hb)); replace HS6 := HS6.go2 (by repeat (first | exact Below.refl _ _ | apply Below.drew | apply below_drewN | apply below_al)) hb; have hs8 : w6.heap.size ≤ w8.heap.size := (by first | exact hb.size | (have := hb.size; simp at this; omega)); clear hb d0 d1 f0 f1 v0 v1 v2 v3 v4 v5 v6 v7 v8 v9 v10 v11 dl fl vl)
          replace HS6 := (HS6.out.push [.string f.1, .int .i64 f.2] 31 (g := w8.heap.size) rfl).at_
          replace HR6 := Lib.hid (HR6.out.below (below_alloc _ (.cells #[.string f.1, .int .i64 f.2] 31)))
          replace HF6 := Lib.hid (HF6.out.below (below_alloc _ (.cells #[.string f.1, .int .i64 f.2] 31)))
          replace HL6 := Lib.hid (HL6.out.below (below_alloc _ (.cells #[.string f.1, .int .i64 f.2] 31)))
          replace HMP6 := Lib.hid (HMP6.out.below (below_alloc _ (.cells #[.string f.1, .int .i64 f.2] 31)))
          obtain ⟨f0, f1⟩ := (HS6.out.get 1 rfl).c2
          obtain ⟨v0, v1, v2, v3, v4, v5, v6, v7, v8, v9, v10, v11⟩ := (HS6.out.get 2 rfl).rev
          obtain ⟨n0, n1⟩ := (HS6.out.get 3 rfl).c2
          have fl := (HS6.out.get 1 rfl).2.2
          have vl := (HS6.out.get 2 rfl).2.2
          have nl := (HS6.out.get 3 rfl).2.2
          have HS7 : At (BB w [(w2.heap.size, [.slice A2 rs.length c2, .slice B2 m2 d2]), (wo.heap.size, [.string f.1, .int .i64 f.2])]) (w8.alloc (.cells #[.string f.1, .int .i64 f.2] 31)) := (show BB w [(w2.heap.size, [.slice A2 rs.length c2, .slice B2 m2 d2]), (wo.heap.size, [.string f.1, .int .i64 f.2])] _ from ⟨fun p hp => HS6.out.1 p (by simp only [List.mem_cons, List.not_mem_nil, or_false] at hp ⊢; rcases hp with rfl | rfl <;> simp), HS6.out.2⟩).at_
          by_cases hi0 : i = 0
          · have hv0 := HV0.out hi0
            obtain ⟨e1, e2⟩ := (show v.path = f.1 ∧ v.num = f.2 from ⟨congrArg Prod.fst hv0, congrArg Prod.snd hv0⟩)
            rw [e1] at v0
            rw [e2] at v1
            subst hi0
            clear hv0 e1 e2
            go_wp2_with fail
            go_roundw
            case rel => exact ⟨_, by omega, by go_num, Lib.hid (HS7.go (by repeat (first | exact Below.refl _ _ | apply Below.drew | apply below_drewN | apply below_al))).out, Lib.hid (HR6.out.below (by repeat (first | exact Below.refl _ _ | apply Below.drew | apply below_drewN | apply below_al))), Lib.hid (HF6.out.below (by repeat (first | exact Below.refl _ _ | apply Below.drew | apply below_drewN | apply below_al))), Lib.hid (HL6.out.below (by repeat (first | exact Below.refl _ _ | apply Below.drew | apply below_drewN | apply below_al))), Lib.hid (HMP6.out.below (by repeat (first | exact Below.refl _ _ | apply Below.drew | apply below_drewN | apply below_al))), HND2, (by simp; omega)⟩
            case measure => simp [intOf]; omega
          · have hi1 : ((i : Int) == 0) = false := by simp; omega
            go_wp2_with fail
            go_roundw
            case rel => exact ⟨_, by omega, by go_num, Lib.hid (HS7.go (by repeat (first | exact Below.refl _ _ | apply Below.drew | apply below_drewN | apply below_al))).out, Lib.hid (HR6.out.below (by repeat (first | exact Below.refl _ _ | apply Below.drew | apply below_drewN | apply below_al))), Lib.hid (HF6.out.below (by repeat (first | exact Below.refl _ _ | apply Below.drew | apply below_drewN | apply below_al))), Lib.hid (HL6.out.below (by repeat (first | exact Below.refl _ _ | apply Below.drew | apply below_drewN | apply below_al))), Lib.hid (HMP6.out.below (by repeat (first | exact Below.refl _ _ | apply Below.drew | apply below_drewN | apply below_al))), HND2, (by simp; omega)⟩
            case measure => simp [intOf]; omega
        · obtain rfl : i = la.length := by omega
          have HMP2 : Hid (MPv wr (w2.heap.size + 1) (MC (seenN rs (fs.take (k + 1)))) (seenN rs (fs.take (k + 1))).length) := Lib.hid (by rw [← HEND.out]; exact HMP.out)
          have HND2 : Hid (seenN rs (fs.take (k + 1))).Nodup := Lib.hid (by rw [← HEND.out]; exact HND.out)
          have HS2 : Hid (BB w [(w2.heap.size, [.slice A2 rs.length c2, .slice B2 m2 d2])] wr) := Lib.hid ⟨fun p hp => HS.out.1 p (by simp only [List.mem_cons, List.not_mem_nil, or_false] at hp ⊢; exact .inl hp), HS.out.2⟩
          clear HMP HND
          go_wp2_with fail
          go_roundw
          case rel => exact ⟨k + 1, by omega, by go_num, HS2, HR2, HF1, HMP2, HND2, by omega⟩
          case measure => simp [intOf]; omega
    · obtain rfl : k = fs.length := by omega
      have hm := HMP.out
      rw [List.take_length] at hm
      have HMF := Lib.hid hm
      have HALL : Hid (∀ v ∈ rs, okF (nameR v) ∧ (MC (seenN rs fs) (nameR v)).getD (.int .i64 0) = .int .i64 (if v.act = 5 then 0 else 1)) := Lib.hid (fun v hv => by
        refine ⟨okF_of (by have := HDP.out.sz v hv; omega) (HDP.out.near v hv), ?_⟩
        have := HFS.out
        subst this
        by_cases h5 : v.act = 5
        · rw [MC_out (fun e => (HDP.out.inv.all_seen hv).1 e h5), if_pos h5]; rfl
        · rw [MC_in ((HDP.out.inv.all_seen hv).2 h5), if_neg h5]; rfl)
      generalize seenN rs fs = T at *
      have h500 := HDP.out.len
      clear hm HMP HND HF1 HNP HFS
      obtain ⟨wo, rfl⟩ : ∃ wo, wo = wr := ⟨wr, rfl⟩
      have q2 := HR2.out.1
      have q2' := HR2.out.2.1
      rw [List.length_map] at q2
      go_upto_region 18 with (fail)
      go_loopw [86] (fun s wr => ∃ j : Nat, j ≤ rs.length ∧ s = .int .i64 j ∧ Hid (BB w [(w2.heap.size, [.slice A2 rs.length c2, .slice B2 m2 d2])] wr) ∧ Hid (RV wr A2 c2 rs) ∧ Hid (MPv wr (w2.heap.size + 1) (MC T) T.length)) (fun s _ => rs.length - (intOf s).toNat)
      case atStart => exact ⟨0, Nat.zero_le _, rfl, Lib.hid HS.out, HR2, HMF⟩
      case round =>
        clear HS HR2 HMF d0 d1 dl
        obtain ⟨j, hj, rfl, HS0, HR2, HMF⟩ := hrel
        have HS := HS0.out.at_
        clear HS0
        by_cases hjl : j < rs.length
        · obtain ⟨v, hv⟩ : ∃ v, rs[j]? = some v := ⟨_, List.getElem?_eq_getElem hjl⟩
          obtain ⟨b7, o7, rfl, hb7, x0, x1, x2, x3, x4, x5, x6, x7, x8, x9, x10, x11⟩ := HR2.out.at_ hv
          obtain ⟨hok, hgd⟩ := HALL.out v (List.mem_of_getElem? hv)
          have HOK := Lib.hid hok
          have HGD := Lib.hid hgd
          have HV : At (fun w' => BX w' wr.heap.size (revV v)) (wr.alloc (.cells #[.string v.path, .int .i64 v.num, .int .i64 v.chg, .int .i64 v.act, .int .i64 v.ty.1, .bool v.ty.2.1, .bool v.ty.2.2.1, .bool v.ty.2.2.2, .int .u64 v.cid.1, .int .i64 v.cid.2, .string v.frm, .int .i64 v.fnum] 40)) := ⟨fun X Y h hb => h.below hb, BX.new wr (revV v) _ rfl⟩
          obtain ⟨v0, v1, v2, v3, v4, v5, v6, v7, v8, v9, v10, v11⟩ := HV.out.rev
          clear hok hgd hv
          by_cases h5 : v.act = 5
          · have b5 : (v.act == 5) = true := by simpa using h5
            have HGD2 : Hid ((MC T (nameR v)).getD (.int .i64 0) = .int .i64 0) := Lib.hid (by rw [HGD.out, if_pos h5])
            clear HGD h5
            go_wp2_with (at_lookup; refine wpList_look0 rfl _ _ _ rfl Tryd.underlying49 (zeroInt _) (w2.heap.size + 1) (MC T) T.length rfl (HMF.out.below (by repeat (first | exact Below.refl _ _ | apply Below.drew | apply below_drewN | apply below_al | (refine Below.setCell ?_ (by simp) _)))) (nameR v) rfl HOK.out (.int .i64 0) HGD2.out ?_)
            go_roundw
            case rel => exact ⟨j + 1, by omega, by go_num, Lib.hid (HS.go (by repeat (first | exact Below.refl _ _ | apply Below.drew | apply below_drewN | apply below_al))).out, Lib.hid (HR2.out.below (by repeat (first | exact Below.refl _ _ | apply Below.drew | apply below_drewN | apply below_al))), Lib.hid (HMF.out.below (by repeat (first | exact Below.refl _ _ | apply Below.drew | apply below_drewN | apply below_al)))⟩
            case measure => simp [intOf]; omega
          · have b5 : (v.act == 5) = false := by simpa using h5
            have HGD2 : Hid ((MC T (nameR v)).getD (.int .i64 0) = .int .i64 1) := Lib.hid (by rw [HGD.out, if_neg h5])
            clear HGD h5
            go_wp2_with (at_lookup; refine wpList_look0 rfl _ _ _ rfl Tryd.underlying49 (zeroInt _) (w2.heap.size + 1) (MC T) T.length rfl (HMF.out.below (by repeat (first | exact Below.refl _ _ | apply Below.drew | apply below_drewN | apply below_al | (refine Below.setCell ?_ (by simp) _)))) (nameR v) rfl HOK.out (.int .i64 1) HGD2.out ?_)
            go_roundw
            case rel => exact ⟨j + 1, by omega, by go_num, Lib.hid (HS.go (by repeat (first | exact Below.refl _ _ | apply Below.drew | apply below_drewN | apply below_al))).out, Lib.hid (HR2.out.below (by repeat (first | exact Below.refl _ _ | apply Below.drew | apply below_drewN | apply below_al))), Lib.hid (HMF.out.below (by repeat (first | exact Below.refl _ _ | apply Below.drew | apply below_drewN | apply below_al)))⟩
            case measure => simp [intOf]; omega
        · obtain rfl : j = rs.length := by omega
          go_wp2_with (go_at_call 12; refine (awake_any _).mono ?_; rintro e wa ⟨rfl, hb⟩; have HBA := Lib.hid hb; clear hb)
          go_ret
          exact ⟨rfl, go3 HS.out.low HBA.out⟩
end Go.Proofs.YteagecjhpfijjaaDoor

