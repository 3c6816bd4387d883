/-
  LineageOnePlace returns true.
-/
import Derived.Test.YteagecjhpfijjaaDoorLineageIdentities
import Derived.Test.YteagecjhpfijjaaDoorMX
namespace Go.Proofs.YteagecjhpfijjaaDoor
set_option linter.unusedSimpArgs false
set_option linter.unusedVariables false
open Go.RowKit Go.WideShapes

theorem RT.lenc {w : World} {A : Option Addr} {c : Nat} {xs : List ByteArray} (h : RT w A c xs) : xs.length ≤ c := h.1
theorem RT.capc {w : World} {A : Option Addr} {c : Nat} {xs : List ByteArray} (h : RT w A c xs) : c ≤ 9223372036854775807 := h.2.1
section
variable {w : World} {ops : Array Oper} {rest : List Oper} {o : Oper} {a : Act} {Q : Exit → Act → World → Prop}
theorem wpList_sslen (hg : o.guard = none) (m : Operand) (t : TypeId) (hop : o.op = Op.call { callee := Callee.builtin Builtin.len, args := #[m], argTypes := #[t] })
    (ht : Tryd.prog.underlying t = some (.map 9 4)) (b : Nat) (T : List ByteArray) (hm : a.eval m = .map (some b)) (h : SS w b T)
    (hK : wpList Tryd.prog ops Q rest (a.put o.dst (.int .i64 T.length)) w) : wpList Tryd.prog ops Q (o :: rest) a w := by
  refine wpList_plain hg fun K' hK' => ?_
  unfold Oper.wp
  simp [execOp, hop, resolve, invoke, builtin, hm, SPv.len h ht o.type, Result.andThen]
  exact hK' _ _ hK
end
theorem filter_take {α : Type} (p : α → Bool) {l : List α} {k : Nat} {v : α} (h : l[k]? = some v) : ((l.take (k + 1)).filter p).length = ((l.take k).filter p).length + (if p v = true then 1 else 0) := by
  rw [filter_snoc p h, List.length_append]
  split <;> simp
set_option maxHeartbeats 20000000 in
set_option maxRecDepth 100000 in
theorem lineageOnePlace_any (A : Option Addr) (c : Nat) (ls : List Cg) (n : Int) (w : World) (h : CV w A c ls) (hnil : NilC A c) (hr : CgR ls) (hlen : ls.length ≤ 3000000000000) (hn : (Lit.int .i64 n).wf = true) (hsh : w.ShapedOpen Tryd.prog) :
    Calls Tryd.prog 10 #[.slice A ls.length c, .int .i64 n] w fun e w' => e = .returned (.bool true) ∧ Below w.heap.size w w' := by
  have HC := Lib.hid h
  have HM := Lib.hid (ML.of hsh)
  have HSM := Lib.hid (fun W h => small_any A c ls W h hr)
  have HBD := Lib.hid (fun W h hs hm => build_any A c ls W h hs hm)
  unfold RetS at HSM
  clear h hr hsh hn
  have hmm := run_makeMapS
  go_enter Tryd.func10, Tryd.ntmps10
  go_wp2_with (first
    | (go_at_call 11; refine (HSM.out _ HC.out).mono ?_; rintro e w1 ⟨q, rfl, hq, hb⟩; have HQ := Lib.hid hq; have HB := Lib.hid hb; clear hb hq)
    | (go_at_call 12; refine (awake_any _).mono ?_; rintro e wa ⟨rfl, hb⟩; have HBA := Lib.hid hb; clear hb))
  all_goals (first | (go_ret; exact ⟨rfl, go3 HB.out HBA.out⟩) | skip)
  have hq1 : q = true := by have h0 : (!q) = false := (by assumption); cases q <;> simp_all
  refine (HBD.out _ (HC.out.below HB.out) (HQ.out hq1) (HM.out.below HB.out)).mono ?_
  rintro e w2 hR
  obtain ⟨rs, A2, c2, B2, m2, d2, rfl, hrv, hdp, hb⟩ := hR.dp (HQ.out hq1)
  have HB2 := Lib.hid (go3 HB.out hb)
  have hw2 : w.heap.size ≤ w2.heap.size := HB2.out.size
  have HR2 := Lib.hid (hrv.below (below_two w2 (.cells #[.slice A2 rs.length c2, .slice B2 m2 d2] 28) (.map #[] 0)))
  have HDP := Lib.hid hdp
  have HNP := Lib.hid (fun W h => lines_any A2 B2 c2 m2 d2 rs W h (Nat.le_trans hdp.len (by decide)))
  have HPS := Lib.hid (fun W h hm => paths_any A2 B2 c2 m2 d2 rs W h hdp.len hdp.sz hm)
  have HAT := Lib.hid (fun p W h => hat_any A2 B2 c2 m2 d2 rs p n W h (Nat.le_trans hdp.len (by decide)) hdp.inv)
  unfold RetFs at HNP
  unfold RetPs at HPS
  unfold RetOR at HAT
  have HF5 : Hid ((linesR rs).length ≤ 500) := Lib.hid (by unfold linesR; rw [List.length_map]; have := List.length_filter_le (fun v : Rv => v.act == 1) rs; have := hdp.len; omega)
  have hf5 := HF5.out
  have HPN : Hid (∀ k, k ≤ (linesR rs).length → (placesR rs ((linesR rs).take k) n).Nodup) := Lib.hid (hdp.inv.places_nodup n)
  have HOP : Hid (∀ xs : List ByteArray, xs.Nodup → (∀ p, p ∈ xs ↔ ∃ v ∈ rs, v.path = p) → (xs.filter (liveAt rs n)).length = (placesR rs (linesR rs) n).length) := Lib.hid (fun xs h1 h2 => hdp.inv.one_place n h1 h2)
  have HFR : Hid (∀ (k : Nat) f v, (linesR rs)[k]? = some f → whereR rs f n = some v → v.path ∉ placesR rs ((linesR rs).take k) n ∧ atR rs v.path n = some v ∧ v.path.size ≤ 500) := Lib.hid (fun k f v hf hw => by
    obtain ⟨a1, _⟩ := hdp.inv.place hw
    exact ⟨hdp.inv.place_fresh hf hw, a1, hdp.sz v (hdp.inv.atR_some.1 a1).1.1⟩)
  generalize linesR rs = fs at *
  have HS : At (BB w [(w2.heap.size, [.slice A2 rs.length c2, .slice B2 m2 d2])]) ((w2.alloc (.cells #[.slice A2 rs.length c2, .slice B2 m2 d2] 28)).alloc (.map #[] 0)) := ((show BB w [] w2 from ⟨(fun p hp => by cases hp), HB2.out⟩).push [.slice A2 rs.length c2, .slice B2 m2 d2] 28 rfl).at_.go2 (Below.refl _ _) (below_alloc _ _)
  have HSS : Hid (SS ((w2.alloc (.cells #[.slice A2 rs.length c2, .slice B2 m2 d2] 28)).alloc (.map #[] 0)) (w2.heap.size + 1) []) := Lib.hid (by have := SS.made (w2.alloc (.cells #[.slice A2 rs.length c2, .slice B2 m2 d2] 28)); rw [World.size_alloc] at this; exact this)
  clear hR hrv hb hdp
  obtain ⟨d0, d1⟩ := (HS.out.get 0 rfl).c2
  have dl := (HS.out.get 0 rfl).2.2
  go_upto_region 6 with (go_at_call 21; refine (HNP.out _ HR2.out).mono ?_; rintro e w7 ⟨A5, c5, rfl, hv5, hb⟩; have HF1 := Lib.hid hv5; have q5 := hv5.1; have q5' := hv5.2.1; rw [List.length_map] at q5; replace HR2 := Lib.hid (HR2.out.below hb); replace HSS := Lib.hid (HSS.out.below hb); replace HS := HS.go2 (Below.refl _ _) hb; have hsz7 : w2.heap.size + 1 < w7.heap.size := (by have := hb.size; simp at this; omega); clear hb hv5)
  clear d0 d1 dl
  go_loopw [28] (fun s wr => ∃ k : Nat, k ≤ fs.length ∧ s = .int .i64 k ∧ Hid (BB w [(w2.heap.size, [.slice A2 rs.length c2, .slice B2 m2 d2])] wr) ∧ Hid (RV wr A2 c2 rs) ∧ Hid (FV wr A5 c5 fs) ∧ Hid (SS wr (w2.heap.size + 1) (placesR rs (fs.take k) n)) ∧ w2.heap.size + 1 < wr.heap.size) (fun s _ => fs.length - (intOf s).toNat)
  case atStart => exact ⟨0, Nat.zero_le _, rfl, Lib.hid HS.out, HR2, HF1, HSS, hsz7⟩
  case round =>
    clear HS HR2 HF1 HSS hsz7
    obtain ⟨k, hk, rfl, HS0, HR2, HF1, HSS, hsz⟩ := hrel
    have HS := HS0.out.at_
    clear HS0
    obtain ⟨d0, d1⟩ := (HS.out.get 0 rfl).c2
    have dl := (HS.out.get 0 rfl).2.2
    by_cases hlt : k < fs.length
    · obtain ⟨f, hf⟩ : ∃ f, fs[k]? = some f := ⟨_, List.getElem?_eq_getElem hlt⟩
      obtain ⟨b5, o5, rfl, hb5, x0, x1⟩ := HF1.out.at_ hf
      have HWH := Lib.hid (fun W h => lwhere_any A2 B2 c2 m2 d2 rs f.1 f.2 n W h HDP.out)
      unfold RetOR at HWH
      rw [show whereR rs (f.1, f.2) n = whereR rs f n from rfl] at HWH
      have HFK := Lib.hid (HFR.out k f)
      have HSN : Hid (∀ v, whereR rs f n = some v → placesR rs (fs.take (k + 1)) n = placesR rs (fs.take k) n ++ [v.path]) := Lib.hid (fun v hw => placesR_snoc hf hw)
      have HSK : Hid (whereR rs f n = none → placesR rs (fs.take (k + 1)) n = placesR rs (fs.take k) n) := Lib.hid (fun hw => placesR_skip hf hw)
      have HTL : Hid ((placesR rs (fs.take k) n).length ≤ 500) := Lib.hid (by have := placesR_len (rs := rs) (fs := fs.take k) (c := n); rw [List.length_take] at this; omega)
      have HF := Lib.hid hf
      replace HS := (HS.out.push [.string f.1, .int .i64 f.2] 31 (g := wr.heap.size) rfl).at_
      replace HR2 := Lib.hid (HR2.out.below (below_alloc _ (.cells #[.string f.1, .int .i64 f.2] 31)))
      replace HF1 := Lib.hid (HF1.out.below (below_alloc _ (.cells #[.string f.1, .int .i64 f.2] 31)))
      replace HSS := Lib.hid (HSS.out.below (below_alloc _ (.cells #[.string f.1, .int .i64 f.2] 31)))
      clear hf d0 d1 dl
      go_upto_region 8 with (fail)
      obtain ⟨d0, d1⟩ := (HS.out.get 0 rfl).c2
      obtain ⟨f0, f1⟩ := (HS.out.get 1 rfl).c2
      have dl := (HS.out.get 0 rfl).2.2
      cases hw : whereR rs f n with
      | none =>
        rw [hw] at HWH
        simp only [Option.getD_none, Option.isSome_none] at HWH
        unfold aggR rv0 at HWH
        have HNX := Lib.hid (HSK.out hw)
        clear hw
        go_upto_region 9 with (go_at_call 25; refine (HWH.out _ (HR2.out.below (by repeat (first | exact Below.refl _ _ | apply Below.drew | apply below_drewN | apply below_al)))).mono ?_; rintro e w8 ⟨rfl, hb⟩; replace HR2 := Lib.hid (HR2.out.below (go3 (by repeat (first | exact Below.refl _ _ | apply Below.drew | apply below_drewN | apply below_al)) hb)); replace HF1 := Lib.hid (HF1.out.below (go3 (by repeat (first | exact Below.refl _ _ | apply Below.drew | apply below_drewN | apply below_al)) hb)); replace HSS := Lib.hid (HSS.out.below (go3 (by repeat (first | exact Below.refl _ _ | apply Below.drew | apply below_drewN | apply below_al)) hb)); replace HS := HS.go2 (by repeat (first | exact Below.refl _ _ | apply Below.drew | apply below_drewN | apply below_al)) hb; have hs8 : wr.heap.size < w8.heap.size := (by have := hb.size; simp at this; omega); clear d0 d1 dl f0 f1; clear hb)
        go_wp2_with fail
        go_roundw
        case rel => exact ⟨k + 1, by omega, by go_num, Lib.hid ((show BB w [(w2.heap.size, [.slice A2 rs.length c2, .slice B2 m2 d2])] _ from ⟨fun p hp => HS.out.1 p (by obtain rfl := List.mem_singleton.1 hp; simp), HS.out.2⟩).at_.go (by repeat (first | exact Below.refl _ _ | apply Below.drew | apply below_drewN | apply below_al))).out, Lib.hid (HR2.out.below (by repeat (first | exact Below.refl _ _ | apply Below.drew | apply below_drewN | apply below_al))), Lib.hid (HF1.out.below (by repeat (first | exact Below.refl _ _ | apply Below.drew | apply below_drewN | apply below_al))), Lib.hid (by rw [HNX.out]; exact HSS.out.below (by repeat (first | exact Below.refl _ _ | apply Below.drew | apply below_drewN | apply below_al))), by simp; omega⟩
        case measure => simp [intOf]; omega
      | some v =>
        rw [hw] at HWH
        simp only [Option.getD_some, Option.isSome_some] at HWH
        unfold aggR at HWH
        have HNX := Lib.hid (HSN.out v hw)
        obtain ⟨hfr, hat, hvs⟩ := HFK.out v HF.out hw
        have HVP := Lib.hid (HAT.out v.path)
        rw [hat] at HVP
        simp only [Option.getD_some, Option.isSome_some] at HVP
        unfold aggR at HVP
        have hvs' : v.path.size ≤ 9223372036854775807 := by omega
        have HNI := Lib.hid hfr
        have hre := fun w => rev_eq v v w
        simp only [show revB v v = true from (revB_iff v v).2 rfl] at hre
        unfold aggR at hre
        clear hw hfr hat
        generalize placesR rs (fs.take k) n = T at *
        have htl := HTL.out
        go_upto_region 9 with (go_at_call 25; refine (HWH.out _ (HR2.out.below (by repeat (first | exact Below.refl _ _ | apply Below.drew | apply below_drewN | apply below_al)))).mono ?_; rintro e w8 ⟨rfl, hb⟩; replace HR2 := Lib.hid (HR2.out.below (go3 (by repeat (first | exact Below.refl _ _ | apply Below.drew | apply below_drewN | apply below_al)) hb)); replace HF1 := Lib.hid (HF1.out.below (go3 (by repeat (first | exact Below.refl _ _ | apply Below.drew | apply below_drewN | apply below_al)) hb)); replace HSS := Lib.hid (HSS.out.below (go3 (by repeat (first | exact Below.refl _ _ | apply Below.drew | apply below_drewN | apply below_al)) hb)); replace HS := HS.go2 (by repeat (first | exact Below.refl _ _ | apply Below.drew | apply below_drewN | apply below_al)) hb; have hs8 : wr.heap.size < w8.heap.size := (by have := hb.size; simp at this; omega); clear d0 d1 dl f0 f1; clear hb)
        replace HS := (HS.out.push [.string v.path, .int .i64 v.num, .int .i64 v.chg, .int .i64 v.act, .int .i64 v.ty.1, .bool v.ty.2.1, .bool v.ty.2.2.1, .bool v.ty.2.2.2, .int .u64 v.cid.1, .int .i64 v.cid.2, .string v.frm, .int .i64 v.fnum] 40 (g := w8.heap.size) rfl).at_
        replace HR2 := Lib.hid (HR2.out.below (below_alloc _ (.cells #[.string v.path, .int .i64 v.num, .int .i64 v.chg, .int .i64 v.act, .int .i64 v.ty.1, .bool v.ty.2.1, .bool v.ty.2.2.1, .bool v.ty.2.2.2, .int .u64 v.cid.1, .int .i64 v.cid.2, .string v.frm, .int .i64 v.fnum] 40)))
        replace HF1 := Lib.hid (HF1.out.below (below_alloc _ (.cells #[.string v.path, .int .i64 v.num, .int .i64 v.chg, .int .i64 v.act, .int .i64 v.ty.1, .bool v.ty.2.1, .bool v.ty.2.2.1, .bool v.ty.2.2.2, .int .u64 v.cid.1, .int .i64 v.cid.2, .string v.frm, .int .i64 v.fnum] 40)))
        replace HSS := Lib.hid (HSS.out.below (below_alloc _ (.cells #[.string v.path, .int .i64 v.num, .int .i64 v.chg, .int .i64 v.act, .int .i64 v.ty.1, .bool v.ty.2.1, .bool v.ty.2.2.1, .bool v.ty.2.2.2, .int .u64 v.cid.1, .int .i64 v.cid.2, .string v.frm, .int .i64 v.fnum] 40)))
        go_upto_region 10 with (fail)
        obtain ⟨d0, d1⟩ := (HS.out.get 0 rfl).c2
        have dl := (HS.out.get 0 rfl).2.2
        obtain ⟨v0, _⟩ := (HS.out.get 2 rfl).rev
        go_upto_region 11 with (go_at_call 30; refine (HVP.out _ (HR2.out.below (by repeat (first | exact Below.refl _ _ | apply Below.drew | apply below_drewN | apply below_al)))).mono ?_; rintro e w9 ⟨rfl, hb⟩; replace HR2 := Lib.hid (HR2.out.below (go3 (by repeat (first | exact Below.refl _ _ | apply Below.drew | apply below_drewN | apply below_al)) hb)); replace HF1 := Lib.hid (HF1.out.below (go3 (by repeat (first | exact Below.refl _ _ | apply Below.drew | apply below_drewN | apply below_al)) hb)); replace HSS := Lib.hid (HSS.out.below (go3 (by repeat (first | exact Below.refl _ _ | apply Below.drew | apply below_drewN | apply below_al)) hb)); replace HS := HS.go2 (by repeat (first | exact Below.refl _ _ | apply Below.drew | apply below_drewN | apply below_al)) hb; have hs9 : w8.heap.size < w9.heap.size := (by have := hb.size; simp at this; omega); clear d0 d1 dl v0; clear hb)
        replace HS := (HS.out.push [.string v.path, .int .i64 v.num, .int .i64 v.chg, .int .i64 v.act, .int .i64 v.ty.1, .bool v.ty.2.1, .bool v.ty.2.2.1, .bool v.ty.2.2.2, .int .u64 v.cid.1, .int .i64 v.cid.2, .string v.frm, .int .i64 v.fnum] 40 (g := w9.heap.size) rfl).at_
        replace HR2 := Lib.hid (HR2.out.below (below_alloc _ (.cells #[.string v.path, .int .i64 v.num, .int .i64 v.chg, .int .i64 v.act, .int .i64 v.ty.1, .bool v.ty.2.1, .bool v.ty.2.2.1, .bool v.ty.2.2.2, .int .u64 v.cid.1, .int .i64 v.cid.2, .string v.frm, .int .i64 v.fnum] 40)))
        replace HF1 := Lib.hid (HF1.out.below (below_alloc _ (.cells #[.string v.path, .int .i64 v.num, .int .i64 v.chg, .int .i64 v.act, .int .i64 v.ty.1, .bool v.ty.2.1, .bool v.ty.2.2.1, .bool v.ty.2.2.2, .int .u64 v.cid.1, .int .i64 v.cid.2, .string v.frm, .int .i64 v.fnum] 40)))
        replace HSS := Lib.hid (HSS.out.below (below_alloc _ (.cells #[.string v.path, .int .i64 v.num, .int .i64 v.chg, .int .i64 v.act, .int .i64 v.ty.1, .bool v.ty.2.1, .bool v.ty.2.2.1, .bool v.ty.2.2.2, .int .u64 v.cid.1, .int .i64 v.cid.2, .string v.frm, .int .i64 v.fnum] 40)))
        obtain ⟨v0, v1, v2, v3, v4, v5, v6, v7, v8, v9, v10, v11⟩ := (HS.out.get 2 rfl).rev
        obtain ⟨u0, u1, u2, u3, u4, u5, u6, u7, u8, u9, u10, u11⟩ := (HS.out.get 3 rfl).rev
        go_upto_region 13 with (at_lookup; refine wpList_has rfl _ _ _ rfl Tryd.underlying66 (w2.heap.size + 1) T rfl (HSS.out.below (by repeat (first | exact Below.refl _ _ | apply Below.drew | apply below_drewN | apply below_al | (refine Below.setCell ?_ (by simp) _)))) v.path rfl hvs' false ⟨fun e => (by cases e), fun e => absurd e HNI.out⟩ ?_)
        have HS1 : At (BB w [(w2.heap.size, [.slice A2 rs.length c2, .slice B2 m2 d2])]) (w9.alloc (.cells #[.string v.path, .int .i64 v.num, .int .i64 v.chg, .int .i64 v.act, .int .i64 v.ty.1, .bool v.ty.2.1, .bool v.ty.2.2.1, .bool v.ty.2.2.2, .int .u64 v.cid.1, .int .i64 v.cid.2, .string v.frm, .int .i64 v.fnum] 40)) := (show BB w [(w2.heap.size, [.slice A2 rs.length c2, .slice B2 m2 d2])] _ from ⟨fun p hp => HS.out.1 p (by obtain rfl := List.mem_singleton.1 hp; simp), HS.out.2⟩).at_
        go_wp2_with (at_mapUpdate; refine wpList_into rfl _ _ _ _ rfl Tryd.underlying66 (w2.heap.size + 1) T rfl (HSS.out.below (by repeat (first | exact Below.refl _ _ | apply Below.drew | apply below_drewN | apply below_al | (refine Below.setCell ?_ (by simp) _)))) v.path rfl rfl hvs' (by omega) HNI.out ?_; intro w5 hs5 hg5; have HS5 := Lib.hid hs5; have HR5 : Hid (RV w5 A2 c2 rs) := Lib.hid (RR.grownS (HR2.out.below (by repeat (first | exact Below.refl _ _ | apply Below.drew | apply below_drewN | apply below_al))) (HSS.out.below (by repeat (first | exact Below.refl _ _ | apply Below.drew | apply below_drewN | apply below_al))) hg5); have HF5' : Hid (FV w5 (some ⟨b5, o5, none⟩) c5 fs) := Lib.hid (RR.grownS (HF1.out.below (by repeat (first | exact Below.refl _ _ | apply Below.drew | apply below_drewN | apply below_al))) (HSS.out.below (by repeat (first | exact Below.refl _ _ | apply Below.drew | apply below_drewN | apply below_al))) hg5); have HB5 := Lib.hid ((HS1.go (by repeat (first | exact Below.refl _ _ | apply Below.drew | apply below_drewN | apply below_al))).out.grown hg5 (fun j hj => by obtain rfl := Option.some.inj hj; exact ⟨fun p hp => (by obtain rfl := List.mem_singleton.1 hp; simp only; omega), by omega⟩)); have hs5 := hg5.size; simp at hs5; clear hg5)
        go_roundw
        case rel => exact ⟨k + 1, by omega, by go_num, HB5, HR5, HF5', Lib.hid (by rw [HNX.out]; exact HS5.out), by omega⟩
        case measure => simp [intOf]; omega
    · obtain rfl : k = fs.length := by omega
      have hss := HSS.out
      rw [List.take_length] at hss
      have HSF := Lib.hid hss
      have HPL : Hid ((placesR rs fs n).length ≤ 500) := Lib.hid (by have := placesR_len (rs := rs) (fs := fs) (c := n); omega)
      clear hss HSS HFR HPN HNP HF1
      generalize placesR rs fs n = T at *
      have htl := HPL.out
      obtain ⟨wo, rfl⟩ : ∃ wo, wo = wr := ⟨wr, rfl⟩
      go_upto_region 17 with (go_at_call 31; refine (HPS.out _ (HR2.out.below (by repeat (first | exact Below.refl _ _ | apply Below.drew | apply below_drewN | apply below_al))) (HM.out.below (HS.go (by repeat (first | exact Below.refl _ _ | apply Below.drew | apply below_drewN | apply below_al))).out.low)).mono ?_; rintro e w8 ⟨A6, c6, xs, rfl, hxt, hxn, hxm, hb⟩; have HXT := Lib.hid hxt; have q6 := hxt.lenc; have q6' := hxt.capc; have HXC := Lib.hid (HOP.out xs hxn hxm); have HXS : Hid (∀ p ∈ xs, p.size ≤ 500) := Lib.hid (fun p hp => (by obtain ⟨v, hv, e⟩ := (hxm p).1 hp; rw [← e]; exact HDP.out.sz v hv)); replace HR2 := Lib.hid (HR2.out.below (go3 (by repeat (first | exact Below.refl _ _ | apply Below.drew | apply below_drewN | apply below_al)) hb)); replace HSF := Lib.hid (HSF.out.below (go3 (by repeat (first | exact Below.refl _ _ | apply Below.drew | apply below_drewN | apply below_al)) hb)); replace HS := HS.go2 (by repeat (first | exact Below.refl _ _ | apply Below.drew | apply below_drewN | apply below_al)) hb; clear hb hxt hxn hxm d0 d1 dl)
      have HXL : Hid ((xs.filter (liveAt rs n)).length ≤ 500) := Lib.hid (by rw [HXC.out]; exact htl)
      go_loopw [13, 69] (fun s13 s wr => ∃ j : Nat, j ≤ xs.length ∧ s = .int .i64 j ∧ Hid (s13 = .int .i64 (((xs.take j).filter (liveAt rs n)).length : Nat)) ∧ Hid (BB w [(w2.heap.size, [.slice A2 rs.length c2, .slice B2 m2 d2])] wr) ∧ Hid (RV wr A2 c2 rs) ∧ Hid (SS wr (w2.heap.size + 1) T) ∧ Hid (RT wr A6 c6 xs)) (fun _ s _ => xs.length - (intOf s).toNat)
      case atStart => exact ⟨0, Nat.zero_le _, rfl, Lib.hid rfl, Lib.hid HS.out, HR2, HSF, HXT⟩
      case round =>
        clear HS HR2 HSF HXT
        obtain ⟨j, hj, rfl, HCN, HS0, HR2, HSF, HXT⟩ := hrel
        have HS := HS0.out.at_
        clear HS0
        obtain ⟨d0, d1⟩ := (HS.out.get 0 rfl).c2
        have dl := (HS.out.get 0 rfl).2.2
        by_cases hjl : j < xs.length
        · obtain ⟨p, hp⟩ : ∃ p, xs[j]? = some p := ⟨_, List.getElem?_eq_getElem hjl⟩
          obtain ⟨b6, o6, rfl, hb6, hxc⟩ := HXT.out.2.2 (by omega)
          have x0 := hxc j p hp
          have HN1 := Lib.hid (filter_take (liveAt rs n) hp)
          have hcn : ((xs.take j).filter (liveAt rs n)).length ≤ 500 := Nat.le_trans ((List.take_sublist j xs).filter _).length_le HXL.out
          have hs13 := HCN.out
          subst hs13
          have HPA := Lib.hid (HAT.out p)
          have HLV : Hid (liveAt rs n p = match atR rs p n with | none => false | some v => v.act != 3 && v.act != 5) := Lib.hid rfl
          generalize atR rs p n = av at *
          generalize liveAt rs n p = lv at *
          generalize ((xs.take j).filter (liveAt rs n)).length = cn at *
          clear hp hxc HCN
          cases av with
          | none =>
            simp only [Option.getD_none, Option.isSome_none] at HPA HLV
            unfold aggR rv0 at HPA
            have HC1 : Hid (((xs.take (j + 1)).filter (liveAt rs n)).length = cn) := Lib.hid (by rw [HN1.out, HLV.out]; rfl)
            clear HN1 HLV
            go_upto_region 20 with (go_at_call 30; refine (HPA.out _ (HR2.out.below (by repeat (first | exact Below.refl _ _ | apply Below.drew | apply below_drewN | apply below_al)))).mono ?_; rintro e w9 ⟨rfl, hb⟩; replace HR2 := Lib.hid (HR2.out.below (go3 (by repeat (first | exact Below.refl _ _ | apply Below.drew | apply below_drewN | apply below_al)) hb)); replace HSF := Lib.hid (HSF.out.below (go3 (by repeat (first | exact Below.refl _ _ | apply Below.drew | apply below_drewN | apply below_al)) hb)); replace HXT := Lib.hid (HXT.out.below (go3 (by repeat (first | exact Below.refl _ _ | apply Below.drew | apply below_drewN | apply below_al)) hb)); replace HS := HS.go2 (by repeat (first | exact Below.refl _ _ | apply Below.drew | apply below_drewN | apply below_al)) hb; clear hb d0 d1 dl x0)
            go_wp2_with fail
            go_roundw
            case rel => exact ⟨j + 1, by omega, by go_num, Lib.hid (by rw [HC1.out]), Lib.hid (HS.go (by repeat (first | exact Below.refl _ _ | apply Below.drew | apply below_drewN | apply below_al))).out, Lib.hid (HR2.out.below (by repeat (first | exact Below.refl _ _ | apply Below.drew | apply below_drewN | apply below_al))), Lib.hid (HSF.out.below (by repeat (first | exact Below.refl _ _ | apply Below.drew | apply below_drewN | apply below_al))), Lib.hid (HXT.out.below (by repeat (first | exact Below.refl _ _ | apply Below.drew | apply below_drewN | apply below_al)))⟩
            case measure => simp [intOf]; omega
          | some v =>
            simp only [Option.getD_some, Option.isSome_some] at HPA HLV
            unfold aggR at HPA
            by_cases h3 : v.act = 3
            · have b3 : (v.act != 3) = false := by simpa using h3
              have HC1 : Hid (((xs.take (j + 1)).filter (liveAt rs n)).length = cn) := Lib.hid (by rw [HN1.out, HLV.out, b3]; rfl)
              clear HN1 HLV h3
              go_upto_region 20 with (go_at_call 30; refine (HPA.out _ (HR2.out.below (by repeat (first | exact Below.refl _ _ | apply Below.drew | apply below_drewN | apply below_al)))).mono ?_; rintro e w9 ⟨rfl, hb⟩; replace HR2 := Lib.hid (HR2.out.below (go3 (by repeat (first | exact Below.refl _ _ | apply Below.drew | apply below_drewN | apply below_al)) hb)); replace HSF := Lib.hid (HSF.out.below (go3 (by repeat (first | exact Below.refl _ _ | apply Below.drew | apply below_drewN | apply below_al)) hb)); replace HXT := Lib.hid (HXT.out.below (go3 (by repeat (first | exact Below.refl _ _ | apply Below.drew | apply below_drewN | apply below_al)) hb)); replace HS := HS.go2 (by repeat (first | exact Below.refl _ _ | apply Below.drew | apply below_drewN | apply below_al)) hb; clear hb d0 d1 dl x0)
              go_wp2_with fail
              go_roundw
              case rel => exact ⟨j + 1, by omega, by go_num, Lib.hid (by rw [HC1.out]), Lib.hid (HS.go (by repeat (first | exact Below.refl _ _ | apply Below.drew | apply below_drewN | apply below_al))).out, Lib.hid (HR2.out.below (by repeat (first | exact Below.refl _ _ | apply Below.drew | apply below_drewN | apply below_al))), Lib.hid (HSF.out.below (by repeat (first | exact Below.refl _ _ | apply Below.drew | apply below_drewN | apply below_al))), Lib.hid (HXT.out.below (by repeat (first | exact Below.refl _ _ | apply Below.drew | apply below_drewN | apply below_al)))⟩
              case measure => simp [intOf]; omega
            · have b3 : (v.act != 3) = true := by simpa using h3
              by_cases h5 : v.act = 5
              · have b5 : (v.act != 5) = false := by simpa using h5
                have HC1 : Hid (((xs.take (j + 1)).filter (liveAt rs n)).length = cn) := Lib.hid (by rw [HN1.out, HLV.out, b3, b5]; rfl)
                clear HN1 HLV h3 h5
                go_upto_region 20 with (go_at_call 30; refine (HPA.out _ (HR2.out.below (by repeat (first | exact Below.refl _ _ | apply Below.drew | apply below_drewN | apply below_al)))).mono ?_; rintro e w9 ⟨rfl, hb⟩; replace HR2 := Lib.hid (HR2.out.below (go3 (by repeat (first | exact Below.refl _ _ | apply Below.drew | apply below_drewN | apply below_al)) hb)); replace HSF := Lib.hid (HSF.out.below (go3 (by repeat (first | exact Below.refl _ _ | apply Below.drew | apply below_drewN | apply below_al)) hb)); replace HXT := Lib.hid (HXT.out.below (go3 (by repeat (first | exact Below.refl _ _ | apply Below.drew | apply below_drewN | apply below_al)) hb)); replace HS := HS.go2 (by repeat (first | exact Below.refl _ _ | apply Below.drew | apply below_drewN | apply below_al)) hb; clear hb d0 d1 dl x0)
                go_wp2_with fail
                go_roundw
                case rel => exact ⟨j + 1, by omega, by go_num, Lib.hid (by rw [HC1.out]), Lib.hid (HS.go (by repeat (first | exact Below.refl _ _ | apply Below.drew | apply below_drewN | apply below_al))).out, Lib.hid (HR2.out.below (by repeat (first | exact Below.refl _ _ | apply Below.drew | apply below_drewN | apply below_al))), Lib.hid (HSF.out.below (by repeat (first | exact Below.refl _ _ | apply Below.drew | apply below_drewN | apply below_al))), Lib.hid (HXT.out.below (by repeat (first | exact Below.refl _ _ | apply Below.drew | apply below_drewN | apply below_al)))⟩
                case measure => simp [intOf]; omega
              · have b5 : (v.act != 5) = true := by simpa using h5
                have HC1 : Hid (((xs.take (j + 1)).filter (liveAt rs n)).length = cn + 1) := Lib.hid (by rw [HN1.out, HLV.out, b3, b5]; rfl)
                clear HN1 HLV h3 h5
                go_upto_region 20 with (go_at_call 30; refine (HPA.out _ (HR2.out.below (by repeat (first | exact Below.refl _ _ | apply Below.drew | apply below_drewN | apply below_al)))).mono ?_; rintro e w9 ⟨rfl, hb⟩; replace HR2 := Lib.hid (HR2.out.below (go3 (by repeat (first | exact Below.refl _ _ | apply Below.drew | apply below_drewN | apply below_al)) hb)); replace HSF := Lib.hid (HSF.out.below (go3 (by repeat (first | exact Below.refl _ _ | apply Below.drew | apply below_drewN | apply below_al)) hb)); replace HXT := Lib.hid (HXT.out.below (go3 (by repeat (first | exact Below.refl _ _ | apply Below.drew | apply below_drewN | apply below_al)) hb)); replace HS := HS.go2 (by repeat (first | exact Below.refl _ _ | apply Below.drew | apply below_drewN | apply below_al)) hb; clear hb d0 d1 dl x0)
                go_wp2_with fail
                go_roundw
                case rel => exact ⟨j + 1, by omega, by go_num, Lib.hid (by rw [HC1.out]; go_num), Lib.hid (HS.go (by repeat (first | exact Below.refl _ _ | apply Below.drew | apply below_drewN | apply below_al))).out, Lib.hid (HR2.out.below (by repeat (first | exact Below.refl _ _ | apply Below.drew | apply below_drewN | apply below_al))), Lib.hid (HSF.out.below (by repeat (first | exact Below.refl _ _ | apply Below.drew | apply below_drewN | apply below_al))), Lib.hid (HXT.out.below (by repeat (first | exact Below.refl _ _ | apply Below.drew | apply below_drewN | apply below_al)))⟩
                case measure => simp [intOf]; omega
        · obtain rfl : j = xs.length := by omega
          have hs13 := HCN.out
          rw [List.take_length, HXC.out] at hs13
          subst hs13
          clear HCN HXC HXL
          go_wp2_with (first
            | (at_len; refine wpList_sslen rfl _ _ rfl Tryd.underlying66 (w2.heap.size + 1) T rfl (HSF.out.below (by repeat (first | exact Below.refl _ _ | apply Below.drew | apply below_drewN | apply below_al | (refine Below.setCell ?_ (by simp) _)))) ?_)
            | (go_at_call 12; refine (awake_any _).mono ?_; rintro e wa ⟨rfl, hb⟩; have HBA := Lib.hid hb; clear hb))
          go_ret
          exact ⟨rfl, go3 HS.out.low HBA.out⟩
end Go.Proofs.YteagecjhpfijjaaDoor

