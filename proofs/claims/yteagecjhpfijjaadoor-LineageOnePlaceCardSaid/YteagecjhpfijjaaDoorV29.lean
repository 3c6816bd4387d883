/-
  The walks of the program's members: membersOf, previous, Previous.
-/
import Derived.Test.YteagecjhpfijjaaDoorV28
import Derived.Test.YteagecjhpfijjaaDoorV22
namespace Go.Proofs.YteagecjhpfijjaaDoor
set_option linter.unusedSimpArgs false
set_option linter.unusedVariables false
open Go.RowKit Go.WideShapes

theorem run_makeMap_n (n : Nat) (w : World) : (Instr.makeMap 73 (some (.int .i64 n))).run Tryd.prog w = .ok (.map (some w.heap.size)) (w.alloc (.map #[] 0)) := by
  simp [Instr.makeMap, run_underlying Tryd.underlying73, Result.andThen, asInt]
  rfl
theorem wpList_look {w : World} {ops : Array Oper} {rest : List Oper} {o : Oper} {a : Act} {Q : Exit → Act → World → Prop} (hg : o.guard = none) (m x : Operand) (t : TypeId) (hop : o.op = Op.lookup t m x true)
    {e : TypeId} (ht : Tryd.prog.underlying t = some (.map 31 e)) {z : Value} (hz : (zeroValue e).run Tryd.prog w = .ok z w) (b : Nat) (M : ByteArray × Int → Option Value) (cnt : Nat) (hm : a.eval m = .map (some b)) (hM : MPv w b M cnt) (f : ByteArray × Int) (hx : a.eval x = fileA f) (hf : okF f)
    (val : Value) (q : Bool) (hv : (M f).getD z = val) (hq : (M f).isSome = q)
    (hK : wpList Tryd.prog ops Q rest (a.put o.dst (.tuple #[val, .bool q])) w) : wpList Tryd.prog ops Q (o :: rest) a w := by
  subst hv hq
  refine wpList_plain hg fun K' hK' => ?_
  have hrun := hM.look ht hz hf
  unfold Oper.wp
  simp [execOp, hop, hm, hx, hrun, Result.andThen]
  exact hK' _ _ hK
theorem wpList_look0 {w : World} {ops : Array Oper} {rest : List Oper} {o : Oper} {a : Act} {Q : Exit → Act → World → Prop} (hg : o.guard = none) (m x : Operand) (t : TypeId) (hop : o.op = Op.lookup t m x false)
    {e : TypeId} (ht : Tryd.prog.underlying t = some (.map 31 e)) {z : Value} (hz : (zeroValue e).run Tryd.prog w = .ok z w) (b : Nat) (M : ByteArray × Int → Option Value) (cnt : Nat) (hm : a.eval m = .map (some b)) (hM : MPv w b M cnt) (f : ByteArray × Int) (hx : a.eval x = fileA f) (hf : okF f)
    (val : Value) (hv : (M f).getD z = val)
    (hK : wpList Tryd.prog ops Q rest (a.put o.dst val) w) : wpList Tryd.prog ops Q (o :: rest) a w := by
  subst hv
  refine wpList_plain hg fun K' hK' => ?_
  have hrun := hM.look0 ht hz hf
  unfold Oper.wp
  simp [execOp, hop, hm, hx, hrun, Result.andThen]
  exact hK' _ _ hK
theorem wp_put {w : World} {o : Oper} {a : Act} {K : Act → World → Prop} {Q : Exit → Act → World → Prop} (m x v : Operand) (t : TypeId) (hop : o.op = Op.mapUpdate t m x v)
    {e : TypeId} (ht : Tryd.prog.underlying t = some (.map 31 e)) (b : Nat) (M : ByteArray × Int → Option Value) (cnt : Nat) (hm : a.eval m = .map (some b)) (hM : MPv w b M cnt) (f : ByteArray × Int) (val : Value) (hx : a.eval x = fileA f) (hv : a.eval v = val) (hf : okF f) (hn : cnt < 1000)
    (h : ∀ w', MPv w' b (fun g => if g = f then some val else M g) (if (M f).isSome then cnt else cnt + 1) → w.grownBy w' (some b) → K (a.put o.dst undef) w') : o.wp Tryd.prog a w K Q := by
  obtain ⟨w', hrun, h1, h2⟩ := hM.put ht hf val hn
  unfold Oper.wp
  simp [execOp, hop, hm, hx, hv, hrun, Result.andThen]
  exact h w' h1 h2
set_option maxHeartbeats 4000000 in
set_option maxRecDepth 100000 in
theorem mprev_any (b : Nat) (rs : List Rv) (v : Rv) (cnt : Nat) (w : World) (h : MPv w b (MM_ rs) cnt) (hv : nearN v.num) (h1 : okF (v.path, v.num - 1)) (h2 : v.act = 4 → okF (v.frm, v.fnum)) :
    Calls Tryd.prog 37 #[.map (some b), aggR v] w (RetOR w (prevP rs v)) := by
  have HM := Lib.hid h
  obtain ⟨n1, n2⟩ := hv
  unfold aggR
  by_cases h1a : v.act = 1
  · have HO : Hid (prevP rs v = none) := Lib.hid (by unfold prevP; rw [if_pos h1a])
    have b1 : (v.act == 1) = true := by simpa using h1a
    clear h1a h h1 h2
    go_enter Tryd.func37, Tryd.ntmps37
    go_wp2_with fail
    refine bodyPost_ret (v := .tuple #[aggR rv0, .bool false]) (by simp [results, Tryd.results37, go_sem]; rfl) rfl ?_
    exact ⟨by rw [HO.out]; rfl, below_three _ _ _ _⟩
  · have b1 : (v.act == 1) = false := by simpa using h1a
    by_cases h4 : v.act = 4
    · have HO : Hid (prevP rs v = mapR rs (v.frm, v.fnum)) := Lib.hid (by unfold prevP; rw [if_neg h1a, if_pos h4])
      have b4 : (v.act == 4) = true := by simpa using h4
      have HOK := Lib.hid (h2 h4)
      have HE1 : Hid ((MM_ rs (v.frm, v.fnum)).getD (aggR rv0) = aggR ((mapR rs (v.frm, v.fnum)).getD rv0)) := Lib.hid (by unfold MM_; cases mapR rs (v.frm, v.fnum) <;> rfl)
      have HE2 : Hid ((MM_ rs (v.frm, v.fnum)).isSome = (mapR rs (v.frm, v.fnum)).isSome) := Lib.hid (by unfold MM_; cases mapR rs (v.frm, v.fnum) <;> rfl)
      clear h1a h h1 h2 h4
      generalize mapR rs (v.frm, v.fnum) = o at *
      have HU : Hid (aggR (o.getD rv0) = aggR (o.getD rv0)) := Lib.hid rfl
      generalize hu : o.getD rv0 = u at *
      generalize hq : o.isSome = q at *
      have HUQ := Lib.hid (And.intro hu hq)
      clear hu hq
      unfold aggR at HE1
      go_enter Tryd.func37, Tryd.ntmps37
      go_wp2_with (at_lookup; refine wpList_look rfl _ _ _ rfl Tryd.underlying73 (zeroRev _) b (MM_ rs) cnt rfl (HM.out.below (by repeat (first | exact Below.refl _ _ | apply Below.drew | apply below_drewN | apply below_al | (refine Below.setCell ?_ (by simp) _)))) (v.frm, v.fnum) rfl HOK.out (.agg #[.string u.path, .int .i64 u.num, .int .i64 u.chg, .int .i64 u.act, .int .i64 u.ty.1, .bool u.ty.2.1, .bool u.ty.2.2.1, .bool u.ty.2.2.2, .int .u64 u.cid.1, .int .i64 u.cid.2, .string u.frm, .int .i64 u.fnum]) q HE1.out HE2.out ?_)
      refine bodyPost_ret (v := .tuple #[aggR u, .bool q]) (by simp [results, Tryd.results37, go_sem]; rfl) rfl ?_
      exact ⟨by rw [HO.out, HUQ.out.1, HUQ.out.2], (by repeat (first | exact Below.refl _ _ | apply Below.drew | apply below_drewN | apply below_al))⟩
    · have HO : Hid (prevP rs v = mapR rs (v.path, v.num - 1)) := Lib.hid (by unfold prevP; rw [if_neg h1a, if_neg h4])
      have b4 : (v.act == 4) = false := by simpa using h4
      have HOK := Lib.hid h1
      have HE1 : Hid ((MM_ rs (v.path, v.num - 1)).getD (aggR rv0) = aggR ((mapR rs (v.path, v.num - 1)).getD rv0)) := Lib.hid (by unfold MM_; cases mapR rs (v.path, v.num - 1) <;> rfl)
      have HE2 : Hid ((MM_ rs (v.path, v.num - 1)).isSome = (mapR rs (v.path, v.num - 1)).isSome) := Lib.hid (by unfold MM_; cases mapR rs (v.path, v.num - 1) <;> rfl)
      clear h1a h h1 h2 h4
      generalize mapR rs (v.path, v.num - 1) = o at *
      have HU : Hid (aggR (o.getD rv0) = aggR (o.getD rv0)) := Lib.hid rfl
      generalize hu : o.getD rv0 = u at *
      generalize hq : o.isSome = q at *
      have HUQ := Lib.hid (And.intro hu hq)
      clear hu hq
      unfold aggR at HE1
      go_enter Tryd.func37, Tryd.ntmps37
      go_wp2_with (at_lookup; refine wpList_look rfl _ _ _ rfl Tryd.underlying73 (zeroRev _) b (MM_ rs) cnt rfl (HM.out.below (by repeat (first | exact Below.refl _ _ | apply Below.drew | apply below_drewN | apply below_al | (refine Below.setCell ?_ (by simp) _)))) (v.path, v.num - 1) rfl HOK.out (.agg #[.string u.path, .int .i64 u.num, .int .i64 u.chg, .int .i64 u.act, .int .i64 u.ty.1, .bool u.ty.2.1, .bool u.ty.2.2.1, .bool u.ty.2.2.2, .int .u64 u.cid.1, .int .i64 u.cid.2, .string u.frm, .int .i64 u.fnum]) q HE1.out HE2.out ?_)
      refine bodyPost_ret (v := .tuple #[aggR u, .bool q]) (by simp [results, Tryd.results37, go_sem]; rfl) rfl ?_
      exact ⟨by rw [HO.out, HUQ.out.1, HUQ.out.2], (by repeat (first | exact Below.refl _ _ | apply Below.drew | apply below_drewN | apply below_al))⟩
theorem okF_of {p : ByteArray} {n : Int} (h : p.size ≤ 1000) (hn : nearN n) : okF (p, n) := by
  refine ⟨by show p.size ≤ _; omega, ?_⟩
  obtain ⟨h1, h2⟩ := hn
  show (Lit.int .i64 n).wf = true
  have e1 : IntKind.i64.min = -9223372036854775808 := rfl
  have e2 : IntKind.i64.max = 9223372036854775807 := rfl
  simp [Lit.wf, e1, e2]
  constructor <;> omega
theorem mapR_none {rs : List Rv} (h : Inv rs) {k : Nat} {v : Rv} (hk : rs[k]? = some v) : mapR (rs.take k) (nameR v) = none := by
  cases hm : mapR (rs.take k) (nameR v) with
  | none => rfl
  | some u =>
    exfalso
    obtain ⟨h1, h2, h3⟩ := mapR_some hm
    obtain ⟨e1, e2⟩ := nameR_eq.1 h3
    have := h.uniq (List.mem_of_mem_take h1) (List.mem_of_getElem? hk) e1 e2
    subst this
    exact h.not_before hk h1
theorem cntM_snoc {rs : List Rv} {k : Nat} {v : Rv} (hk : rs[k]? = some v) : cntM (rs.take (k + 1)) = cntM (rs.take k) + (if v.act = 5 then 0 else 1) := by
  unfold cntM
  rw [filter_snoc _ hk, List.length_append]
  by_cases e : v.act = 5 <;> simp [e]
theorem MM_snoc {rs : List Rv} {k : Nat} {v : Rv} (hk : rs[k]? = some v) (h5 : v.act ≠ 5) : MM_ (rs.take (k + 1)) = fun g => if g = (v.path, v.num) then some (aggR v) else MM_ (rs.take k) g := by
  funext g
  unfold MM_
  rw [mapR_snoc hk]
  by_cases e : nameR v = g
  · rw [if_pos ⟨h5, e⟩, if_pos (show g = (v.path, v.num) from e.symm)]; rfl
  · rw [if_neg (fun h => e h.2), if_neg (fun h : g = (v.path, v.num) => e h.symm)]
theorem MM_skip {rs : List Rv} {k : Nat} {v : Rv} (hk : rs[k]? = some v) (h5 : v.act = 5) : MM_ (rs.take (k + 1)) = MM_ (rs.take k) := by
  funext g
  unfold MM_
  rw [mapR_snoc hk, if_neg (fun h => h.1 h5)]
set_option maxHeartbeats 8000000 in
set_option maxRecDepth 100000 in
theorem membersOf_any (A B : Option Addr) (c m d : Nat) (rs : List Rv) (w : World) (h : RV w A c rs) (hl : rs.length ≤ 500) (hi : Inv rs) (hz : szR rs) (hr : ∀ u ∈ rs, nearN u.num) :
    Calls Tryd.prog 32 #[.agg #[.slice A rs.length c, .slice B m d]] w fun e w' => ∃ b, e = .returned (.map (some b)) ∧ MPv w' b (MM_ rs) (cntM rs) ∧ w.heap.size ≤ b ∧ Below w.heap.size w w' := by
  have h1 := h.1
  have h2 := h.2.1
  rw [List.length_map] at h1
  have HR := Lib.hid h
  have HI := Lib.hid hi
  have HZ := Lib.hid hz
  have HRN := Lib.hid hr
  have HNM := Lib.hid name_any
  unfold aggR at HNM
  have hmm := run_makeMap_n
  clear h hi hz hr
  go_enter Tryd.func32, Tryd.ntmps32
  go_wp2_with fail
  clear hmm
  go_loopw [13] (fun s wr => ∃ k : Nat, k ≤ rs.length ∧ s = .int .i64 k ∧ Hid (MPv wr (w.heap.size + 1) (MM_ (rs.take k)) (cntM (rs.take k))) ∧ Hid (Below w.heap.size w wr) ∧ w.heap.size + 1 < wr.heap.size) (fun s _ => rs.length - (intOf s).toNat)
  case atStart => exact ⟨0, Nat.zero_le _, rfl, Lib.hid (by have := MPv.made (w.alloc (.cells #[.slice A rs.length c, .slice B m d] 28)); rw [World.size_alloc] at this; exact this), Lib.hid (by repeat (first | exact Below.refl _ _ | apply Below.drew | apply below_drewN | apply below_al)), by simp⟩
  case round =>
    obtain ⟨k, hk, rfl, HM, HB, hsz⟩ := hrel
    by_cases hlt : k < rs.length
    · obtain ⟨v, hv⟩ : ∃ v, rs[k]? = some v := ⟨_, List.getElem?_eq_getElem hlt⟩
      obtain ⟨b, o', rfl, hb1, x0, x1, x2, x3, x4, x5, x6, x7, x8, x9, x10, x11⟩ := (HR.out.below HB.out).at_ hv
      have HV : At (fun w' => BX w' wr.heap.size (revV v)) (wr.alloc (.cells #[.string v.path, .int .i64 v.num, .int .i64 v.chg, .int .i64 v.act, .int .i64 v.ty.1, .bool v.ty.2.1, .bool v.ty.2.2.1, .bool v.ty.2.2.2, .int .u64 v.cid.1, .int .i64 v.cid.2, .string v.frm, .int .i64 v.fnum] 40)) := ⟨fun X Y h hb => h.below hb, BX.new wr (revV v) _ rfl⟩
      have HOKV : Hid (okF (v.path, v.num)) := Lib.hid (okF_of (by have := HZ.out v (List.mem_of_getElem? hv); omega) (HRN.out v (List.mem_of_getElem? hv)))
      have HCL : Hid (cntM (rs.take k) ≤ 500) := Lib.hid (by
        unfold cntM
        have : ((rs.take k).filter (fun v => v.act != 5)).length ≤ (rs.take k).length := List.length_filter_le _ _
        rw [List.length_take] at this
        omega)
      have HC := Lib.hid (cntM_snoc hv)
      by_cases a5 : v.act = 5
      · have b5 : (v.act != 5) = false := by simpa using a5
        have HN : Hid (MM_ (rs.take (k + 1)) = MM_ (rs.take k) ∧ cntM (rs.take (k + 1)) = cntM (rs.take k)) := Lib.hid ⟨MM_skip hv a5, by rw [HC.out, if_pos a5]; rfl⟩
        clear a5 hv hb1
        go_wp2_with fail
        go_roundw
        case rel => exact ⟨k + 1, by omega, by go_num, Lib.hid (by rw [HN.out.1, HN.out.2]; exact HM.out.below (by repeat (first | exact Below.refl _ _ | apply Below.drew | apply below_drewN | apply below_al))), Lib.hid (go3 HB.out (by repeat (first | exact Below.refl _ _ | apply Below.drew | apply below_drewN | apply below_al))), by simp; omega⟩
        case measure => simp [intOf]; omega
      · have b5 : (v.act != 5) = true := by simpa using a5
        have HNX : Hid (MM_ (rs.take (k + 1)) = (fun g => if g = (v.path, v.num) then some (aggR v) else MM_ (rs.take k) g) ∧ cntM (rs.take (k + 1)) = cntM (rs.take k) + 1 ∧ cntM (rs.take k) + 1 = (if (MM_ (rs.take k) (v.path, v.num)).isSome then cntM (rs.take k) else cntM (rs.take k) + 1)) := Lib.hid (by
          refine ⟨MM_snoc hv a5, by rw [HC.out, if_neg a5], ?_⟩
          have : MM_ (rs.take k) (v.path, v.num) = none := by
            unfold MM_
            rw [show mapR (rs.take k) (v.path, v.num) = none from mapR_none HI.out hv]
            rfl
          rw [this]
          rfl)
        unfold aggR at HNX
        clear a5 hv hb1
        go_upto_region 6 with (fail)
        have HSx : (fun w' => w'.cell? ⟨wr.heap.size, 0, none⟩ = some (.string v.path) ∧ w'.cell? ⟨wr.heap.size, 1, none⟩ = some (.int .i64 v.num) ∧ w'.cell? ⟨wr.heap.size, 2, none⟩ = some (.int .i64 v.chg) ∧ w'.cell? ⟨wr.heap.size, 3, none⟩ = some (.int .i64 v.act) ∧ w'.cell? ⟨wr.heap.size, 4, none⟩ = some (.int .i64 v.ty.1) ∧ w'.cell? ⟨wr.heap.size, 5, none⟩ = some (.bool v.ty.2.1) ∧ w'.cell? ⟨wr.heap.size, 6, none⟩ = some (.bool v.ty.2.2.1) ∧ w'.cell? ⟨wr.heap.size, 7, none⟩ = some (.bool v.ty.2.2.2) ∧ w'.cell? ⟨wr.heap.size, 8, none⟩ = some (.int .u64 v.cid.1) ∧ w'.cell? ⟨wr.heap.size, 9, none⟩ = some (.int .i64 v.cid.2) ∧ w'.cell? ⟨wr.heap.size, 10, none⟩ = some (.string v.frm) ∧ w'.cell? ⟨wr.heap.size, 11, none⟩ = some (.int .i64 v.fnum)) (wr.alloc (.cells #[.string v.path, .int .i64 v.num, .int .i64 v.chg, .int .i64 v.act, .int .i64 v.ty.1, .bool v.ty.2.1, .bool v.ty.2.2.1, .bool v.ty.2.2.2, .int .u64 v.cid.1, .int .i64 v.cid.2, .string v.frm, .int .i64 v.fnum] 40)).drew := (HV.go (by repeat (first | exact Below.refl _ _ | apply Below.drew | apply below_drewN | apply below_al))).out.rev
        refine wp_region_wpH (S := fun w' => w'.cell? ⟨wr.heap.size, 0, none⟩ = some (.string v.path) ∧ w'.cell? ⟨wr.heap.size, 1, none⟩ = some (.int .i64 v.num) ∧ w'.cell? ⟨wr.heap.size, 2, none⟩ = some (.int .i64 v.chg) ∧ w'.cell? ⟨wr.heap.size, 3, none⟩ = some (.int .i64 v.act) ∧ w'.cell? ⟨wr.heap.size, 4, none⟩ = some (.int .i64 v.ty.1) ∧ w'.cell? ⟨wr.heap.size, 5, none⟩ = some (.bool v.ty.2.1) ∧ w'.cell? ⟨wr.heap.size, 6, none⟩ = some (.bool v.ty.2.2.1) ∧ w'.cell? ⟨wr.heap.size, 7, none⟩ = some (.bool v.ty.2.2.2) ∧ w'.cell? ⟨wr.heap.size, 8, none⟩ = some (.int .u64 v.cid.1) ∧ w'.cell? ⟨wr.heap.size, 9, none⟩ = some (.int .i64 v.cid.2) ∧ w'.cell? ⟨wr.heap.size, 10, none⟩ = some (.string v.frm) ∧ w'.cell? ⟨wr.heap.size, 11, none⟩ = some (.int .i64 v.fnum)) (c := 4) (by kernel_rfl) ?_
        refine wpH_take2 (i := 0) (v := ?_) [4] 20 rfl rfl (by kernel_rfl) (by kernel_rfl) (by kernel_rfl) (by kernel_rfl) (by kernel_rfl) (fun _ _ _ h => h) (Or.inl ⟨by rfl, ?y0⟩) HSx ?r0
        case y0 =>
          intro w' hSw
          obtain ⟨q0, q1, q2, q3, q4, q5, q6, q7, q8, q9, q10, q11⟩ := hSw
          go_simp
          with_reducible rfl
        try simp only [Act.put, List.setIfInBounds_toArray, List.set_cons_zero, List.set_cons_succ]
        refine wpH_take2 (i := 1) (v := ?_) [2, 4] 21 rfl rfl (by kernel_rfl) (by kernel_rfl) (by kernel_rfl) (by kernel_rfl) (by kernel_rfl) (fun _ _ _ h => h) (Or.inl ⟨by rfl, ?y1⟩) HSx ?r1
        case y1 =>
          intro w' hSw
          obtain ⟨q0, q1, q2, q3, q4, q5, q6, q7, q8, q9, q10, q11⟩ := hSw
          go_simp
          with_reducible rfl
        try simp only [Act.put, List.setIfInBounds_toArray, List.set_cons_zero, List.set_cons_succ]
        refine wpH_take2 (i := 3) (v := ?_) [4] 23 rfl rfl (by kernel_rfl) (by kernel_rfl) (by kernel_rfl) (by kernel_rfl) (by kernel_rfl) (fun _ _ _ h => h) (Or.inl ⟨by rfl, ?y3⟩) HSx ?r3
        case y3 =>
          intro w' hSw
          obtain ⟨q0, q1, q2, q3, q4, q5, q6, q7, q8, q9, q10, q11⟩ := hSw
          go_simp
          with_reducible rfl
        try simp only [Act.put, List.setIfInBounds_toArray, List.set_cons_zero, List.set_cons_succ]
        refine wpH_all (rs := [2]) (by kernel_rfl) (by simp) ?_
        intro z hz
        obtain rfl : z = 2 := by simpa using hz
        clear hz
        refine wpOp_step rfl (fun K hK => ?_)
        go_simp
        refine (HNM.out v _).mono ?_
        rintro e wl ⟨rfl, hb⟩
        have HV1 := HV.go2 (by repeat (first | exact Below.refl _ _ | apply Below.drew | apply below_drewN | apply below_al)) hb
        have HM1 := Lib.hid (HM.out.below (go3 (by repeat (first | exact Below.refl _ _ | apply Below.drew | apply below_drewN | apply below_al)) hb))
        have HB1 := Lib.hid (go3 HB.out (go3 (by repeat (first | exact Below.refl _ _ | apply Below.drew | apply below_drewN | apply below_al)) hb))
        have hbs := hb.size
        simp at hbs
        clear hb
        refine hK _ _ ?_
        clear hK K
        rw [if_neg (by decide)]
        refine ⟨HV1.out.rev, ?_⟩
        try simp only [Act.put, List.setIfInBounds_toArray, List.set_cons_zero, List.set_cons_succ]
        refine wpH_all (rs := [4]) (by kernel_rfl) (by simp) ?_
        intro z hz
        obtain rfl : z = 4 := by simpa using hz
        clear hz
        refine wpOp_step rfl (fun K hK => ?_)
        rw [if_pos (by rfl)]
        refine wp_put _ _ _ _ rfl Tryd.underlying73 (w.heap.size + 1) (MM_ (rs.take k)) (cntM (rs.take k)) rfl HM1.out (v.path, v.num) (.agg #[.string v.path, .int .i64 v.num, .int .i64 v.chg, .int .i64 v.act, .int .i64 v.ty.1, .bool v.ty.2.1, .bool v.ty.2.2.1, .bool v.ty.2.2.2, .int .u64 v.cid.1, .int .i64 v.cid.2, .string v.frm, .int .i64 v.fnum]) rfl rfl HOKV.out (by have := HCL.out; omega) ?_
        intro w5 hM5 hg5
        have HM5 : Hid (MPv w5 (w.heap.size + 1) (MM_ (rs.take (k + 1))) (cntM (rs.take (k + 1)))) := Lib.hid (by rw [HNX.out.1, HNX.out.2.1, HNX.out.2.2]; exact hM5)
        have HB5 := Lib.hid (HB1.out.grown hg5 (by omega) (fun j hj => by cases hj; exact Nat.le_succ _))
        have hgs := hg5.size
        clear hM5 hg5
        refine hK _ _ ?_
        clear hK K
        rw [if_pos rfl]
        try simp only [Act.put, List.setIfInBounds_toArray, List.set_cons_zero, List.set_cons_succ]
        refine wpAny_done (by kernel_rfl) ?_ _
        go_wp2_with fail
        go_roundw
        case rel => exact ⟨k + 1, by omega, by go_num, HM5, HB5, by omega⟩
        case measure => simp [intOf]; omega
    · obtain rfl : k = rs.length := by omega
      have hm := HM.out
      rw [List.take_length] at hm
      have HM2 := Lib.hid hm
      clear hm HM
      go_wp2_with fail
      go_ret
      exact ⟨_, rfl, HM2.out, Nat.le_succ _, HB.out⟩
end Go.Proofs.YteagecjhpfijjaaDoor

