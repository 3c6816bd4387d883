/-
  RuleAssociates holds: the statement out of the walk.
-/
import Derived.Test.YtidjmbmnfnnleaaDoorCards
import Derived.Test.YtidjmbmnfnnleaaDoorTie
import Derived.Test.YtidjmbmnfnnleaaDoorRuleAssociates
import Derived.Test.YtidjmbmnfnnleaaDoorMF
import Derived.Test.YtidjmbmnfnnleaaDoorFu
namespace Go.Proofs.YtidjmbmnfnnleaaDoor.ruleAssociates
set_option linter.unusedSimpArgs false
set_option linter.unusedVariables false
open Go.ChangeShapes Go.WideShapes Go.ChangeAt Go.RowKit
open Go.ChangeMaps (open_string shut_string)

set_option maxRecDepth 100000 in
theorem contract (H : Type) (enc : TypeId × Value → H) (W : World) (base : Nat) (args : Array Value) (ds gs : List (DataW H)) (before : List MemPlace)
    (hval : ∀ (j : Nat) t v, Tryd.f9.params[j]? = some t → args[j]? = some v → Value.okWide Tryd.prog W .any base t v)
    (hW : DataW.Whole enc Tryd.prog Tryd.f9.params.toList Rows.ruleAssociatesSpec.vars false W args.toList ds gs before) (hsh : W.ShapedOpen Tryd.prog) (hwt : (DataW.weightsEach Tryd.prog (Tryd.f9.params.toList ++ (OpenSpec.ofChange Rows.ruleAssociatesSpec).bare.plain.varTypes Tryd.prog) (ds ++ gs)).all (· ≤ reachBytes) = true) :
    Calls Tryd.prog 9 args W fun e W' => ∃ v, e = .returned v ∧ Rows.ruleAssociatesSpec.post enc Tryd.prog Tryd.f9 false true false false W args v W' := by
  have hW' := hW
  obtain ⟨p, q, hA0, hV, rfl, hfz, hnd⟩ := hW
  have hA : DataW.TrodAll enc Tryd.prog W 0 (fun _ => true) true Tryd.f9.params.toList args.toList ds p := hA0
  rw [Tryd.params9] at hA hval
  obtain ⟨v0, vs0, d0, ds0, p0, q0, hargs, rfl, rfl, h0, r0⟩ := trodAll_cons hA
  obtain ⟨v1, vs1, d1, ds1, p1, q1, rfl, rfl, rfl, h1, r1⟩ := trodAll_cons r0
  obtain ⟨v2, vs2, d2, ds2, p2, q2, rfl, rfl, rfl, h2, r2⟩ := trodAll_cons r1
  obtain ⟨rfl, rfl, rfl⟩ := trodAll_nil r2
  obtain rfl : args = #[v0, v1, v2] := by cases args; simp_all
  obtain ⟨rfl, rfl⟩ := trodVars_none hV
  have k0 := h0
  have lt0 : ∀ x ∈ p0, x.block < W.heap.size := by obtain ⟨m, hm⟩ := k0; exact DataW.trod_lt m _ _ _ hm
  obtain ⟨e0, a0, A0, c0, q0, b0, B0, m0, s0, rfl, w0, z0, x0, y0, g0⟩ := open_rule Tryd.underlying26 rfl rfl rfl rfl rfl rfl Tryd.underlying24 rfl rfl rfl rfl Tryd.underlying22 Tryd.underlying9 Tryd.underlying4 (by kernel_rfl) (by kernel_rfl) (by kernel_rfl) (by kernel_rfl) (by kernel_rfl) (hval 0 26 v0 rfl rfl) h0 lt0
  have g0 := g0 (List.all_eq_true.2 fun n hn => List.all_eq_true.1 hwt n (DataW.weights_mem_each (j := 0) (t := 26) (by kernel_rfl) rfl n hn))
  have k1 := h1
  have lt1 : ∀ x ∈ p1, x.block < W.heap.size := by obtain ⟨m, hm⟩ := k1; exact DataW.trod_lt m _ _ _ hm
  obtain ⟨e1, a1, A1, c1, q1, b1, B1, m1, s1, rfl, w1, z1, x1, y1, g1⟩ := open_rule Tryd.underlying26 rfl rfl rfl rfl rfl rfl Tryd.underlying24 rfl rfl rfl rfl Tryd.underlying22 Tryd.underlying9 Tryd.underlying4 (by kernel_rfl) (by kernel_rfl) (by kernel_rfl) (by kernel_rfl) (by kernel_rfl) (hval 1 26 v1 rfl rfl) h1 lt1
  have g1 := g1 (List.all_eq_true.2 fun n hn => List.all_eq_true.1 hwt n (DataW.weights_mem_each (j := 1) (t := 26) (by kernel_rfl) rfl n hn))
  have k2 := h2
  have lt2 : ∀ x ∈ p2, x.block < W.heap.size := by obtain ⟨m, hm⟩ := k2; exact DataW.trod_lt m _ _ _ hm
  obtain ⟨e2, a2, A2, c2, q2, b2, B2, m2, s2, rfl, w2, z2, x2, y2, g2⟩ := open_rule Tryd.underlying26 rfl rfl rfl rfl rfl rfl Tryd.underlying24 rfl rfl rfl rfl Tryd.underlying22 Tryd.underlying9 Tryd.underlying4 (by kernel_rfl) (by kernel_rfl) (by kernel_rfl) (by kernel_rfl) (by kernel_rfl) (hval 2 26 v2 rfl rfl) h2 lt2
  have g2 := g2 (List.all_eq_true.2 fun n hn => List.all_eq_true.1 hwt n (DataW.weights_mem_each (j := 2) (t := 26) (by kernel_rfl) rfl n hn))
  clear hA0
  refine (ruleAssociates_any e0 A0 c0 a0 q0 B0 m0 b0 s0 e1 A1 c1 a1 q1 B1 m1 b1 s1 e2 A2 c2 a2 q2 B2 m2 b2 s2 W w0 z0 g0.1 x0 y0 g0.2 w1 z1 g1.1 x1 y1 g1.2 w2 z2 g2.1 x2 y2 g2.2 hsh).mono fun e W' ⟨he, bel⟩ => ?_
  subst he
  exact ⟨_, rfl, _, _, _, [], _, [], hW', trodAll_mk1 (shut_bool Tryd.underlying4 _), (trodAll_cons_mk (Below.trod laidOut (by kernel_rfl) (of_decide_eq_true (by kernel_rfl)) k0 bel lt0) (trodAll_cons_mk (Below.trod laidOut (by kernel_rfl) (of_decide_eq_true (by kernel_rfl)) k1 bel lt1) (trodAll_cons_mk (Below.trod laidOut (by kernel_rfl) (of_decide_eq_true (by kernel_rfl)) k2 bel lt2) trodAll_mk0))), rfl, bel.frame _, fun h => by cases h⟩

theorem reads (os : Os) {H : Type} (enc : TypeId × Value → H) : ∃ places, DataW.whole enc Tryd.prog ((World.laidAll Tryd.prog os Rows.ruleAssociatesRow.laid).forCall (fun _ _ => 0) ⟨#[], #[.agg #[.bool false, .slice none 0 0, .bool false, .slice none 0 0, .bool false], .agg #[.bool false, .slice none 0 0, .bool false, .slice none 0 0, .bool false], .agg #[.bool false, .slice none 0 0, .bool false, .slice none 0 0, .bool false]], []⟩).memory Tryd.f9.params.toList Rows.ruleAssociatesSpec.vars false (#[.agg #[.bool false, .slice none 0 0, .bool false, .slice none 0 0, .bool false], .agg #[.bool false, .slice none 0 0, .bool false, .slice none 0 0, .bool false], .agg #[.bool false, .slice none 0 0, .bool false, .slice none 0 0, .bool false]] : Array Value).toList 8 = some ([.agg [.lit (.bool false), .agg [.nil, .lit (.bool false)], .agg [.nil, .lit (.bool false)]], .agg [.lit (.bool false), .agg [.nil, .lit (.bool false)], .agg [.nil, .lit (.bool false)]], .agg [.lit (.bool false), .agg [.nil, .lit (.bool false)], .agg [.nil, .lit (.bool false)]]], [], places) :=
  ⟨[], by kernel_rfl⟩
theorem laid_met (os : Os) : laidMetH Tryd.prog Rows.ruleAssociatesRow.laid ((World.laidAll Tryd.prog os Rows.ruleAssociatesRow.laid).forCall (fun _ _ => 0) ⟨#[], #[.agg #[.bool false, .slice none 0 0, .bool false, .slice none 0 0, .bool false], .agg #[.bool false, .slice none 0 0, .bool false, .slice none 0 0, .bool false], .agg #[.bool false, .slice none 0 0, .bool false, .slice none 0 0, .bool false]], []⟩).memory := by
  rw [MakeChecks.laidMetH_plain _ _ _ (by kernel_rfl)]
  exact laidMet_laidAll _ (by kernel_rfl) (by kernel_rfl)

set_option maxRecDepth 100000 in
theorem lifted (os : Os) (started : os.Started) (H : Type) (enc : TypeId × Value → H) (F : Stop.Interp) :
    ReturnsInHanded {} Tryd.checked os 9 .any ((OpenSpec.ofChange Rows.ruleAssociatesSpec).preRow enc Tryd.prog Tryd.f9 Rows.ruleAssociatesRow.domain false Rows.ruleAssociatesRow.laid) (((OpenSpec.ofChange Rows.ruleAssociatesSpec).at F).post enc Tryd.prog Tryd.f9 false true false false) := by
  obtain ⟨places, hx⟩ := reads os enc
  refine returnsInHanded_of_row (C := Tryd.checked) (s := OpenSpec.ofChange Rows.ruleAssociatesSpec) own started (by kernel_rfl) Tryd.func9
    (witness_row_shaped (enc := enc) (C := Tryd.checked) false (World.laidAll Tryd.prog os Rows.ruleAssociatesRow.laid) #[.agg #[.bool false, .slice none 0 0, .bool false, .slice none 0 0, .bool false], .agg #[.bool false, .slice none 0 0, .bool false, .slice none 0 0, .bool false], .agg #[.bool false, .slice none 0 0, .bool false, .slice none 0 0, .bool false]] (World.laidAll_os _ _ _) (World.shaped_of_ZipB (by kernel_rfl) (by kernel_rfl)) (by kernel_rfl)
      (OpenSpec.preRow_of_cond 8 hx (by kernel_rfl) (fun k hk => by cases hk) (by kernel_rfl) (laid_met os))) ?_
  intro W base args ds gs before hval hW _ _ hwt _ hsh _
  exact contract H enc W base args ds gs before hval hW hsh hwt

theorem said : Rows.RuleAssociatesSaid :=
  OpenClaim.holds_of_cond 9 Tryd.f9 rfl rfl rfl rfl rfl rfl rfl ⟨rfl, rfl, rfl, rfl, rfl⟩ rfl rfl rfl rfl rfl (by kernel_rfl) Tryd.func9 (by kernel_rfl)
    (of_decide_eq_true (by kernel_rfl)) (by unfold Func.isWrapper; first | (rw [if_pos (by decide +kernel)]; kernel_rfl) | (rw [if_neg (by decide +kernel)]; exact ⟨rfl, rfl⟩))
    (fun os started H enc _ F => by rw [OpenClaim.pre_eq_preRow]; exact lifted os started H enc F)
theorem plain (f : FuncId) (fn : Func) (hf : Tryd.pinned.checked.prog.funcNamed Rows.ruleAssociatesRow.func = some f) (hfn : Tryd.pinned.checked.prog.funcs[f]? = some fn) :
    false = Tryd.pinned.checked.prog.looks [] ∧ ∀ (j : Nat) t, fn.params[j]? = some t → Tryd.pinned.checked.prog.wantsStandIn t = false := by
  obtain rfl : f = 9 := Option.some.inj ((show Tryd.prog.funcNamed Rows.ruleAssociatesRow.func = some 9 by kernel_rfl).symm.trans hf) |>.symm
  obtain rfl : fn = Tryd.f9 := (Option.some.inj (Tryd.func9.symm.trans hfn)).symm
  refine ⟨by kernel_rfl, fun j t ht => ?_⟩
  rw [Tryd.params9] at ht
  have hm : t ∈ [26, 26, 26] := by have := Array.mem_of_getElem? ht; simp at this; simp [this]
  have hall : ([26, 26, 26].all fun u => !Tryd.prog.wantsStandIn u) = true := by kernel_rfl
  exact (show Tryd.prog.wantsStandIn t = false by simpa using List.all_eq_true.1 hall t hm)
theorem proved : Rows.RuleAssociatesCardSaid :=
  Claim7.holds_tied_plain_at .later [] _ _ _ _ said (fun _ h => by cases h) (by kernel_rfl) (fun _ h => by cases h) ruleAssociates_row_tie rfl ⟨rfl, rfl⟩ (by kernel_rfl) rfl plain (by kernel_rfl)
#print axioms proved
end Go.Proofs.YtidjmbmnfnnleaaDoor.ruleAssociates
