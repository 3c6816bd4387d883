/-
  The program's way back through a line, as a function ranged over; the walk of its Identity.
-/
import Derived.RangeFuncNested
import Derived.RangeFuncBound
import Derived.RangeFuncCalls
import Derived.RangeFuncLeaves
import Derived.Shelf.Abstract
import Derived.Shelf.RegionOpen
import Derived.OwnWalkIn
import Derived.TacticsInMore
import Derived.LoopNIn
import Derived.LoopIn
import Derived.Test.YteagecjhpfijjaaDoorV30
namespace Go.Proofs.YteagecjhpfijjaaDoor
set_option linter.unusedSimpArgs false
set_option linter.unusedVariables false
open Go.RowKit Go.WideShapes Go.Shelf
attribute [local go_sem] Oper.semAt_some

/-- the members that the way back shows -/
def seqB (rs : List Rv) : Nat → Rv → List Rv
  | 0, _ => []
  | n + 1, v => v :: match prevP rs v with
    | none => []
    | some u => seqB rs n u
theorem seqB_last (rs : List Rv) : ∀ (n : Nat) (v : Rv), (seqB rs n v).getLast?.getD v = backF rs n v
  | 0, v => rfl
  | 1, v => by
    show ((v :: match prevP rs v with | none => [] | some u => seqB rs 0 u).getLast?).getD v = v
    cases prevP rs v <;> rfl
  | n + 2, v => by
    show ((v :: match prevP rs v with | none => [] | some u => seqB rs (n + 1) u).getLast?).getD v = match prevP rs v with | none => v | some u => backF rs (n + 1) u
    cases h : prevP rs v with
    | none => rfl
    | some u =>
      have ih := seqB_last rs (n + 1) u
      simp only
      rw [← ih]
      have e : seqB rs (n + 1) u = u :: match prevP rs u with | none => [] | some x => seqB rs n x := rfl
      rw [e, List.getLast?_cons_cons]
      cases hq : (u :: match prevP rs u with | none => [] | some x => seqB rs n x).getLast? with
      | none => simp at hq
      | some z => rfl
theorem BX.heap {w w' : World} {g : Nat} {cs : List Value} (h : BX w g cs) (e : w'.heap[g]? = w.heap[g]?) : BX w' g cs :=
  ⟨fun j u hu => (World.cell?_of_block (a := ⟨g, j, none⟩) e).trans (h.1 j u hu), fun i => (World.frozen?_of_block (a := ⟨g, i, none⟩) e).trans (h.2.1 i), by
    have h3 := h.2.2
    have : ∃ o, w.heap[g]? = some o := ⟨_, Array.getElem?_eq_getElem h3⟩
    obtain ⟨o, ho⟩ := this
    rw [ho] at e
    exact (Array.getElem?_eq_some_iff.1 e).1⟩
theorem MPv.heap {w w' : World} {b : Nat} {M : ByteArray × Int → Option Value} {cnt : Nat} (h : MPv w b M cnt) (e : w'.heap[b]? = w.heap[b]?) : MPv w' b M cnt := by
  obtain ⟨n, D, ⟨es, clock, hb, h1⟩, h2⟩ := h
  exact ⟨n, D, ⟨es, clock, e.trans hb, h1⟩, h2⟩
theorem grown_any {w w' : World} (hb : Below w.heap.size w w') (k : Option Nat) : w.grownBy w' k := ⟨hb.os, hb.tape, hb.output, hb.size, fun i hi _ => hb.block i hi⟩
theorem gb_12 {a w : World} {g : Nat} (h : a.grownBy w (some g)) (y0 y1 y2 y3 y4 y5 y6 y7 y8 y9 y10 y11 : Value) : a.grownBy ((((((((((((w.setCell ⟨g, 0, none⟩ y0).setCell ⟨g, 1, none⟩ y1).setCell ⟨g, 2, none⟩ y2).setCell ⟨g, 3, none⟩ y3).setCell ⟨g, 4, none⟩ y4).setCell ⟨g, 5, none⟩ y5).setCell ⟨g, 6, none⟩ y6).setCell ⟨g, 7, none⟩ y7).setCell ⟨g, 8, none⟩ y8).setCell ⟨g, 9, none⟩ y9).setCell ⟨g, 10, none⟩ y10).setCell ⟨g, 11, none⟩ y11) (some g) :=
  gb_set (gb_set (gb_set (gb_set (gb_set (gb_set (gb_set (gb_set (gb_set (gb_set (gb_set (gb_set h (.inl rfl) y0) (.inl rfl) y1) (.inl rfl) y2) (.inl rfl) y3) (.inl rfl) y4) (.inl rfl) y5) (.inl rfl) y6) (.inl rfl) y7) (.inl rfl) y8) (.inl rfl) y9) (.inl rfl) y10) (.inl rfl) y11
set_option maxRecDepth 100000 in
set_option maxHeartbeats 8000000 in
theorem back1_in (m l Bm Bn b : Nat) (h1m : 1 ≤ m) (rs : List Rv) (hd : Dp rs) (v : Rv) (hv : v ∈ rs) (J : List Rv → World → Prop) (W : World)
    (hJ : ∀ pre W W', J pre W → W.grownBy W' (some Bn) → J pre W')
    (hY : ∀ k pre (x : Rv) W1, J pre W1 → YieldAt Fence.wide k Tryd.prog l #[aggR x] W1 fun e W' => e = .returned (.bool true) ∧ J (pre ++ [x]) W' ∧ W'.heap[Bm]? = W1.heap[Bm]? ∧ W'.heap[Bn]? = W1.heap[Bn]? ∧ W'.heap[b]? = W1.heap[b]?)
    (hm : BX W Bm [.map (some b)]) (hr : BX W Bn (revV v)) (hM : MPv W b (MM_ rs) (cntM rs)) (n1 : Bm ≠ Bn) (n2 : b ≠ Bn) (h0 : J [] W) :
    CallsIn Fence.wide m Tryd.prog 48 #[.func (.yield l) #[] #[], .pointer (some ⟨Bm, 0, none⟩), .pointer (some ⟨Bn, 0, none⟩)] W fun e W' => (∃ u, e = .returned u) ∧ J (seqB rs (cntM rs) v) W' := by
  have HBm := Lib.hid hm
  have HBn := Lib.hid hr
  have HM := Lib.hid hM
  have HJ := Lib.hid hJ
  have HY := Lib.hid hY
  have H0 := Lib.hid h0
  have HV := Lib.hid hv
  have HCN : Hid (cntM rs ≤ 500) := Lib.hid (by unfold cntM; have := List.length_filter_le (fun v : Rv => v.act != 5) rs; have := hd.len; omega)
  have hcn := HCN.out
  have hlen := fun ty => hM.len Tryd.underlying73 ty
  have m0 := HBm.out.1 0 _ rfl
  obtain ⟨c0, c1, c2, c3, c4, c5, c6, c7, c8, c9, c10, c11⟩ := HBn.out.rev
  clear hm hr hM hJ hY h0 hv
  refine callsIn_of_wp Tryd.func48 rfl trivial ?_ rfl
  simp only [Tryd.ntmps48, List.size_toArray, List.length_cons, List.length_nil, Nat.reduceAdd, Nat.reduceSub, Array.replicate_succ, Array.replicate_zero, List.push_toArray, List.append_toArray, List.nil_append, List.cons_append]
  gi_wp2
  clear hlen
  gi_loopw [8] (fun s wr => ∃ (k : Nat) (pre : List Rv) (u : Rv), k ≤ cntM rs ∧ s = .int .i64 k ∧ Hid (u ∈ rs) ∧ Hid (J pre wr) ∧ Hid (BX wr Bm [.map (some b)]) ∧ Hid (BX wr Bn (revV u)) ∧ Hid (MPv wr b (MM_ rs) (cntM rs)) ∧ Hid (pre ++ seqB rs (cntM rs - k) u = seqB rs (cntM rs) v)) (fun s _ => cntM rs - (intOf s).toNat)
  case atStart => exact ⟨0, [], v, Nat.zero_le _, rfl, HV, H0, HBm, HBn, HM, Lib.hid rfl⟩
  case round =>
    clear m0 c0 c1 c2 c3 c4 c5 c6 c7 c8 c9 c10 c11 HBm HBn HM H0 HV
    obtain ⟨k, pre, u, hk, rfl, HV, H0, HBm, HBn, HM, HSQ⟩ := hrel
    have m0 := HBm.out.1 0 _ rfl
    obtain ⟨c0, c1, c2, c3, c4, c5, c6, c7, c8, c9, c10, c11⟩ := HBn.out.rev
    by_cases hlt : k < cntM rs
    · obtain ⟨fn, tmps, assign, body, hy, hR⟩ := HY.out (m - 1) pre u wr H0.out
      have HPV := Lib.hid (fun W h => mprev_any b rs u (cntM rs) W h (hd.near u HV.out) (hd.ok1 HV.out) (fun h4 => hd.ok4 HV.out h4))
      have HPM := Lib.hid (fun x (hx : prevP rs u = some x) => (prevR_mem (by rw [← hd.inv.prevP HV.out]; exact hx) : x ∈ rs))
      have HSE : Hid (seqB rs (cntM rs - k) u = u :: match prevP rs u with | none => [] | some x => seqB rs (cntM rs - (k + 1)) x) := Lib.hid (by
        have e : cntM rs - k = (cntM rs - (k + 1)) + 1 := by omega
        rw [e]
        rfl)
      unfold RetOR at HPV
      unfold aggR at hy HPV
      generalize prevP rs u = f at *
      cases f with
      | none =>
        simp only [Option.getD_none, Option.isSome_none] at HPV
        have HEN : Hid (pre ++ [u] = seqB rs (cntM rs) v) := Lib.hid (by rw [← HSQ.out, HSE.out])
        unfold rv0 at HPV
        clear HSE HSQ HPM
        gi_wp2
        refine hR.mono ?_
        rintro e W3 ⟨rfl, hj3, e1, e2, e3⟩
        have HJ3 := Lib.hid hj3
        have HB3 := Lib.hid (HBm.out.heap e1)
        have HN3 := Lib.hid (HBn.out.heap e2)
        have HM3 := Lib.hid (HM.out.heap e3)
        clear m0 c0 c1 c2 c3 c4 c5 c6 c7 c8 c9 c10 c11 hy hR hj3 e1 e2 e3
        have m0 := HB3.out.1 0 _ rfl
        obtain ⟨c0, c1, c2, c3, c4, c5, c6, c7, c8, c9, c10, c11⟩ := HN3.out.rev
        gi_wp2_with (refine ⟨trivial, ?_⟩; gi_at_call 37; refine (callsIn_wide.2 (HPV.out _ HM3.out)).mono ?_; rintro e w4 ⟨rfl, hb⟩; have HB4 := Lib.hid hb; clear hb)
        refine bodyPost_ret (results_none rfl _ _ _) rfl ?_
        exact ⟨⟨_, rfl⟩, by rw [← HEN.out]; exact HJ.out _ _ _ HJ3.out (grown_any (go3 HB4.out (by repeat (first | exact Below.refl _ _ | apply Below.drew | apply below_drewN | apply below_al))) _)⟩
      | some x =>
        simp only [Option.getD_some, Option.isSome_some] at HPV
        have HXM := Lib.hid (HPM.out x rfl)
        have HEN : Hid ((pre ++ [u]) ++ seqB rs (cntM rs - (k + 1)) x = seqB rs (cntM rs) v) := Lib.hid (by rw [← HSQ.out, HSE.out, List.append_assoc]; rfl)
        clear HSE HSQ HPM
        gi_wp2
        refine hR.mono ?_
        rintro e W3 ⟨rfl, hj3, e1, e2, e3⟩
        have HJ3 := Lib.hid hj3
        have HB3 := Lib.hid (HBm.out.heap e1)
        have HN3 := Lib.hid (HBn.out.heap e2)
        have HM3 := Lib.hid (HM.out.heap e3)
        clear m0 c0 c1 c2 c3 c4 c5 c6 c7 c8 c9 c10 c11 hy hR hj3 e1 e2 e3
        have m0 := HB3.out.1 0 _ rfl
        obtain ⟨c0, c1, c2, c3, c4, c5, c6, c7, c8, c9, c10, c11⟩ := HN3.out.rev
        gi_wp2_with (refine ⟨trivial, ?_⟩; gi_at_call 37; refine (callsIn_wide.2 (HPV.out _ HM3.out)).mono ?_; rintro e w4 ⟨rfl, hb⟩; have HB4 := Lib.hid hb; have HN4 := Lib.hid (HN3.out.below hb); clear m0 c0 c1 c2 c3 c4 c5 c6 c7 c8 c9 c10 c11; obtain ⟨c0, c1, c2, c3, c4, c5, c6, c7, c8, c9, c10, c11⟩ := HN4.out.rev; have uf := HN4.out.2.1; have ul := HN4.out.2.2; have ne1 : ¬ Bn = w4.heap.size := (by omega); have ne2 : ¬ w4.heap.size = Bn := (by omega); clear hb)
        go_roundw
        case rel => exact ⟨k + 1, pre ++ [u], x, by omega, by go_num, HXM, Lib.hid (HJ.out _ _ _ HJ3.out (gb_al (gb_12 (grown_any HB4.out _) _ _ _ _ _ _ _ _ _ _ _ _) _)), Lib.hid (HB3.out.grown (gb_al (gb_12 (grown_any HB4.out _) _ _ _ _ _ _ _ _ _ _ _ _) _) (fun e => n1 (Option.some.inj e).symm)), Lib.hid ((HN4.out.put12 rfl _ _ _ _ _ _ _ _ _ _ _ _).below (below_alloc _ _)), Lib.hid (HM3.out.grown (gb_al (gb_12 (grown_any HB4.out _) _ _ _ _ _ _ _ _ _ _ _ _) _) (fun e => n2 (Option.some.inj e))), HEN⟩
        case measure => simp [intOf]; omega
    · obtain rfl : k = cntM rs := by omega
      have HEN : Hid (pre = seqB rs (cntM rs) v) := Lib.hid (by rw [← HSQ.out, Nat.sub_self]; exact (List.append_nil _).symm)
      gi_wp2
      go_end0
      exact ⟨⟨_, rfl⟩, by rw [← HEN.out]; exact H0.out⟩
/-- what keeps all blocks but one, seen at a block -/
theorem gb_at {w w' : World} {j : Option Nat} (h : w.grownBy w' j) {k : Nat} {o : Obj} (hk : w.heap[k]? = some o) (hne : some k ≠ j) : w'.heap[k]? = some o := (h.block k (Array.getElem?_eq_some_iff.1 hk).1 hne).trans hk
/-- a loop over a function whose own state is block Bn, whose body writes block fb -/
theorem range_own {g : Operand} {p : Tmp} {assign body : Code} {Q : Exit → Act → World → Prop} {a : Act} {w : World} {n : Nat} (h1 : 1 ≤ n) {gf : Nat} {lb : Array Value} (hg : a.eval g = .func (.func gf) #[] lb)
    (eg : ∀ args w, (callFunc gf args).run Tryd.prog w = .ok (.enter gf args) w) (Bn fb : Nat) (hBn : Bn < w.heap.size) (hfb : fb < w.heap.size) (I : List Rv → World → Prop)
    (hI : ∀ pre W W' k, I pre W → W.grownBy W' k → (∀ j, k = some j → j = Bn ∨ w.heap.size ≤ j) → I pre W') (h0 : I [] w) (xs : List Rv)
    (hit : ∀ (l : Nat) (J : List Rv → World → Prop) (W : World), w.grownBy W none → (∀ pre W W', J pre W → W.grownBy W' (some Bn) → J pre W') →
      (∀ k pre (x : Rv) W1, J pre W1 → YieldAt Fence.wide k Tryd.prog l #[aggR x] W1 fun e W' => e = .returned (.bool true) ∧ J (pre ++ [x]) W' ∧ ∀ i, i < w.heap.size → i ≠ fb → W'.heap[i]? = W1.heap[i]?) → J [] W →
      CallsIn Fence.wide (n - 1) Tryd.prog gf (#[.func (.yield l) #[] #[]] ++ lb) W fun e W' => (∃ u, e = .returned u) ∧ J xs W')
    (AS : Rv → World → Act → World → Prop) (hAS : ∀ x W a₁ W1, AS x W a₁ W1 → W.grownBy W1 none)
    (hassign : ∀ (l m : Nat) (x : Rv) (W : World) (K : Act → World → Prop), (∀ a₁ W1, AS x W a₁ W1 → K a₁ W1) → assign.wpIn (Fence.wide.inRound l) m Tryd.prog (Exit.then K (fun _ _ _ => False)) { tmps := a.tmps.setIfInBounds p (aggR x), defers := [] } W)
    (hbody : ∀ (l m : Nat) (pre : List Rv) (x : Rv) (W : World) (a₁ : Act) (W1 W2 : World) (Q2 : Exit → Act → World → Prop), w.heap.size ≤ l → l < W.heap.size → w.heap.size ≤ W.heap.size → I pre W → AS x W a₁ W1 → W1.grownBy W2 (some l) → (∀ a₃ W3, W2.grownBy W3 (some fb) → I (pre ++ [x]) W3 → Q2 .normal a₃ W3) → body.wpIn (Fence.wide.inRound l) m Tryd.prog Q2 a₁ W2)
    (hdone : ∀ (D : Nat) (W : World), w.heap.size ≤ D → I xs W → W.heap[D]? = some (.deferred (some [])) → Q .normal { a with defers := { target := .collected D, args := #[] } :: a.defers } W) :
    (Code.rangeFunc g #[p] assign body).wpIn Fence.wide n Tryd.prog Q a w := by
  refine wpIn_rangeFunc ?_
  intro fn hfn
  obtain ⟨rec, hrec⟩ : ∃ rec : LoopState → Option Code → Loop, rec = fun st pe => { state := st, pending := pe, fn, tmps := a.tmps, params := #[p], assign, body, defers := w.heap.size } := ⟨_, rfl⟩
  obtain ⟨W1, hW1⟩ : ∃ W1, (w.alloc (.deferred (some []))).alloc (.loop (rec .ready none)) = W1 := ⟨_, rfl⟩
  have hg1 : w.grownBy W1 none := by rw [← hW1]; exact gb_al (gb_al (World.grownBy.refl _ _) _) _
  have hL1 : W1.heap[w.heap.size + 1]? = some (.loop (rec .ready none)) := by
    rw [← hW1]
    have := World.alloc_heap_new (w.alloc (.deferred (some []))) (.loop (rec .ready none))
    rwa [World.size_alloc] at this
  have hK1 : W1.heap[w.heap.size]? = some (.deferred (some [])) := by
    rw [← hW1]
    exact (Below.heap_alloc _ _ _ (by simp)).trans (World.alloc_heap_new w _)
  refine ⟨w.heap.size + 1, [{ target := .collected w.heap.size, args := #[] }], W1, { target := .fn (.func gf) lb, args := #[.func (.yield (w.heap.size + 1)) #[] #[]] }, W1, gf,
    #[.func (.yield (w.heap.size + 1)) #[] #[]] ++ lb, W1, ?_, ?_, fun _ _ => trivial, ?_, fun _ => h1, ?_⟩
  · rw [← hW1, hrec]; exact run_enterLoop_outer _ _ _ _ _
  · simp only [resolve, hg]
    simp [go_sem]
  · simp [invoke, go_sem, eg]
  · refine (hit (w.heap.size + 1) (fun pre W => I pre W ∧ w.heap.size ≤ W.heap.size ∧ W.heap[w.heap.size + 1]? = some (.loop (rec .ready none)) ∧ W.heap[w.heap.size]? = some (.deferred (some []))) W1 hg1 ?_ ?_ ⟨hI _ _ _ _ h0 hg1 (fun j hj => by cases hj), hg1.size, hL1, hK1⟩).mono ?_
    · rintro pre W W' ⟨hi, hs, hl, hk⟩ hgr
      exact ⟨hI _ _ _ _ hi hgr (fun j hj => by cases hj; exact .inl rfl), Nat.le_trans hs hgr.size, gb_at hgr hl (fun e => by cases e; omega), gb_at hgr hk (fun e => by cases e; omega)⟩
    · rintro k pre x W ⟨hi, hs, hl, hk⟩
      have hlt : w.heap.size + 1 < W.heap.size := (Array.getElem?_eq_some_iff.1 hl).1
      have hy := run_yield (P := Tryd.prog) (args := #[aggR x]) hl (by rw [hrec]; rfl)
      rw [hrec] at hy
      refine ⟨fn, a.tmps.setIfInBounds p (aggR x), assign, body, by simpa using hy, roundIn_of_wpIn hfn (hassign _ _ x W _ fun a₁ Wa hAa => ?_)⟩
      have hga := hAS _ _ _ _ hAa
      have hla : Wa.heap[w.heap.size + 1]? = some (.loop (rec .ready none)) := gb_at hga hl (by simp)
      have hka : Wa.heap[w.heap.size]? = some (.deferred (some [])) := gb_at hga hk (by simp)
      have hlta : w.heap.size + 1 < Wa.heap.size := (Array.getElem?_eq_some_iff.1 hla).1
      refine ⟨_, run_beginRound hla (by rw [hrec]), ?_⟩
      have hl2 : (Wa.putObj (w.heap.size + 1) (.loop { rec .ready none with state := .busy })).heap[w.heap.size + 1]? = some (.loop { rec .ready none with state := .busy }) := World.putObj_heap_same hlta
      have hg2 : Wa.grownBy (Wa.putObj (w.heap.size + 1) (.loop { rec .ready none with state := .busy })) (some (w.heap.size + 1)) := grownBy_putObj' _ _ _
      have hk2 := gb_at hg2 hka (fun e => by have := Option.some.inj e; omega)
      refine hbody _ _ pre x W a₁ Wa _ _ (by omega) hlt hs hi hAa hg2 fun a₃ W3 hg3 hi3 => ?_
      have hl3 := gb_at hg3 hl2 (fun e => by cases e; omega)
      have hk3 := gb_at hg3 hk2 (fun e => by cases e; omega)
      have hg4 : W3.grownBy (W3.putObj (w.heap.size + 1) (.loop (rec .ready none))) (some (w.heap.size + 1)) := grownBy_putObj' _ _ _
      have hr := run_endRound (P := Tryd.prog) none hl3
      rw [hrec] at hr hg4
      refine ⟨_, _, hr, rfl, ⟨hI _ _ _ _ hi3 hg4 (fun j hj => by cases hj; exact .inr (Nat.le_succ _)), Nat.le_trans hs (Nat.le_trans hga.size (Nat.le_trans hg2.size (Nat.le_trans hg3.size hg4.size))), ?_, gb_at hg4 hk3 (fun e => by have := Option.some.inj e; omega)⟩, fun i hi1 hi2 => ?_⟩
      · rw [hrec]
        exact World.putObj_heap_same (Array.getElem?_eq_some_iff.1 hl3).1
      · have ha := hga.block i (by omega) (by simp)
        have hb := hg2.block i (Nat.lt_of_lt_of_le (by omega) hga.size) (fun e => by cases e; omega)
        have hc := hg3.block i (Nat.lt_of_lt_of_le (by omega) (Nat.le_trans hga.size hg2.size)) (fun e => by cases e; exact hi2 rfl)
        have hd := hg4.block i (Nat.lt_of_lt_of_le (by omega) (Nat.le_trans hga.size (Nat.le_trans hg2.size hg3.size))) (fun e => by cases e; omega)
        exact hd.trans (hc.trans (hb.trans ha))
    · rintro e W2 ⟨⟨v, rfl⟩, hi, hs, hl, hk⟩
      have hg5 : W2.grownBy (W2.putObj (w.heap.size + 1) (.loop { rec .ready none with state := .exhausted })) (some (w.heap.size + 1)) := grownBy_putObj' _ _ _
      have hend := run_endLoop (P := Tryd.prog) hl (by rw [hrec]; simp)
      refine ⟨none, _, by rw [hend, hrec], hdone _ _ (Nat.le_refl _) (hI _ _ _ _ hi hg5 (fun j hj => by cases hj; exact .inr (Nat.le_succ _))) (gb_at hg5 hk (fun e => by have := Option.some.inj e; omega))⟩
set_option maxHeartbeats 1000000 in
theorem back_any (b : Nat) (v : Rv) (w : World) : Calls Tryd.prog 33 #[.map (some b), aggR v] w fun e w' => e = .returned (.func (.func 48) #[] #[.pointer (some ⟨w.heap.size, 0, none⟩), .pointer (some ⟨w.heap.size + 1, 0, none⟩)]) ∧ w' = (w.alloc (.cells #[.map (some b)] 73)).alloc (.cells #[.string v.path, .int .i64 v.num, .int .i64 v.chg, .int .i64 v.act, .int .i64 v.ty.1, .bool v.ty.2.1, .bool v.ty.2.2.1, .bool v.ty.2.2.2, .int .u64 v.cid.1, .int .i64 v.cid.2, .string v.frm, .int .i64 v.fnum] 40) := by
  unfold aggR
  go_enter Tryd.func33, Tryd.ntmps33
  go_wp2_with fail
  go_ret
  exact ⟨rfl, rfl⟩
set_option maxHeartbeats 8000000 in
set_option maxRecDepth 100000 in
theorem lidentity_any (A B : Option Addr) (c m d : Nat) (rs : List Rv) (p : ByteArray) (n : Int) (w : World) (h : RV w A c rs) (hd : Dp rs) (hp : p.size ≤ 1000) (hn : (Lit.int .i64 n).wf = true) :
    Calls Tryd.prog 14 #[.agg #[.slice A rs.length c, .slice B m d], .string p, .int .i64 n] w (RetOF w (idR rs p n)) := by
  have HR := Lib.hid h
  have HMB := Lib.hid (fun W h => membersOf_any A B c m d rs W h hd.len hd.inv hd.sz hd.near)
  have HQ : Hid (idR rs p n = (mapR rs (p, n)).map (fun v => nameR (firstR rs v))) := Lib.hid (by unfold idR; rw [hd.inv.mapR])
  have HOK : Hid (okF (p, n)) := Lib.hid ⟨by show p.size ≤ _; omega, hn⟩
  have HE1 : Hid ((MM_ rs (p, n)).getD (aggR rv0) = aggR ((mapR rs (p, n)).getD rv0)) := Lib.hid (by unfold MM_; cases mapR rs (p, n) <;> rfl)
  have HE2 : Hid ((MM_ rs (p, n)).isSome = (mapR rs (p, n)).isSome) := Lib.hid (by unfold MM_; cases mapR rs (p, n) <;> rfl)
  have HX : At (BB w [(w.heap.size, [.slice A rs.length c, .slice B m d]), (w.heap.size + 1, [.string ⟨#[]⟩, .int .i64 0])]) ((w.alloc (.cells #[.slice A rs.length c, .slice B m d] 28)).alloc (.cells #[.string ⟨#[]⟩, .int .i64 0] 31)) :=
    (((BB.nil w).push [.slice A rs.length c, .slice B m d] 28 rfl).push [.string ⟨#[]⟩, .int .i64 0] 31 (g := w.heap.size + 1) (by simp)).at_
  cases hm : mapR rs (p, n) with
  | none =>
    rw [hm] at HE1 HE2 HQ
    simp only [Option.getD_none, Option.isSome_none] at HE1 HE2
    have HN : Hid (idR rs p n = none) := Lib.hid HQ.out
    unfold aggR rv0 at HE1
    clear hm h hd hp hn HQ
    go_enter Tryd.func14, Tryd.ntmps14
    go_wp2_with (first
      | (go_at_call 32; refine (HMB.out _ (HR.out.below (below_two _ _ _))).mono ?_; rintro e w1 ⟨b, rfl, hmp, hbl, hb⟩; have HM := Lib.hid hmp; replace HX := HX.go2 (Below.refl _ _) hb; obtain ⟨r0, r1⟩ := (HX.out.get 1 rfl).c2; have rf := (HX.out.get 1 rfl).2.1; have rl := (HX.out.get 1 rfl).2.2; have ne1 : ¬ w.heap.size + 1 = w1.heap.size := (by omega); have ne2 : ¬ w1.heap.size = w.heap.size + 1 := (by omega); clear hmp hb)
      | (at_lookup; refine wpList_look rfl _ _ _ rfl Tryd.underlying73 (zeroRev _) b (MM_ rs) (cntM rs) rfl (HM.out.below (by repeat (first | exact Below.refl _ _ | apply Below.drew | apply below_drewN | apply below_al))) (p, n) rfl HOK.out _ false HE1.out HE2.out ?_))
    refine bodyPost_ret (v := .tuple #[.agg #[.string ⟨#[]⟩, .int .i64 0], .bool false]) (by simp [results, Tryd.results14, go_sem, r0, r1, ne1, ne2, rl]) rfl ?_
    exact ⟨by rw [HN.out]; rfl, below_al (below2 HX.out.low (by omega) _ _) _⟩
  | some v =>
    rw [hm] at HE1 HE2 HQ
    simp only [Option.getD_some, Option.isSome_some] at HE1 HE2
    have hv := (mapR_some hm).1
    have HSL : Hid ((seqB rs (cntM rs) v).getLast?.getD v = firstR rs v) := Lib.hid (by rw [seqB_last]; exact hd.inv.backF _ hv (belowA_le hv (mapR_some hm).2.1))
    have HN : Hid (idR rs p n = some ((firstR rs v).path, (firstR rs v).num)) := Lib.hid HQ.out
    have HBK := Lib.hid (fun b W => back_any b v W)
    have HVM := Lib.hid hv
    generalize firstR rs v = f at *
    have HF1 := HE1
    unfold aggR at HE1 HBK
    clear hm h hp hn HQ hv
    refine (callsIn_wide (n := 5)).1 ?_
    refine callsIn_of_wp_marks Tryd.func14 rfl trivial ?_ rfl
    simp only [Tryd.ntmps14, List.size_toArray, List.length_cons, List.length_nil, Nat.reduceAdd, Nat.reduceSub, Array.replicate_succ, Array.replicate_zero, List.push_toArray, List.append_toArray, List.nil_append, List.cons_append]
    gi_wp2_with (first
      | (refine ⟨trivial, ?_⟩; gi_at_call 32; refine (callsIn_wide.2 (HMB.out _ (HR.out.below (below_two _ _ _)))).mono ?_; rintro e w1 ⟨b, rfl, hmp, hbl, hb⟩; have hlk := (hmp.look Tryd.underlying73 (zeroRev _) HOK.out); rw [HF1.out, HE2.out] at hlk; unfold fileA aggR at hlk; simp only at hlk; have HM := Lib.hid hmp; replace HX := HX.go2 (Below.refl _ _) hb; clear hmp hb)
      | (refine ⟨trivial, ?_⟩; gi_at_call 33; refine (callsIn_wide.2 (HBK.out b _)).mono ?_; rintro e w2 ⟨rfl, rfl⟩))
    clear hlk
    simp only [World.size_alloc] at hbl
    have g1 := (HX.out.get 1 rfl).2.2
    have hbw := HM.out.lt
    have HZ := (((HX.out.push (revV v) 40 (g := w1.heap.size) rfl).push (revV v) 40 (g := w1.heap.size + 1) (by simp)).push [.map (some b)] 73 (g := w1.heap.size + 1 + 1) (by simp)).push (revV v) 40 (g := w1.heap.size + 1 + 1 + 1) (by simp)
    have HMz : MPv ((((w1.alloc (.cells #[.string v.path, .int .i64 v.num, .int .i64 v.chg, .int .i64 v.act, .int .i64 v.ty.1, .bool v.ty.2.1, .bool v.ty.2.2.1, .bool v.ty.2.2.2, .int .u64 v.cid.1, .int .i64 v.cid.2, .string v.frm, .int .i64 v.fnum] 40)).alloc (.cells #[.string v.path, .int .i64 v.num, .int .i64 v.chg, .int .i64 v.act, .int .i64 v.ty.1, .bool v.ty.2.1, .bool v.ty.2.2.1, .bool v.ty.2.2.2, .int .u64 v.cid.1, .int .i64 v.cid.2, .string v.frm, .int .i64 v.fnum] 40)).alloc (.cells #[.map (some b)] 73)).alloc (.cells #[.string v.path, .int .i64 v.num, .int .i64 v.chg, .int .i64 v.act, .int .i64 v.ty.1, .bool v.ty.2.1, .bool v.ty.2.2.1, .bool v.ty.2.2.2, .int .u64 v.cid.1, .int .i64 v.cid.2, .string v.frm, .int .i64 v.fnum] 40)) b (MM_ rs) (cntM rs) := HM.out.below (by repeat (first | exact Below.refl _ _ | apply Below.drew | apply below_drewN | apply below_al))
    have hsz : ((((w1.alloc (.cells #[.string v.path, .int .i64 v.num, .int .i64 v.chg, .int .i64 v.act, .int .i64 v.ty.1, .bool v.ty.2.1, .bool v.ty.2.2.1, .bool v.ty.2.2.2, .int .u64 v.cid.1, .int .i64 v.cid.2, .string v.frm, .int .i64 v.fnum] 40)).alloc (.cells #[.string v.path, .int .i64 v.num, .int .i64 v.chg, .int .i64 v.act, .int .i64 v.ty.1, .bool v.ty.2.1, .bool v.ty.2.2.1, .bool v.ty.2.2.2, .int .u64 v.cid.1, .int .i64 v.cid.2, .string v.frm, .int .i64 v.fnum] 40)).alloc (.cells #[.map (some b)] 73)).alloc (.cells #[.string v.path, .int .i64 v.num, .int .i64 v.chg, .int .i64 v.act, .int .i64 v.ty.1, .bool v.ty.2.1, .bool v.ty.2.2.1, .bool v.ty.2.2.2, .int .u64 v.cid.1, .int .i64 v.cid.2, .string v.frm, .int .i64 v.fnum] 40)).heap.size = w1.heap.size + 4 := by simp
    have HZ : BB w [(w.heap.size, [.slice A rs.length c, .slice B m d]), (w.heap.size + 1, [.string ⟨#[]⟩, .int .i64 0]), (w1.heap.size, revV v), (w1.heap.size + 1, revV v), (w1.heap.size + 1 + 1, [.map (some b)]), (w1.heap.size + 1 + 1 + 1, revV v)] ((((w1.alloc (.cells #[.string v.path, .int .i64 v.num, .int .i64 v.chg, .int .i64 v.act, .int .i64 v.ty.1, .bool v.ty.2.1, .bool v.ty.2.2.1, .bool v.ty.2.2.2, .int .u64 v.cid.1, .int .i64 v.cid.2, .string v.frm, .int .i64 v.fnum] 40)).alloc (.cells #[.string v.path, .int .i64 v.num, .int .i64 v.chg, .int .i64 v.act, .int .i64 v.ty.1, .bool v.ty.2.1, .bool v.ty.2.2.1, .bool v.ty.2.2.2, .int .u64 v.cid.1, .int .i64 v.cid.2, .string v.frm, .int .i64 v.fnum] 40)).alloc (.cells #[.map (some b)] 73)).alloc (.cells #[.string v.path, .int .i64 v.num, .int .i64 v.chg, .int .i64 v.act, .int .i64 v.ty.1, .bool v.ty.2.1, .bool v.ty.2.2.1, .bool v.ty.2.2.2, .int .u64 v.cid.1, .int .i64 v.cid.2, .string v.frm, .int .i64 v.fnum] 40)) := HZ
    generalize ((((w1.alloc (.cells #[.string v.path, .int .i64 v.num, .int .i64 v.chg, .int .i64 v.act, .int .i64 v.ty.1, .bool v.ty.2.1, .bool v.ty.2.2.1, .bool v.ty.2.2.2, .int .u64 v.cid.1, .int .i64 v.cid.2, .string v.frm, .int .i64 v.fnum] 40)).alloc (.cells #[.string v.path, .int .i64 v.num, .int .i64 v.chg, .int .i64 v.act, .int .i64 v.ty.1, .bool v.ty.2.1, .bool v.ty.2.2.1, .bool v.ty.2.2.2, .int .u64 v.cid.1, .int .i64 v.cid.2, .string v.frm, .int .i64 v.fnum] 40)).alloc (.cells #[.map (some b)] 73)).alloc (.cells #[.string v.path, .int .i64 v.num, .int .i64 v.chg, .int .i64 v.act, .int .i64 v.ty.1, .bool v.ty.2.1, .bool v.ty.2.2.1, .bool v.ty.2.2.2, .int .u64 v.cid.1, .int .i64 v.cid.2, .string v.frm, .int .i64 v.fnum] 40)) = Wz at *
    refine range_own (n := 5) (by omega) (gf := 48) (lb := #[.pointer (some ⟨w1.heap.size + 1 + 1, 0, none⟩), .pointer (some ⟨w1.heap.size + 1 + 1 + 1, 0, none⟩)])
      rfl (enters_of Tryd.func48 (by kernel_rfl) rfl) (w1.heap.size + 1 + 1 + 1) (w1.heap.size + 1) (by omega) (by omega)
      (fun pre W => BX W (w1.heap.size + 1) (revV (pre.getLast?.getD v)) ∧ BX W (w.heap.size + 1) [.string ⟨#[]⟩, .int .i64 0] ∧ Below w.heap.size w W)
      ?hI ⟨HZ.get 3 rfl, HZ.get 1 rfl, HZ.low⟩ (seqB rs (cntM rs) v) ?hit
      (fun x W a₁ W1 => W1 = W.alloc (.cells #[.string x.path, .int .i64 x.num, .int .i64 x.chg, .int .i64 x.act, .int .i64 x.ty.1, .bool x.ty.2.1, .bool x.ty.2.2.1, .bool x.ty.2.2.2, .int .u64 x.cid.1, .int .i64 x.cid.2, .string x.frm, .int .i64 x.fnum] 40) ∧ a₁ = { tmps := #[.agg #[.slice A rs.length c, .slice B m d], .string p, .int .i64 n, .pointer (some ⟨w.heap.size, 0, none⟩), undef, undef, .pointer (some ⟨w.heap.size + 1, 0, none⟩), .bool false, .map (some b), .pointer (some ⟨w1.heap.size, 0, none⟩), .bool true, .pointer (some ⟨w1.heap.size + 1, 0, none⟩), .pointer (some ⟨W.heap.size, 0, none⟩), .agg #[.slice A rs.length c, .slice B m d], .map (some b), .tuple #[.agg #[.string v.path, .int .i64 v.num, .int .i64 v.chg, .int .i64 v.act, .int .i64 v.ty.1, .bool v.ty.2.1, .bool v.ty.2.2.1, .bool v.ty.2.2.2, .int .u64 v.cid.1, .int .i64 v.cid.2, .string v.frm, .int .i64 v.fnum], .bool true], .map (some b), .string p, .int .i64 n, .agg #[.string p, .int .i64 n], .tuple #[.agg #[.string v.path, .int .i64 v.num, .int .i64 v.chg, .int .i64 v.act, .int .i64 v.ty.1, .bool v.ty.2.1, .bool v.ty.2.2.1, .bool v.ty.2.2.2, .int .u64 v.cid.1, .int .i64 v.cid.2, .string v.frm, .int .i64 v.fnum], .bool true], .agg #[.string v.path, .int .i64 v.num, .int .i64 v.chg, .int .i64 v.act, .int .i64 v.ty.1, .bool v.ty.2.1, .bool v.ty.2.2.1, .bool v.ty.2.2.2, .int .u64 v.cid.1, .int .i64 v.cid.2, .string v.frm, .int .i64 v.fnum], .bool true, .bool true, .bool false, undef, .agg #[.string v.path, .int .i64 v.num, .int .i64 v.chg, .int .i64 v.act, .int .i64 v.ty.1, .bool v.ty.2.1, .bool v.ty.2.2.1, .bool v.ty.2.2.2, .int .u64 v.cid.1, .int .i64 v.cid.2, .string v.frm, .int .i64 v.fnum], .map (some b), .agg #[.string v.path, .int .i64 v.num, .int .i64 v.chg, .int .i64 v.act, .int .i64 v.ty.1, .bool v.ty.2.1, .bool v.ty.2.2.1, .bool v.ty.2.2.2, .int .u64 v.cid.1, .int .i64 v.cid.2, .string v.frm, .int .i64 v.fnum], .func (.func 48) #[] #[.pointer (some ⟨w1.heap.size + 1 + 1, 0, none⟩), .pointer (some ⟨w1.heap.size + 1 + 1 + 1, 0, none⟩)], .agg #[.string x.path, .int .i64 x.num, .int .i64 x.chg, .int .i64 x.act, .int .i64 x.ty.1, .bool x.ty.2.1, .bool x.ty.2.2.1, .bool x.ty.2.2.2, .int .u64 x.cid.1, .int .i64 x.cid.2, .string x.frm, .int .i64 x.fnum], undef, undef, undef], defers := [] })
      ?hAS ?hassign ?hbody ?hdone
    case hI =>
      rintro pre W W' k ⟨i1, i2, i3⟩ hg hk
      have hs := i3.size
      exact ⟨i1.grown hg (fun e => by rcases hk _ e with h | h <;> omega), i2.grown hg (fun e => by rcases hk _ e with h | h <;> omega), i3.grown hg (by omega) (fun j hj => by rcases hk _ hj with h | h <;> omega)⟩
    case hit =>
      intro l J W hgW hJ hY hJ0
      exact back1_in 4 l (w1.heap.size + 1 + 1) (w1.heap.size + 1 + 1 + 1) b (by omega) rs hd v HVM.out J W hJ
        (fun k pre x W1 hj => by
          obtain ⟨fn, tmps, assign, body, hy, hR⟩ := hY k pre x W1 hj
          exact ⟨fn, tmps, assign, body, hy, hR.mono fun e W' ⟨h1, h2, h3⟩ => ⟨h1, h2, h3 _ (by omega) (by omega), h3 _ (by omega) (by omega), h3 _ (by omega) (by omega)⟩⟩)
        ((HZ.get 4 rfl).grown hgW (by simp)) ((HZ.get 5 rfl).grown hgW (by simp)) (HMz.grown hgW (by simp)) (by omega) (by omega) hJ0
    case hAS =>
      rintro x W a₁ W1 ⟨rfl, _⟩
      exact gb_al (World.grownBy.refl _ _) _
    case hassign =>
      intro l m x W K hK
      unfold aggR
      simp only [List.setIfInBounds_toArray, List.set_cons_zero, List.set_cons_succ]
      gi_wp2
    case hbody =>
      rintro l m pre x W a₁ W1 W2 Q2 hl1 hl2 hsW ⟨i1, i2, i3⟩ ⟨rfl, rfl⟩ hg2 hQ
      have HBN := Lib.hid ((BX.new W (revV x) 40 rfl).grown hg2 (fun e => by cases e; omega))
      have HF := Lib.hid ((i1.below (below_alloc _ (.cells #[.string x.path, .int .i64 x.num, .int .i64 x.chg, .int .i64 x.act, .int .i64 x.ty.1, .bool x.ty.2.1, .bool x.ty.2.2.1, .bool x.ty.2.2.2, .int .u64 x.cid.1, .int .i64 x.cid.2, .string x.frm, .int .i64 x.fnum] 40))).grown hg2 (fun e => by cases e; omega))
      have HR2 := Lib.hid ((i2.below (below_alloc _ (.cells #[.string x.path, .int .i64 x.num, .int .i64 x.chg, .int .i64 x.act, .int .i64 x.ty.1, .bool x.ty.2.1, .bool x.ty.2.2.1, .bool x.ty.2.2.2, .int .u64 x.cid.1, .int .i64 x.cid.2, .string x.frm, .int .i64 x.fnum] 40))).grown hg2 (fun e => by cases e; omega))
      have HB2 := Lib.hid ((below_al i3 (.cells #[.string x.path, .int .i64 x.num, .int .i64 x.chg, .int .i64 x.act, .int .i64 x.ty.1, .bool x.ty.2.1, .bool x.ty.2.2.1, .bool x.ty.2.2.2, .int .u64 x.cid.1, .int .i64 x.cid.2, .string x.frm, .int .i64 x.fnum] 40)).grown hg2 (by have := i3.size; simp; omega) (fun j hj => by cases hj; have := i3.size; omega))
      obtain ⟨x0, x1, x2, x3, x4, x5, x6, x7, x8, x9, x10, x11⟩ := HBN.out.rev
      obtain ⟨f0, f1, f2, f3, f4, f5, f6, f7, f8, f9, f10, f11⟩ := HF.out.rev
      have ff := HF.out.2.1
      have ne1 : ¬ W.heap.size = w1.heap.size + 1 := by omega
      have ne2 : ¬ w1.heap.size + 1 = W.heap.size := by omega
      clear i1 i2 hg2
      gi_wp2
      refine hQ _ _ (gb_12 (World.grownBy.refl _ _) _ _ _ _ _ _ _ _ _ _ _ _) ⟨?_, HR2.out.other12 (by omega) _ _ _ _ _ _ _ _ _ _ _ _, below12 HB2.out (by omega) _ _ _ _ _ _ _ _ _ _ _ _⟩
      rw [List.getLast?_append]
      exact HF.out.put12 rfl _ _ _ _ _ _ _ _ _ _ _ _
    case hdone =>
      rintro D W hD ⟨i1, i2, i3⟩ hK
      rw [HSL.out] at i1
      have HNM := Lib.hid (fun W => name_any f W)
      unfold aggR at HNM
      have HF := Lib.hid i1
      have HRS := Lib.hid i2
      have HBW := Lib.hid i3
      have HKD := Lib.hid hK
      obtain ⟨f0, f1, f2, f3, f4, f5, f6, f7, f8, f9, f10, f11⟩ := HF.out.rev
      clear i1 i2 i3 hK
      gi_wp2_with (refine ⟨trivial, ?_⟩; gi_at_call 34; refine (callsIn_wide.2 (HNM.out _)).mono ?_; rintro e w3 ⟨rfl, hb⟩; have HRS3 := Lib.hid (HRS.out.below hb); have HB3 := Lib.hid (go3 HBW.out hb); have HKD3 := Lib.hid ((hb.block D (Array.getElem?_eq_some_iff.1 HKD.out).1).trans HKD.out); clear hb; have r0 := HRS3.out.1 0 _ rfl; have r1 := HRS3.out.1 1 _ rfl; have rf := HRS3.out.2.1)
      have hWD := HBW.out.size
      have hne : w.heap.size + 1 ≠ D := by omega
      have hBF := Lib.hid ((HRS3.out.set (j := 0) (by simp) (.string f.path)).set (j := 1) (by simp) (.int .i64 f.num))
      have hKF : ((w3.setCell ⟨w.heap.size + 1, 0, none⟩ (.string f.path)).setCell ⟨w.heap.size + 1, 1, none⟩ (.int .i64 f.num)).heap[D]? = some (.deferred (some [])) :=
        (Below.heap_setCell _ _ _ D (by simp only; omega)).trans ((Below.heap_setCell _ _ _ D (by simp only; omega)).trans HKD3.out)
      have HBF := Lib.hid (below2 HB3.out (g := w.heap.size + 1) (by omega) (.string f.path) (.int .i64 f.num))
      generalize (w3.setCell ⟨w.heap.size + 1, 0, none⟩ (.string f.path)).setCell ⟨w.heap.size + 1, 1, none⟩ (.int .i64 f.num) = Wf at *
      have hBP : BX (Wf.putObj D (.deferred none)) (w.heap.size + 1) [.string f.path, .int .i64 f.num] := hBF.out.heap (World.putObj_heap_other hne)
      have q0 := hBP.1 0 _ rfl
      have q1 := hBP.1 1 _ rfl
      refine ⟨by simp, .inl ⟨_, _, rfl, run_takeDeferred hKF, ?_⟩⟩
      refine ⟨.tuple #[.agg #[.string f.path, .int .i64 f.num], .bool true], by simp [results, Tryd.results14, go_sem, q0, q1], ?_⟩
      exact ⟨by rw [HN.out]; rfl, HBF.out.grown (grownBy_putObj' _ _ _) HBF.out.size (fun j hj => by cases hj; omega)⟩
end Go.Proofs.YteagecjhpfijjaaDoor

