/-
  The walk of the merger's differ.
-/
import Derived.Test.YtfhkmmicdbblnaaDoorM10
namespace Go.Proofs.YtfhkmmicdbblnaaDoor
set_option linter.unusedSimpArgs false
set_option linter.unusedVariables false
open Go.RowKit

set_option maxHeartbeats 4000000 in
set_option maxRecDepth 100000 in
theorem differ_any (W : World) (TA : Option Addr) (tc : Nat) (O A B : List ByteArray) (f1 f2 f3 t1 t2 t3 : Nat) (v : Value) (ps : List (Pc ByteArray)) (w : World) (hm : MB w W.heap.size (.slice TA 3 tc) [f1, f2, f3] v) (hp : PS w (W.heap.size + 1) v ps) (hb : Below W.heap.size W w) (ht : RF W TA tc 1 ([O, A, B].map lnF))
    (a1 : f1 ≤ t1) (a2 : f2 ≤ t2) (a3 : f3 ≤ t3) (b1 : t1 ≤ O.length) (b2 : t2 ≤ A.length) (b3 : t3 ≤ B.length) (n1 : O.length ≤ 1000) (n2 : A.length ≤ 1000) (n3 : B.length ≤ 1000) (hl : ps.length ≤ 100000) :
    Calls Tryd.prog 37 #[.pointer (some ⟨W.heap.size, 0, none⟩), .agg #[.int .i64 (t1 : Int), .int .i64 (t2 : Int), .int .i64 (t3 : Int)]] w (RetM W (.slice TA 3 tc) [t1, t2, t3] (ps ++ diffP O A B (f1, f2, f3) (t1, t2, t3))) := by
  obtain ⟨_, m0, m1, m4, mf, ml⟩ := id hm
  have y0 := m1 0 _ rfl
  have y1 := m1 1 _ rfl
  have y2 := m1 2 _ rfl
  have HQ : Hid (∀ w, (Op.equalIn 10000 72 (.agg #[.int .i64 (f1 : Int), .int .i64 (f2 : Int), .int .i64 (f3 : Int)]) (.agg #[.int .i64 (t1 : Int), .int .i64 (t2 : Int), .int .i64 (t3 : Int)])).run Tryd.prog w = .ok (decide ((f1 : Int) = t1 ∧ (f2 : Int) = t2 ∧ (f3 : Int) = t3)) w) := Lib.hid (arr_eq _ _ _ _ _ _)
  have HM := Lib.hid hm
  have HP := Lib.hid hp
  have HB := Lib.hid hb
  have HT := Lib.hid ht
  have HL := Lib.hid hl
  clear hm hp hb ht m1 hl
  by_cases he : f1 = t1 ∧ f2 = t2 ∧ f3 = t3
  · have HE : Hid (diffP O A B (f1, f2, f3) (t1, t2, t3) = []) := Lib.hid (by
      obtain ⟨rfl, rfl, rfl⟩ := he
      unfold diffP
      rw [if_pos rfl])
    have HF : Hid ([f1, f2, f3] = [t1, t2, t3]) := Lib.hid (by obtain ⟨rfl, rfl, rfl⟩ := he; rfl)
    rw [decide_eq_true (by omega)] at HQ
    have hq := HQ.out
    clear he
    go_enter Tryd.func37, Tryd.ntmps37
    go_wp2_with fail
    go_quiet (fail)
    go_wp2_with fail
    go_end0
    refine ⟨rfl, v, ?_, ?_, ?_⟩
    · rw [← HF.out]; exact HM.out.below (by repeat (first | exact Below.refl _ _ | apply Below.drew | apply below_drewN | apply below_al))
    · rw [HE.out, List.append_nil]; exact HP.out.below (by repeat (first | exact Below.refl _ _ | apply Below.drew | apply below_drewN | apply below_al))
    · exact go3 HB.out (by repeat (first | exact Below.refl _ _ | apply Below.drew | apply below_drewN | apply below_al))
  · have HE : Hid (diffP O A B (f1, f2, f3) (t1, t2, t3) = [⟨kindOf (seg O f1 t1) (seg A f2 t2) (seg B f3 t3), seg O f1 t1, seg A f2 t2, seg B f3 t3⟩]) := Lib.hid (by
      unfold diffP
      rw [if_neg]
      intro e
      simp only [Prod.mk.injEq] at e
      exact he e)
    rw [decide_eq_false (by omega)] at HQ
    have hq := HQ.out
    have HTK := Lib.hid (fun W' hm ht => take_any W.heap.size TA tc O A B f1 f2 f3 t1 t2 t3 v W' hm ht a1 a2 a3 b1 b2 b3 n1 n2 n3)
    unfold RetK at HTK
    have HZ := Lib.hid HP.out.still
    clear he a1 a2 a3 b1 b2 b3 HP
    have hML := ml
    generalize seg O f1 t1 = l1 at *
    generalize seg A f2 t2 = l2 at *
    generalize seg B f3 t3 = l3 at *
    by_cases k1 : l3 = l1
    · have HK : Hid (kindOf l1 l2 l3 = 2) := Lib.hid (by unfold kindOf; rw [if_pos k1])
      have hd1 : decide (l3 = l1) = true := decide_eq_true k1
      clear k1
      go_enter Tryd.func37, Tryd.ntmps37
      go_wp2_with fail
      go_quiet (fail)
      go_wp2_with (first
        | (go_at_call 51; refine (HTK.out _ (HM.out.below (by repeat (first | exact Below.refl _ _ | apply Below.drew | apply below_drewN | apply below_al))) (HT.out.below (go3 HB.out (by repeat (first | exact Below.refl _ _ | apply Below.drew | apply below_drewN | apply below_al))))).mono ?_; rintro e w2 ⟨C1, c1, C2, c2, C3, c3, rfl, o1, o2, o3, d12, d13, d23, hmb, hg⟩; have hgs := hg.size; have HSZ : Hid (w.heap.size + 1 ≤ w2.heap.size) := Lib.hid (by simpa using hgs); have HD := Lib.hid (And.intro d12 (And.intro d13 d23)); have HI : At (fun w' => (RT w' C1 c1 l1 ∧ RT w' C2 c2 l2 ∧ RT w' C3 c3 l3) ∧ (OT w' w.heap.size (.slice C1 l1.length c1) l1 ∧ OT w' w.heap.size (.slice C2 l2.length c2) l2 ∧ OT w' w.heap.size (.slice C3 l3.length c3) l3) ∧ PZ w' w.heap.size (W.heap.size + 1) v ps ∧ MB w' W.heap.size (.slice TA 3 tc) [t1, t2, t3] v ∧ Below W.heap.size W w') w2 := ⟨fun X Y h hb => ⟨⟨h.1.1.below hb, h.1.2.1.below hb, h.1.2.2.below hb⟩, ⟨h.2.1.1.below hb, h.2.1.2.1.below hb, h.2.1.2.2.below hb⟩, h.2.2.1.below hb, h.2.2.2.1.below hb, go3 h.2.2.2.2 hb⟩, ⟨o1.rt.2, o2.rt.2, o3.rt.2⟩, ⟨o1.baseN (by simp), o2.baseN (by simp), o3.baseN (by simp)⟩, (HZ.out.below (by repeat (first | exact Below.refl _ _ | apply Below.drew | apply below_drewN | apply below_al))).grown hg (fun j e => by cases e; exact Nat.lt_succ_self _), hmb, below_gbM (go3 HB.out (by repeat (first | exact Below.refl _ _ | apply Below.drew | apply below_drewN | apply below_al))) hg⟩; have HLT : Hid ((∀ k, (Value.slice C1 l1.length c1).ownBlock = some k → k < w2.heap.size) ∧ (∀ k, (Value.slice C2 l2.length c2).ownBlock = some k → k < w2.heap.size) ∧ (∀ k, (Value.slice C3 l3.length c3).ownBlock = some k → k < w2.heap.size)) := Lib.hid ⟨fun k e => (World.ownsRow.lt o1 k e).2, fun k e => (World.ownsRow.lt o2 k e).2, fun k e => (World.ownsRow.lt o3 k e).2⟩; have HI2 : At (fun w' => BX w' w2.heap.size [.int .i64 0, .slice C1 l1.length c1, .slice C2 l2.length c2, .slice C3 l3.length c3] ∧ _) (w2.alloc (.cells #[.int .i64 0, .slice C1 l1.length c1, .slice C2 l2.length c2, .slice C3 l3.length c3] 81)) := (HI.go (below_alloc _ _)).add (kept_bx w2.heap.size [.int .i64 0, .slice C1 l1.length c1, .slice C2 l2.length c2, .slice C3 l3.length c3]) (BX.new w2 [.int .i64 0, .slice C1 l1.length c1, .slice C2 l2.length c2, .slice C3 l3.length c3] _ rfl); have r1 := o1.rt.2.1; have r2 := o1.rt.2.2.1; have r3 := o2.rt.2.1; have r4 := o2.rt.2.2.1; have r5 := o3.rt.2.1; have r6 := o3.rt.2.2.1; clear o1 o2 o3 d12 d13 d23 hmb hg hgs HI)
        | (go_at_call 52; refine (equal_any _ _ _ _ _ _ _ (by first | exact (HI2.go (by repeat (first | exact Below.refl _ _ | apply Below.drew | apply below_drewN | apply below_al))).out.2.1.2.2 | exact (HI2.go (by repeat (first | exact Below.refl _ _ | apply Below.drew | apply below_drewN | apply below_al))).out.2.1.2.1 | exact (HI2.go (by repeat (first | exact Below.refl _ _ | apply Below.drew | apply below_drewN | apply below_al))).out.2.1.1) (by first | exact (HI2.go (by repeat (first | exact Below.refl _ _ | apply Below.drew | apply below_drewN | apply below_al))).out.2.1.1 | exact (HI2.go (by repeat (first | exact Below.refl _ _ | apply Below.drew | apply below_drewN | apply below_al))).out.2.1.2.2)).mono ?_; rintro e w3 ⟨rfl, hb⟩; replace HI2 := HI2.go2 (by repeat (first | exact Below.refl _ _ | apply Below.drew | apply below_drewN | apply below_al)) hb; have p0 := HI2.out.1.1 0 _ rfl; have p1 := HI2.out.1.1 1 _ rfl; have p2 := HI2.out.1.1 2 _ rfl; have p3 := HI2.out.1.1 3 _ rfl; have pf := HI2.out.1.2.1; clear hb))
      obtain ⟨wE, hwE⟩ : ∃ wE : World, wE = w3.setCell ⟨w2.heap.size, 0, none⟩ (.int .i64 2) := ⟨_, rfl⟩
      have hI := HI2.out
      have hlt := HLT.out
      have hsz := HSZ.out
      have HBX : Hid (BX wE w2.heap.size [.int .i64 2, .slice C1 l1.length c1, .slice C2 l2.length c2, .slice C3 l3.length c3]) := Lib.hid (by rw [hwE]; exact hI.1.set (j := 0) (by simp) _)
      have HI3 : At (fun w' => BX w' w2.heap.size [.int .i64 2, .slice C1 l1.length c1, .slice C2 l2.length c2, .slice C3 l3.length c3] ∧ (OT w' w.heap.size (.slice C1 l1.length c1) l1 ∧ OT w' w.heap.size (.slice C2 l2.length c2) l2 ∧ OT w' w.heap.size (.slice C3 l3.length c3) l3) ∧ PZ w' w.heap.size (W.heap.size + 1) v ps ∧ MB w' W.heap.size (.slice TA 3 tc) [t1, t2, t3] v ∧ Below W.heap.size W w' ∧ w.heap.size ≤ w'.heap.size) wE := ⟨fun X Y h hb => ⟨h.1.below hb, ⟨h.2.1.1.below hb, h.2.1.2.1.below hb, h.2.1.2.2.below hb⟩, h.2.2.1.below hb, h.2.2.2.1.below hb, go3 h.2.2.2.2.1 hb, Nat.le_trans h.2.2.2.2.2 hb.size⟩, HBX.out, by
        rw [hwE]
        exact ⟨⟨hI.2.2.1.1.otherN (fun e => by have := hlt.1 _ e; simp only at this; omega) _, hI.2.2.1.2.1.otherN (fun e => by have := hlt.2.1 _ e; simp only at this; omega) _, hI.2.2.1.2.2.otherN (fun e => by have := hlt.2.2 _ e; simp only at this; omega) _⟩, hI.2.2.2.1.set (p := ⟨w2.heap.size, 0, none⟩) (by simp only; omega) (by omega) _, hI.2.2.2.2.1.other (p := ⟨w2.heap.size, 0, none⟩) (by simp only; omega) _, hI.2.2.2.2.2.setCell (p := ⟨w2.heap.size, 0, none⟩) (by simp only; omega) _, by have := hI.1.2.2; simp only [World.setCell, Array.size_modify]; omega⟩⟩
      rw [← hwE]
      have p0' := HBX.out.1 0 _ rfl
      have p1' := HBX.out.1 1 _ rfl
      have p2' := HBX.out.1 2 _ rfl
      have p3' := HBX.out.1 3 _ rfl
      have q4 := HI3.out.2.2.2.1.2.2.2.1
      have qf := HI3.out.2.2.2.1.2.2.2.2.1
      have hWE : W.heap.size < wE.heap.size := HI3.out.2.2.2.1.2.2.2.2.2
      have hPE : w2.heap.size < wE.heap.size := HBX.out.2.2
      clear hI hlt hsz hwE HI2 p0 p1 p2 p3 pf HBX y0 y1 y2 m0 m4 mf
      go_region_law (refine step_append_chunk rfl _ _ rfl w.heap.size (W.heap.size + 1) v ps ⟨2, l1, l2, l3⟩ (.slice C1 l1.length c1) (.slice C2 l2.length c2) (.slice C3 l3.length c3) _ 1 rfl rfl (HI3.go (by repeat (first | exact Below.refl _ _ | apply Below.drew | apply below_drewN | apply below_al))).out.2.2.1 (HI3.go (by repeat (first | exact Below.refl _ _ | apply Below.drew | apply below_drewN | apply below_al))).out.2.1.1 (HI3.go (by repeat (first | exact Below.refl _ _ | apply Below.drew | apply below_drewN | apply below_al))).out.2.1.2.1 (HI3.go (by repeat (first | exact Below.refl _ _ | apply Below.drew | apply below_drewN | apply below_al))).out.2.1.2.2 HD.out.1 HD.out.2.1 HD.out.2.2 (by omega) (HI3.go (by repeat (first | exact Below.refl _ _ | apply Below.drew | apply below_drewN | apply below_al))).out.2.2.2.2.2 (cells_new _ [_, _, _, _] _ rfl) rfl rfl rfl (by have := HL.out; omega) ?_; intro v7 w7 hps hg hown; obtain ⟨A7, n7, c7, hv7⟩ := hps.shape; subst hv7; have HPS := Lib.hid hps; have HMB := Lib.hid ((HI3.go (by repeat (first | exact Below.refl _ _ | apply Below.drew | apply below_drewN | apply below_al))).out.2.2.2.1.grown hg (fun e => by have := hown _ e; omega)); have HB7 := Lib.hid ((HI3.go (by repeat (first | exact Below.refl _ _ | apply Below.drew | apply below_drewN | apply below_al))).out.2.2.2.2.1.grown hg (HI3.go (by repeat (first | exact Below.refl _ _ | apply Below.drew | apply below_drewN | apply below_al))).out.2.2.2.2.1.size (fun k e => by have := hown _ e; omega)); have qv := HMB.out.2.2.2.1; have qg := HMB.out.2.2.2.2.1 4; clear hps hg hown)
      all_goals
        go_wp2_with fail
        go_end0
        refine ⟨rfl, .slice A7 n7 c7, ?_, ?_, ?_⟩
        · exact (HMB.out.setv _).below (by repeat (first | exact Below.refl _ _ | apply Below.drew | apply below_drewN | apply below_al))
        · rw [HE.out, HK.out]
          exact (HPS.out.set (p := ⟨W.heap.size, 4, none⟩) (by simp) _).below (by repeat (first | exact Below.refl _ _ | apply Below.drew | apply below_drewN | apply below_al))
        · exact go3 (HB7.out.setCell (p := ⟨W.heap.size, 4, none⟩) (Nat.le_refl _) _) (by repeat (first | exact Below.refl _ _ | apply Below.drew | apply below_drewN | apply below_al))
    · by_cases k2 : l2 = l1
      · have HK : Hid (kindOf l1 l2 l3 = 3) := Lib.hid (by unfold kindOf; rw [if_neg k1, if_pos k2])
        have hd1 : decide (l3 = l1) = false := decide_eq_false k1
        have hd2 : decide (l2 = l1) = true := decide_eq_true k2
        clear k1 k2
        go_enter Tryd.func37, Tryd.ntmps37
        go_wp2_with fail
        go_quiet (fail)
        go_wp2_with (first
          | (go_at_call 51; refine (HTK.out _ (HM.out.below (by repeat (first | exact Below.refl _ _ | apply Below.drew | apply below_drewN | apply below_al))) (HT.out.below (go3 HB.out (by repeat (first | exact Below.refl _ _ | apply Below.drew | apply below_drewN | apply below_al))))).mono ?_; rintro e w2 ⟨C1, c1, C2, c2, C3, c3, rfl, o1, o2, o3, d12, d13, d23, hmb, hg⟩; have hgs := hg.size; have HSZ : Hid (w.heap.size + 1 ≤ w2.heap.size) := Lib.hid (by simpa using hgs); have HD := Lib.hid (And.intro d12 (And.intro d13 d23)); have HI : At (fun w' => (RT w' C1 c1 l1 ∧ RT w' C2 c2 l2 ∧ RT w' C3 c3 l3) ∧ (OT w' w.heap.size (.slice C1 l1.length c1) l1 ∧ OT w' w.heap.size (.slice C2 l2.length c2) l2 ∧ OT w' w.heap.size (.slice C3 l3.length c3) l3) ∧ PZ w' w.heap.size (W.heap.size + 1) v ps ∧ MB w' W.heap.size (.slice TA 3 tc) [t1, t2, t3] v ∧ Below W.heap.size W w') w2 := ⟨fun X Y h hb => ⟨⟨h.1.1.below hb, h.1.2.1.below hb, h.1.2.2.below hb⟩, ⟨h.2.1.1.below hb, h.2.1.2.1.below hb, h.2.1.2.2.below hb⟩, h.2.2.1.below hb, h.2.2.2.1.below hb, go3 h.2.2.2.2 hb⟩, ⟨o1.rt.2, o2.rt.2, o3.rt.2⟩, ⟨o1.baseN (by simp), o2.baseN (by simp), o3.baseN (by simp)⟩, (HZ.out.below (by repeat (first | exact Below.refl _ _ | apply Below.drew | apply below_drewN | apply below_al))).grown hg (fun j e => by cases e; exact Nat.lt_succ_self _), hmb, below_gbM (go3 HB.out (by repeat (first | exact Below.refl _ _ | apply Below.drew | apply below_drewN | apply below_al))) hg⟩; have HLT : Hid ((∀ k, (Value.slice C1 l1.length c1).ownBlock = some k → k < w2.heap.size) ∧ (∀ k, (Value.slice C2 l2.length c2).ownBlock = some k → k < w2.heap.size) ∧ (∀ k, (Value.slice C3 l3.length c3).ownBlock = some k → k < w2.heap.size)) := Lib.hid ⟨fun k e => (World.ownsRow.lt o1 k e).2, fun k e => (World.ownsRow.lt o2 k e).2, fun k e => (World.ownsRow.lt o3 k e).2⟩; have HI2 : At (fun w' => BX w' w2.heap.size [.int .i64 0, .slice C1 l1.length c1, .slice C2 l2.length c2, .slice C3 l3.length c3] ∧ _) (w2.alloc (.cells #[.int .i64 0, .slice C1 l1.length c1, .slice C2 l2.length c2, .slice C3 l3.length c3] 81)) := (HI.go (below_alloc _ _)).add (kept_bx w2.heap.size [.int .i64 0, .slice C1 l1.length c1, .slice C2 l2.length c2, .slice C3 l3.length c3]) (BX.new w2 [.int .i64 0, .slice C1 l1.length c1, .slice C2 l2.length c2, .slice C3 l3.length c3] _ rfl); have r1 := o1.rt.2.1; have r2 := o1.rt.2.2.1; have r3 := o2.rt.2.1; have r4 := o2.rt.2.2.1; have r5 := o3.rt.2.1; have r6 := o3.rt.2.2.1; clear o1 o2 o3 d12 d13 d23 hmb hg hgs HI)
          | (go_at_call 52; refine (equal_any _ _ _ _ _ _ _ (by first | exact (HI2.go (by repeat (first | exact Below.refl _ _ | apply Below.drew | apply below_drewN | apply below_al))).out.2.1.2.2 | exact (HI2.go (by repeat (first | exact Below.refl _ _ | apply Below.drew | apply below_drewN | apply below_al))).out.2.1.2.1 | exact (HI2.go (by repeat (first | exact Below.refl _ _ | apply Below.drew | apply below_drewN | apply below_al))).out.2.1.1) (by first | exact (HI2.go (by repeat (first | exact Below.refl _ _ | apply Below.drew | apply below_drewN | apply below_al))).out.2.1.1 | exact (HI2.go (by repeat (first | exact Below.refl _ _ | apply Below.drew | apply below_drewN | apply below_al))).out.2.1.2.2)).mono ?_; rintro e w3 ⟨rfl, hb⟩; replace HI2 := HI2.go2 (by repeat (first | exact Below.refl _ _ | apply Below.drew | apply below_drewN | apply below_al)) hb; have p0 := HI2.out.1.1 0 _ rfl; have p1 := HI2.out.1.1 1 _ rfl; have p2 := HI2.out.1.1 2 _ rfl; have p3 := HI2.out.1.1 3 _ rfl; have pf := HI2.out.1.2.1; clear hb))
        obtain ⟨wE, hwE⟩ : ∃ wE : World, wE = w3.setCell ⟨w2.heap.size, 0, none⟩ (.int .i64 3) := ⟨_, rfl⟩
        have hI := HI2.out
        have hlt := HLT.out
        have hsz := HSZ.out
        have HBX : Hid (BX wE w2.heap.size [.int .i64 3, .slice C1 l1.length c1, .slice C2 l2.length c2, .slice C3 l3.length c3]) := Lib.hid (by rw [hwE]; exact hI.1.set (j := 0) (by simp) _)
        have HI3 : At (fun w' => BX w' w2.heap.size [.int .i64 3, .slice C1 l1.length c1, .slice C2 l2.length c2, .slice C3 l3.length c3] ∧ (OT w' w.heap.size (.slice C1 l1.length c1) l1 ∧ OT w' w.heap.size (.slice C2 l2.length c2) l2 ∧ OT w' w.heap.size (.slice C3 l3.length c3) l3) ∧ PZ w' w.heap.size (W.heap.size + 1) v ps ∧ MB w' W.heap.size (.slice TA 3 tc) [t1, t2, t3] v ∧ Below W.heap.size W w' ∧ w.heap.size ≤ w'.heap.size) wE := ⟨fun X Y h hb => ⟨h.1.below hb, ⟨h.2.1.1.below hb, h.2.1.2.1.below hb, h.2.1.2.2.below hb⟩, h.2.2.1.below hb, h.2.2.2.1.below hb, go3 h.2.2.2.2.1 hb, Nat.le_trans h.2.2.2.2.2 hb.size⟩, HBX.out, by
          rw [hwE]
          exact ⟨⟨hI.2.2.1.1.otherN (fun e => by have := hlt.1 _ e; simp only at this; omega) _, hI.2.2.1.2.1.otherN (fun e => by have := hlt.2.1 _ e; simp only at this; omega) _, hI.2.2.1.2.2.otherN (fun e => by have := hlt.2.2 _ e; simp only at this; omega) _⟩, hI.2.2.2.1.set (p := ⟨w2.heap.size, 0, none⟩) (by simp only; omega) (by omega) _, hI.2.2.2.2.1.other (p := ⟨w2.heap.size, 0, none⟩) (by simp only; omega) _, hI.2.2.2.2.2.setCell (p := ⟨w2.heap.size, 0, none⟩) (by simp only; omega) _, by have := hI.1.2.2; simp only [World.setCell, Array.size_modify]; omega⟩⟩
        rw [← hwE]
        have p0' := HBX.out.1 0 _ rfl
        have p1' := HBX.out.1 1 _ rfl
        have p2' := HBX.out.1 2 _ rfl
        have p3' := HBX.out.1 3 _ rfl
        have q4 := HI3.out.2.2.2.1.2.2.2.1
        have qf := HI3.out.2.2.2.1.2.2.2.2.1
        have hWE : W.heap.size < wE.heap.size := HI3.out.2.2.2.1.2.2.2.2.2
        have hPE : w2.heap.size < wE.heap.size := HBX.out.2.2
        clear hI hlt hsz hwE HI2 p0 p1 p2 p3 pf HBX y0 y1 y2 m0 m4 mf
        go_region_law (refine step_append_chunk rfl _ _ rfl w.heap.size (W.heap.size + 1) v ps ⟨3, l1, l2, l3⟩ (.slice C1 l1.length c1) (.slice C2 l2.length c2) (.slice C3 l3.length c3) _ 1 rfl rfl (HI3.go (by repeat (first | exact Below.refl _ _ | apply Below.drew | apply below_drewN | apply below_al))).out.2.2.1 (HI3.go (by repeat (first | exact Below.refl _ _ | apply Below.drew | apply below_drewN | apply below_al))).out.2.1.1 (HI3.go (by repeat (first | exact Below.refl _ _ | apply Below.drew | apply below_drewN | apply below_al))).out.2.1.2.1 (HI3.go (by repeat (first | exact Below.refl _ _ | apply Below.drew | apply below_drewN | apply below_al))).out.2.1.2.2 HD.out.1 HD.out.2.1 HD.out.2.2 (by omega) (HI3.go (by repeat (first | exact Below.refl _ _ | apply Below.drew | apply below_drewN | apply below_al))).out.2.2.2.2.2 (cells_new _ [_, _, _, _] _ rfl) rfl rfl rfl (by have := HL.out; omega) ?_; intro v7 w7 hps hg hown; obtain ⟨A7, n7, c7, hv7⟩ := hps.shape; subst hv7; have HPS := Lib.hid hps; have HMB := Lib.hid ((HI3.go (by repeat (first | exact Below.refl _ _ | apply Below.drew | apply below_drewN | apply below_al))).out.2.2.2.1.grown hg (fun e => by have := hown _ e; omega)); have HB7 := Lib.hid ((HI3.go (by repeat (first | exact Below.refl _ _ | apply Below.drew | apply below_drewN | apply below_al))).out.2.2.2.2.1.grown hg (HI3.go (by repeat (first | exact Below.refl _ _ | apply Below.drew | apply below_drewN | apply below_al))).out.2.2.2.2.1.size (fun k e => by have := hown _ e; omega)); have qv := HMB.out.2.2.2.1; have qg := HMB.out.2.2.2.2.1 4; clear hps hg hown)
        all_goals
          go_wp2_with fail
          go_end0
          refine ⟨rfl, .slice A7 n7 c7, ?_, ?_, ?_⟩
          · exact (HMB.out.setv _).below (by repeat (first | exact Below.refl _ _ | apply Below.drew | apply below_drewN | apply below_al))
          · rw [HE.out, HK.out]
            exact (HPS.out.set (p := ⟨W.heap.size, 4, none⟩) (by simp) _).below (by repeat (first | exact Below.refl _ _ | apply Below.drew | apply below_drewN | apply below_al))
          · exact go3 (HB7.out.setCell (p := ⟨W.heap.size, 4, none⟩) (Nat.le_refl _) _) (by repeat (first | exact Below.refl _ _ | apply Below.drew | apply below_drewN | apply below_al))
      · by_cases k3 : l2 = l3
        · have HK : Hid (kindOf l1 l2 l3 = 4) := Lib.hid (by unfold kindOf; rw [if_neg k1, if_neg k2, if_pos k3])
          have hd1 : decide (l3 = l1) = false := decide_eq_false k1
          have hd2 : decide (l2 = l1) = false := decide_eq_false k2
          have hd3 : decide (l2 = l3) = true := decide_eq_true k3
          clear k1 k2 k3
          go_enter Tryd.func37, Tryd.ntmps37
          go_wp2_with fail
          go_quiet (fail)
          go_wp2_with (first
            | (go_at_call 51; refine (HTK.out _ (HM.out.below (by repeat (first | exact Below.refl _ _ | apply Below.drew | apply below_drewN | apply below_al))) (HT.out.below (go3 HB.out (by repeat (first | exact Below.refl _ _ | apply Below.drew | apply below_drewN | apply below_al))))).mono ?_; rintro e w2 ⟨C1, c1, C2, c2, C3, c3, rfl, o1, o2, o3, d12, d13, d23, hmb, hg⟩; have hgs := hg.size; have HSZ : Hid (w.heap.size + 1 ≤ w2.heap.size) := Lib.hid (by simpa using hgs); have HD := Lib.hid (And.intro d12 (And.intro d13 d23)); have HI : At (fun w' => (RT w' C1 c1 l1 ∧ RT w' C2 c2 l2 ∧ RT w' C3 c3 l3) ∧ (OT w' w.heap.size (.slice C1 l1.length c1) l1 ∧ OT w' w.heap.size (.slice C2 l2.length c2) l2 ∧ OT w' w.heap.size (.slice C3 l3.length c3) l3) ∧ PZ w' w.heap.size (W.heap.size + 1) v ps ∧ MB w' W.heap.size (.slice TA 3 tc) [t1, t2, t3] v ∧ Below W.heap.size W w') w2 := ⟨fun X Y h hb => ⟨⟨h.1.1.below hb, h.1.2.1.below hb, h.1.2.2.below hb⟩, ⟨h.2.1.1.below hb, h.2.1.2.1.below hb, h.2.1.2.2.below hb⟩, h.2.2.1.below hb, h.2.2.2.1.below hb, go3 h.2.2.2.2 hb⟩, ⟨o1.rt.2, o2.rt.2, o3.rt.2⟩, ⟨o1.baseN (by simp), o2.baseN (by simp), o3.baseN (by simp)⟩, (HZ.out.below (by repeat (first | exact Below.refl _ _ | apply Below.drew | apply below_drewN | apply below_al))).grown hg (fun j e => by cases e; exact Nat.lt_succ_self _), hmb, below_gbM (go3 HB.out (by repeat (first | exact Below.refl _ _ | apply Below.drew | apply below_drewN | apply below_al))) hg⟩; have HLT : Hid ((∀ k, (Value.slice C1 l1.length c1).ownBlock = some k → k < w2.heap.size) ∧ (∀ k, (Value.slice C2 l2.length c2).ownBlock = some k → k < w2.heap.size) ∧ (∀ k, (Value.slice C3 l3.length c3).ownBlock = some k → k < w2.heap.size)) := Lib.hid ⟨fun k e => (World.ownsRow.lt o1 k e).2, fun k e => (World.ownsRow.lt o2 k e).2, fun k e => (World.ownsRow.lt o3 k e).2⟩; have HI2 : At (fun w' => BX w' w2.heap.size [.int .i64 0, .slice C1 l1.length c1, .slice C2 l2.length c2, .slice C3 l3.length c3] ∧ _) (w2.alloc (.cells #[.int .i64 0, .slice C1 l1.length c1, .slice C2 l2.length c2, .slice C3 l3.length c3] 81)) := (HI.go (below_alloc _ _)).add (kept_bx w2.heap.size [.int .i64 0, .slice C1 l1.length c1, .slice C2 l2.length c2, .slice C3 l3.length c3]) (BX.new w2 [.int .i64 0, .slice C1 l1.length c1, .slice C2 l2.length c2, .slice C3 l3.length c3] _ rfl); have r1 := o1.rt.2.1; have r2 := o1.rt.2.2.1; have r3 := o2.rt.2.1; have r4 := o2.rt.2.2.1; have r5 := o3.rt.2.1; have r6 := o3.rt.2.2.1; clear o1 o2 o3 d12 d13 d23 hmb hg hgs HI)
            | (go_at_call 52; refine (equal_any _ _ _ _ _ _ _ (by first | exact (HI2.go (by repeat (first | exact Below.refl _ _ | apply Below.drew | apply below_drewN | apply below_al))).out.2.1.2.2 | exact (HI2.go (by repeat (first | exact Below.refl _ _ | apply Below.drew | apply below_drewN | apply below_al))).out.2.1.2.1 | exact (HI2.go (by repeat (first | exact Below.refl _ _ | apply Below.drew | apply below_drewN | apply below_al))).out.2.1.1) (by first | exact (HI2.go (by repeat (first | exact Below.refl _ _ | apply Below.drew | apply below_drewN | apply below_al))).out.2.1.1 | exact (HI2.go (by repeat (first | exact Below.refl _ _ | apply Below.drew | apply below_drewN | apply below_al))).out.2.1.2.2)).mono ?_; rintro e w3 ⟨rfl, hb⟩; replace HI2 := HI2.go2 (by repeat (first | exact Below.refl _ _ | apply Below.drew | apply below_drewN | apply below_al)) hb; have p0 := HI2.out.1.1 0 _ rfl; have p1 := HI2.out.1.1 1 _ rfl; have p2 := HI2.out.1.1 2 _ rfl; have p3 := HI2.out.1.1 3 _ rfl; have pf := HI2.out.1.2.1; clear hb))
          obtain ⟨wE, hwE⟩ : ∃ wE : World, wE = w3.setCell ⟨w2.heap.size, 0, none⟩ (.int .i64 4) := ⟨_, rfl⟩
          have hI := HI2.out
          have hlt := HLT.out
          have hsz := HSZ.out
          have HBX : Hid (BX wE w2.heap.size [.int .i64 4, .slice C1 l1.length c1, .slice C2 l2.length c2, .slice C3 l3.length c3]) := Lib.hid (by rw [hwE]; exact hI.1.set (j := 0) (by simp) _)
          have HI3 : At (fun w' => BX w' w2.heap.size [.int .i64 4, .slice C1 l1.length c1, .slice C2 l2.length c2, .slice C3 l3.length c3] ∧ (OT w' w.heap.size (.slice C1 l1.length c1) l1 ∧ OT w' w.heap.size (.slice C2 l2.length c2) l2 ∧ OT w' w.heap.size (.slice C3 l3.length c3) l3) ∧ PZ w' w.heap.size (W.heap.size + 1) v ps ∧ MB w' W.heap.size (.slice TA 3 tc) [t1, t2, t3] v ∧ Below W.heap.size W w' ∧ w.heap.size ≤ w'.heap.size) wE := ⟨fun X Y h hb => ⟨h.1.below hb, ⟨h.2.1.1.below hb, h.2.1.2.1.below hb, h.2.1.2.2.below hb⟩, h.2.2.1.below hb, h.2.2.2.1.below hb, go3 h.2.2.2.2.1 hb, Nat.le_trans h.2.2.2.2.2 hb.size⟩, HBX.out, by
            rw [hwE]
            exact ⟨⟨hI.2.2.1.1.otherN (fun e => by have := hlt.1 _ e; simp only at this; omega) _, hI.2.2.1.2.1.otherN (fun e => by have := hlt.2.1 _ e; simp only at this; omega) _, hI.2.2.1.2.2.otherN (fun e => by have := hlt.2.2 _ e; simp only at this; omega) _⟩, hI.2.2.2.1.set (p := ⟨w2.heap.size, 0, none⟩) (by simp only; omega) (by omega) _, hI.2.2.2.2.1.other (p := ⟨w2.heap.size, 0, none⟩) (by simp only; omega) _, hI.2.2.2.2.2.setCell (p := ⟨w2.heap.size, 0, none⟩) (by simp only; omega) _, by have := hI.1.2.2; simp only [World.setCell, Array.size_modify]; omega⟩⟩
          rw [← hwE]
          have p0' := HBX.out.1 0 _ rfl
          have p1' := HBX.out.1 1 _ rfl
          have p2' := HBX.out.1 2 _ rfl
          have p3' := HBX.out.1 3 _ rfl
          have q4 := HI3.out.2.2.2.1.2.2.2.1
          have qf := HI3.out.2.2.2.1.2.2.2.2.1
          have hWE : W.heap.size < wE.heap.size := HI3.out.2.2.2.1.2.2.2.2.2
          have hPE : w2.heap.size < wE.heap.size := HBX.out.2.2
          clear hI hlt hsz hwE HI2 p0 p1 p2 p3 pf HBX y0 y1 y2 m0 m4 mf
          go_region_law (refine step_append_chunk rfl _ _ rfl w.heap.size (W.heap.size + 1) v ps ⟨4, l1, l2, l3⟩ (.slice C1 l1.length c1) (.slice C2 l2.length c2) (.slice C3 l3.length c3) _ 1 rfl rfl (HI3.go (by repeat (first | exact Below.refl _ _ | apply Below.drew | apply below_drewN | apply below_al))).out.2.2.1 (HI3.go (by repeat (first | exact Below.refl _ _ | apply Below.drew | apply below_drewN | apply below_al))).out.2.1.1 (HI3.go (by repeat (first | exact Below.refl _ _ | apply Below.drew | apply below_drewN | apply below_al))).out.2.1.2.1 (HI3.go (by repeat (first | exact Below.refl _ _ | apply Below.drew | apply below_drewN | apply below_al))).out.2.1.2.2 HD.out.1 HD.out.2.1 HD.out.2.2 (by omega) (HI3.go (by repeat (first | exact Below.refl _ _ | apply Below.drew | apply below_drewN | apply below_al))).out.2.2.2.2.2 (cells_new _ [_, _, _, _] _ rfl) rfl rfl rfl (by have := HL.out; omega) ?_; intro v7 w7 hps hg hown; obtain ⟨A7, n7, c7, hv7⟩ := hps.shape; subst hv7; have HPS := Lib.hid hps; have HMB := Lib.hid ((HI3.go (by repeat (first | exact Below.refl _ _ | apply Below.drew | apply below_drewN | apply below_al))).out.2.2.2.1.grown hg (fun e => by have := hown _ e; omega)); have HB7 := Lib.hid ((HI3.go (by repeat (first | exact Below.refl _ _ | apply Below.drew | apply below_drewN | apply below_al))).out.2.2.2.2.1.grown hg (HI3.go (by repeat (first | exact Below.refl _ _ | apply Below.drew | apply below_drewN | apply below_al))).out.2.2.2.2.1.size (fun k e => by have := hown _ e; omega)); have qv := HMB.out.2.2.2.1; have qg := HMB.out.2.2.2.2.1 4; clear hps hg hown)
          all_goals
            go_wp2_with fail
            go_end0
            refine ⟨rfl, .slice A7 n7 c7, ?_, ?_, ?_⟩
            · exact (HMB.out.setv _).below (by repeat (first | exact Below.refl _ _ | apply Below.drew | apply below_drewN | apply below_al))
            · rw [HE.out, HK.out]
              exact (HPS.out.set (p := ⟨W.heap.size, 4, none⟩) (by simp) _).below (by repeat (first | exact Below.refl _ _ | apply Below.drew | apply below_drewN | apply below_al))
            · exact go3 (HB7.out.setCell (p := ⟨W.heap.size, 4, none⟩) (Nat.le_refl _) _) (by repeat (first | exact Below.refl _ _ | apply Below.drew | apply below_drewN | apply below_al))
        · have HK : Hid (kindOf l1 l2 l3 = 5) := Lib.hid (by unfold kindOf; rw [if_neg k1, if_neg k2, if_neg k3])
          have hd1 : decide (l3 = l1) = false := decide_eq_false k1
          have hd2 : decide (l2 = l1) = false := decide_eq_false k2
          have hd3 : decide (l2 = l3) = false := decide_eq_false k3
          clear k1 k2 k3
          go_enter Tryd.func37, Tryd.ntmps37
          go_wp2_with fail
          go_quiet (fail)
          go_wp2_with (first
            | (go_at_call 51; refine (HTK.out _ (HM.out.below (by repeat (first | exact Below.refl _ _ | apply Below.drew | apply below_drewN | apply below_al))) (HT.out.below (go3 HB.out (by repeat (first | exact Below.refl _ _ | apply Below.drew | apply below_drewN | apply below_al))))).mono ?_; rintro e w2 ⟨C1, c1, C2, c2, C3, c3, rfl, o1, o2, o3, d12, d13, d23, hmb, hg⟩; have hgs := hg.size; have HSZ : Hid (w.heap.size + 1 ≤ w2.heap.size) := Lib.hid (by simpa using hgs); have HD := Lib.hid (And.intro d12 (And.intro d13 d23)); have HI : At (fun w' => (RT w' C1 c1 l1 ∧ RT w' C2 c2 l2 ∧ RT w' C3 c3 l3) ∧ (OT w' w.heap.size (.slice C1 l1.length c1) l1 ∧ OT w' w.heap.size (.slice C2 l2.length c2) l2 ∧ OT w' w.heap.size (.slice C3 l3.length c3) l3) ∧ PZ w' w.heap.size (W.heap.size + 1) v ps ∧ MB w' W.heap.size (.slice TA 3 tc) [t1, t2, t3] v ∧ Below W.heap.size W w') w2 := ⟨fun X Y h hb => ⟨⟨h.1.1.below hb, h.1.2.1.below hb, h.1.2.2.below hb⟩, ⟨h.2.1.1.below hb, h.2.1.2.1.below hb, h.2.1.2.2.below hb⟩, h.2.2.1.below hb, h.2.2.2.1.below hb, go3 h.2.2.2.2 hb⟩, ⟨o1.rt.2, o2.rt.2, o3.rt.2⟩, ⟨o1.baseN (by simp), o2.baseN (by simp), o3.baseN (by simp)⟩, (HZ.out.below (by repeat (first | exact Below.refl _ _ | apply Below.drew | apply below_drewN | apply below_al))).grown hg (fun j e => by cases e; exact Nat.lt_succ_self _), hmb, below_gbM (go3 HB.out (by repeat (first | exact Below.refl _ _ | apply Below.drew | apply below_drewN | apply below_al))) hg⟩; have HLT : Hid ((∀ k, (Value.slice C1 l1.length c1).ownBlock = some k → k < w2.heap.size) ∧ (∀ k, (Value.slice C2 l2.length c2).ownBlock = some k → k < w2.heap.size) ∧ (∀ k, (Value.slice C3 l3.length c3).ownBlock = some k → k < w2.heap.size)) := Lib.hid ⟨fun k e => (World.ownsRow.lt o1 k e).2, fun k e => (World.ownsRow.lt o2 k e).2, fun k e => (World.ownsRow.lt o3 k e).2⟩; have HI2 : At (fun w' => BX w' w2.heap.size [.int .i64 0, .slice C1 l1.length c1, .slice C2 l2.length c2, .slice C3 l3.length c3] ∧ _) (w2.alloc (.cells #[.int .i64 0, .slice C1 l1.length c1, .slice C2 l2.length c2, .slice C3 l3.length c3] 81)) := (HI.go (below_alloc _ _)).add (kept_bx w2.heap.size [.int .i64 0, .slice C1 l1.length c1, .slice C2 l2.length c2, .slice C3 l3.length c3]) (BX.new w2 [.int .i64 0, .slice C1 l1.length c1, .slice C2 l2.length c2, .slice C3 l3.length c3] _ rfl); have r1 := o1.rt.2.1; have r2 := o1.rt.2.2.1; have r3 := o2.rt.2.1; have r4 := o2.rt.2.2.1; have r5 := o3.rt.2.1; have r6 := o3.rt.2.2.1; clear o1 o2 o3 d12 d13 d23 hmb hg hgs HI)
            | (go_at_call 52; refine (equal_any _ _ _ _ _ _ _ (by first | exact (HI2.go (by repeat (first | exact Below.refl _ _ | apply Below.drew | apply below_drewN | apply below_al))).out.2.1.2.2 | exact (HI2.go (by repeat (first | exact Below.refl _ _ | apply Below.drew | apply below_drewN | apply below_al))).out.2.1.2.1 | exact (HI2.go (by repeat (first | exact Below.refl _ _ | apply Below.drew | apply below_drewN | apply below_al))).out.2.1.1) (by first | exact (HI2.go (by repeat (first | exact Below.refl _ _ | apply Below.drew | apply below_drewN | apply below_al))).out.2.1.1 | exact (HI2.go (by repeat (first | exact Below.refl _ _ | apply Below.drew | apply below_drewN | apply below_al))).out.2.1.2.2)).mono ?_; rintro e w3 ⟨rfl, hb⟩; replace HI2 := HI2.go2 (by repeat (first | exact Below.refl _ _ | apply Below.drew | apply below_drewN | apply below_al)) hb; have p0 := HI2.out.1.1 0 _ rfl; have p1 := HI2.out.1.1 1 _ rfl; have p2 := HI2.out.1.1 2 _ rfl; have p3 := HI2.out.1.1 3 _ rfl; have pf := HI2.out.1.2.1; clear hb))
          obtain ⟨wE, hwE⟩ : ∃ wE : World, wE = w3.setCell ⟨w2.heap.size, 0, none⟩ (.int .i64 5) := ⟨_, rfl⟩
          have hI := HI2.out
          have hlt := HLT.out
          have hsz := HSZ.out
          have HBX : Hid (BX wE w2.heap.size [.int .i64 5, .slice C1 l1.length c1, .slice C2 l2.length c2, .slice C3 l3.length c3]) := Lib.hid (by rw [hwE]; exact hI.1.set (j := 0) (by simp) _)
          have HI3 : At (fun w' => BX w' w2.heap.size [.int .i64 5, .slice C1 l1.length c1, .slice C2 l2.length c2, .slice C3 l3.length c3] ∧ (OT w' w.heap.size (.slice C1 l1.length c1) l1 ∧ OT w' w.heap.size (.slice C2 l2.length c2) l2 ∧ OT w' w.heap.size (.slice C3 l3.length c3) l3) ∧ PZ w' w.heap.size (W.heap.size + 1) v ps ∧ MB w' W.heap.size (.slice TA 3 tc) [t1, t2, t3] v ∧ Below W.heap.size W w' ∧ w.heap.size ≤ w'.heap.size) wE := ⟨fun X Y h hb => ⟨h.1.below hb, ⟨h.2.1.1.below hb, h.2.1.2.1.below hb, h.2.1.2.2.below hb⟩, h.2.2.1.below hb, h.2.2.2.1.below hb, go3 h.2.2.2.2.1 hb, Nat.le_trans h.2.2.2.2.2 hb.size⟩, HBX.out, by
            rw [hwE]
            exact ⟨⟨hI.2.2.1.1.otherN (fun e => by have := hlt.1 _ e; simp only at this; omega) _, hI.2.2.1.2.1.otherN (fun e => by have := hlt.2.1 _ e; simp only at this; omega) _, hI.2.2.1.2.2.otherN (fun e => by have := hlt.2.2 _ e; simp only at this; omega) _⟩, hI.2.2.2.1.set (p := ⟨w2.heap.size, 0, none⟩) (by simp only; omega) (by omega) _, hI.2.2.2.2.1.other (p := ⟨w2.heap.size, 0, none⟩) (by simp only; omega) _, hI.2.2.2.2.2.setCell (p := ⟨w2.heap.size, 0, none⟩) (by simp only; omega) _, by have := hI.1.2.2; simp only [World.setCell, Array.size_modify]; omega⟩⟩
          rw [← hwE]
          have p0' := HBX.out.1 0 _ rfl
          have p1' := HBX.out.1 1 _ rfl
          have p2' := HBX.out.1 2 _ rfl
          have p3' := HBX.out.1 3 _ rfl
          have q4 := HI3.out.2.2.2.1.2.2.2.1
          have qf := HI3.out.2.2.2.1.2.2.2.2.1
          have hWE : W.heap.size < wE.heap.size := HI3.out.2.2.2.1.2.2.2.2.2
          have hPE : w2.heap.size < wE.heap.size := HBX.out.2.2
          clear hI hlt hsz hwE HI2 p0 p1 p2 p3 pf HBX y0 y1 y2 m0 m4 mf
          go_region_law (refine step_append_chunk rfl _ _ rfl w.heap.size (W.heap.size + 1) v ps ⟨5, l1, l2, l3⟩ (.slice C1 l1.length c1) (.slice C2 l2.length c2) (.slice C3 l3.length c3) _ 1 rfl rfl (HI3.go (by repeat (first | exact Below.refl _ _ | apply Below.drew | apply below_drewN | apply below_al))).out.2.2.1 (HI3.go (by repeat (first | exact Below.refl _ _ | apply Below.drew | apply below_drewN | apply below_al))).out.2.1.1 (HI3.go (by repeat (first | exact Below.refl _ _ | apply Below.drew | apply below_drewN | apply below_al))).out.2.1.2.1 (HI3.go (by repeat (first | exact Below.refl _ _ | apply Below.drew | apply below_drewN | apply below_al))).out.2.1.2.2 HD.out.1 HD.out.2.1 HD.out.2.2 (by omega) (HI3.go (by repeat (first | exact Below.refl _ _ | apply Below.drew | apply below_drewN | apply below_al))).out.2.2.2.2.2 (cells_new _ [_, _, _, _] _ rfl) rfl rfl rfl (by have := HL.out; omega) ?_; intro v7 w7 hps hg hown; obtain ⟨A7, n7, c7, hv7⟩ := hps.shape; subst hv7; have HPS := Lib.hid hps; have HMB := Lib.hid ((HI3.go (by repeat (first | exact Below.refl _ _ | apply Below.drew | apply below_drewN | apply below_al))).out.2.2.2.1.grown hg (fun e => by have := hown _ e; omega)); have HB7 := Lib.hid ((HI3.go (by repeat (first | exact Below.refl _ _ | apply Below.drew | apply below_drewN | apply below_al))).out.2.2.2.2.1.grown hg (HI3.go (by repeat (first | exact Below.refl _ _ | apply Below.drew | apply below_drewN | apply below_al))).out.2.2.2.2.1.size (fun k e => by have := hown _ e; omega)); have qv := HMB.out.2.2.2.1; have qg := HMB.out.2.2.2.2.1 4; clear hps hg hown)
          all_goals
            go_wp2_with fail
            go_end0
            refine ⟨rfl, .slice A7 n7 c7, ?_, ?_, ?_⟩
            · exact (HMB.out.setv _).below (by repeat (first | exact Below.refl _ _ | apply Below.drew | apply below_drewN | apply below_al))
            · rw [HE.out, HK.out]
              exact (HPS.out.set (p := ⟨W.heap.size, 4, none⟩) (by simp) _).below (by repeat (first | exact Below.refl _ _ | apply Below.drew | apply below_drewN | apply below_al))
            · exact go3 (HB7.out.setCell (p := ⟨W.heap.size, 4, none⟩) (Nat.le_refl _) _) (by repeat (first | exact Below.refl _ _ | apply Below.drew | apply below_drewN | apply below_al))
end Go.Proofs.YtfhkmmicdbblnaaDoor

