/-
  The walk of the reference's Append.
-/
import Derived.Test.YteagecjhpfijjaaDoorV17
import Derived.Test.YteagecjhpfijjaaDoorV19
import Derived.Test.YteagecjhpfijjaaDoorV20
import Derived.Test.YteagecjhpfijjaaDoorO1
namespace Go.Proofs.YteagecjhpfijjaaDoor
set_option linter.unusedSimpArgs false
set_option linter.unusedVariables false
open Go.RowKit Go.WideShapes

/-- what Append hands back -/
def RetAp (w : World) (rs : List Rv) (n : Int) (es : List Ed) (r : Nat) (e : Ending) (w' : World) : Prop := ∃ en : Int,
  (en ≠ 0 ∧ e = .returned (.tuple #[.agg #[.slice none 0 0, .slice none 0 0], .int .i64 en]) ∧ Below w.heap.size w w') ∨
  (en = 0 ∧ Batch rs n es ∧ ∃ (A : Option Addr) (c : Nat) (B : Option Addr) (d : Nat) (recs : List Rc), e = .returned (.tuple #[.agg #[.slice A (rs ++ es.map (madeR n)).length c, .slice B recs.length d], .int .i64 0]) ∧
    RV w' A c (rs ++ es.map (madeR n)) ∧ NilC A c ∧ RC w' B d recs ∧ NilC B d ∧ recs.length = r ∧ (∀ x ∈ recs, shortC x) ∧ (∀ a, A = some a → w.heap.size ≤ a.block) ∧ (∀ a, B = some a → w.heap.size ≤ a.block) ∧ Below w.heap.size w w')
theorem RetAp.bad {w : World} {rs : List Rv} {n : Int} {es : List Ed} {r : Nat} {en : Int} {w' : World} (h : en ≠ 0) (hb : Below w.heap.size w w') : RetAp w rs n es r (.returned (.tuple #[.agg #[.slice none 0 0, .slice none 0 0], .int .i64 en])) w' := ⟨en, .inl ⟨h, rfl, hb⟩⟩
theorem BB.grown {w w' w'' : World} {l : List (Nat × List Value)} {k : Option Nat} (h : BB w l w') (hg : w'.grownBy w'' k) (hk : ∀ j, k = some j → (∀ p ∈ l, p.1 ≠ j) ∧ w.heap.size ≤ j) : BB w l w'' :=
  ⟨fun p hp => (h.1 p hp).grown hg (fun e => (hk p.1 e).1 p hp rfl), h.2.grown hg h.2.size (fun j hj => (hk j hj).2)⟩
theorem BB.set0 {w w' : World} {a b c : Nat × List Value} {g : Nat} {u v : Value} (y : Value) (h : BB w [a, b, c, (g, [u, v])] w') (hd : ∀ p ∈ [a, b, c], p.1 ≠ g) (hB : w.heap.size ≤ g) : BB w [a, b, c, (g, [y, v])] (w'.setCell ⟨g, 0, none⟩ y) :=
  ⟨fun p hp => by
    simp only [List.mem_cons, List.not_mem_nil, or_false] at hp
    rcases hp with rfl | rfl | rfl | rfl
    · exact (h.get 0 rfl).other (p := ⟨g, 0, none⟩) (fun e => hd _ (by simp) e.symm) y
    · exact (h.get 1 rfl).other (p := ⟨g, 0, none⟩) (fun e => hd _ (by simp) e.symm) y
    · exact (h.get 2 rfl).other (p := ⟨g, 0, none⟩) (fun e => hd _ (by simp) e.symm) y
    · exact (h.get 3 rfl).set (j := 0) (by simp) y, h.2.setCell (p := ⟨g, 0, none⟩) hB y⟩
theorem BB.set1 {w w' : World} {a b c : Nat × List Value} {g : Nat} {u v : Value} (y : Value) (h : BB w [a, b, c, (g, [u, v])] w') (hd : ∀ p ∈ [a, b, c], p.1 ≠ g) (hB : w.heap.size ≤ g) : BB w [a, b, c, (g, [u, y])] (w'.setCell ⟨g, 1, none⟩ y) :=
  ⟨fun p hp => by
    simp only [List.mem_cons, List.not_mem_nil, or_false] at hp
    rcases hp with rfl | rfl | rfl | rfl
    · exact (h.get 0 rfl).other (p := ⟨g, 1, none⟩) (fun e => hd _ (by simp) e.symm) y
    · exact (h.get 1 rfl).other (p := ⟨g, 1, none⟩) (fun e => hd _ (by simp) e.symm) y
    · exact (h.get 2 rfl).other (p := ⟨g, 1, none⟩) (fun e => hd _ (by simp) e.symm) y
    · exact (h.get 3 rfl).set (j := 1) (by simp) y, h.2.setCell (p := ⟨g, 1, none⟩) hB y⟩
theorem reads9 {w' : World} {gO g1 gE : Nat} {v k0 k1 k2 k3 k4 : Value} {y : Ed} (a : w'.cell? ⟨gO, 0, none⟩ = some v) (k : w'.cell? ⟨g1, 0, none⟩ = some (k0) ∧ w'.cell? ⟨g1, 1, none⟩ = some (k1) ∧ w'.cell? ⟨g1, 2, none⟩ = some (k2) ∧ w'.cell? ⟨g1, 3, none⟩ = some (k3) ∧ w'.cell? ⟨g1, 4, none⟩ = some (k4)) (b : AtE w' gE 0 y) :
    w'.cell? ⟨gO, 0, none⟩ = some v ∧ w'.cell? ⟨g1, 0, none⟩ = some (k0) ∧ w'.cell? ⟨g1, 1, none⟩ = some (k1) ∧ w'.cell? ⟨g1, 2, none⟩ = some (k2) ∧ w'.cell? ⟨g1, 3, none⟩ = some (k3) ∧ w'.cell? ⟨g1, 4, none⟩ = some (k4) ∧ w'.cell? ⟨gE, 0, none⟩ = some (.string y.path) ∧ w'.cell? ⟨gE, 1, none⟩ = some (.int .i64 y.act) ∧ w'.cell? ⟨gE, 2, none⟩ = some (.int .i64 y.ty.1) ∧ w'.cell? ⟨gE, 3, none⟩ = some (.bool y.ty.2.1) ∧ w'.cell? ⟨gE, 4, none⟩ = some (.bool y.ty.2.2.1) ∧ w'.cell? ⟨gE, 5, none⟩ = some (.bool y.ty.2.2.2) ∧ w'.cell? ⟨gE, 6, none⟩ = some (.int .u64 y.cid.1) ∧ w'.cell? ⟨gE, 7, none⟩ = some (.int .i64 y.cid.2) ∧ w'.cell? ⟨gE, 8, none⟩ = some (.int .i64 y.base) ∧ w'.cell? ⟨gE, 9, none⟩ = some (.string y.frm) ∧ w'.cell? ⟨gE, 10, none⟩ = some (.int .i64 y.fnum) ∧ w'.cell? ⟨gE, 11, none⟩ = some (.int .i64 y.fence) := by
  obtain ⟨b0, b1, b2, b3, b4, b5, b6, b7, b8, b9, b10, b11⟩ := b
  obtain ⟨q0, q1, q2, q3, q4⟩ := k
  exact ⟨a, q0, q1, q2, q3, q4, b0, b1, b2, b3, b4, b5, b6, b7, b8, b9, b10, b11⟩
theorem ML.lt {w : World} (h : ML w) : 0 < w.heap.size := by
  obtain ⟨m, hm⟩ := h
  exact cell_lt hm
set_option maxHeartbeats 20000000 in
set_option maxRecDepth 100000 in
theorem append_any (A B : Option Addr) (c d : Nat) (rs : List Rv) (recs : List Rc) (n : Int) (S T : ByteArray) (C D : Option Addr) (ce dr : Nat) (es : List Ed) (rcs : List Rc) (w : World) (h : RV w A c rs) (hA : NilC A c) (p : RC w B d recs) (hB : NilC B d) (k : EV w C ce es) (q : RC w D dr rcs) (hD : NilC D dr) (hm : ML w) (hz : ∀ y ∈ es, y.path.size ≤ 1000)
    (hsh : ∀ r ∈ rcs, shortC r) (hsr : ∀ r ∈ recs, shortC r) (hrl : rs.length ≤ 1000) (hel : es.length ≤ 1000) (hcl : rcs.length ≤ 400) (hml : recs.length ≤ 400) (hr : ∀ u ∈ rs, nearN u.num) (hr1 : ∀ p, nearN (lastN rs p + 1)) :
    Calls Tryd.prog 23 #[.agg #[.slice A rs.length c, .slice B recs.length d], .agg #[.int .i64 n, .string S, .string T, .slice C es.length ce, .slice D rcs.length dr]] w (RetAp w rs n es (recs.length + rcs.length)) := by
  have HR := Lib.hid h
  have HE := Lib.hid k
  have HC := Lib.hid q
  have HP := Lib.hid p
  have HM := Lib.hid hm
  have HSH := Lib.hid hsh
  have HSR := Lib.hid hsr
  have HNA := Lib.hid hA
  have HNB := Lib.hid hB
  have HND := Lib.hid hD
  have HCK := Lib.hid (fun W h k q m => check_any A B c recs.length d rs n S T C D ce dr es rcs W h k q m hz hsh (by omega) (by omega) (by omega) (by omega) hr hr1)
  have HNR : Hid (Batch rs n es → ∀ y ∈ es, nearN y.base) := Lib.hid (fun b y hy => by
    have := b.base y hy
    unfold BaseOk at this
    rw [this]
    exact near_last hr _)
  unfold RetEd at HCK
  obtain ⟨i0, hi, hz0, hz1, hz2⟩ := info_parts revInfo
  obtain ⟨j0, ji, jz0, jz1, jz2⟩ := info_parts recInfo
  have HS : At (BB w [(w.heap.size, [.slice A rs.length c, .slice B recs.length d]), (w.heap.size + 1, [.int .i64 n, .string S, .string T, .slice C es.length ce, .slice D rcs.length dr]), (w.heap.size + 1 + 1, [.slice none 0 0, .slice none 0 0])]) (((w.alloc (.cells #[.slice A rs.length c, .slice B recs.length d] 28)).alloc (.cells #[.int .i64 n, .string S, .string T, .slice C es.length ce, .slice D rcs.length dr] 52)).alloc (.cells #[.slice none 0 0, .slice none 0 0] 28)) :=
    ((((BB.nil w).push [.slice A rs.length c, .slice B recs.length d] 28 rfl).push [.int .i64 n, .string S, .string T, .slice C es.length ce, .slice D rcs.length dr] 52 (g := w.heap.size + 1) (by simp)).push [.slice none 0 0, .slice none 0 0] 28 (g := w.heap.size + 1 + 1) (by simp)).at_
  clear h k q p hm hA hB hD hz hsh hsr hr hr1
  obtain ⟨d0, d1⟩ := HS.out.get 0 rfl |>.c2
  obtain ⟨k0, k1, k2, k3, k4⟩ := HS.out.get 1 rfl |>.c5
  obtain ⟨r0, r1⟩ := HS.out.get 2 rfl |>.c2
  have rf := (HS.out.get 2 rfl).2.1
  have g0l := (HS.out.get 0 rfl).2.2
  have g1l := (HS.out.get 1 rfl).2.2
  have g2l := (HS.out.get 2 rfl).2.2
  go_enter Tryd.func23, Tryd.ntmps23
  go_upto_if 14 with (go_at_call 39; refine (HCK.out _ (HR.out.below (HS.go (by repeat (first | exact Below.refl _ _ | apply Below.drew | apply below_drewN | apply below_al))).out.low) (HE.out.below (HS.go (by repeat (first | exact Below.refl _ _ | apply Below.drew | apply below_drewN | apply below_al))).out.low) (HC.out.below (HS.go (by repeat (first | exact Below.refl _ _ | apply Below.drew | apply below_drewN | apply below_al))).out.low) (HM.out.below (HS.go (by repeat (first | exact Below.refl _ _ | apply Below.drew | apply below_drewN | apply below_al))).out.low)).mono ?_; rintro e w1 ⟨en, rfl, hen, hb⟩; replace HS := HS.go2 (by repeat (first | exact Below.refl _ _ | apply Below.drew | apply below_drewN | apply below_al)) hb; have HEN := Lib.hid hen; clear hb hen)
  clear d0 d1 k0 k1 k2 k3 k4 r0 r1 rf g0l g1l g2l
  obtain ⟨d0, d1⟩ := HS.out.get 0 rfl |>.c2
  obtain ⟨k0, k1, k2, k3, k4⟩ := HS.out.get 1 rfl |>.c5
  obtain ⟨r0, r1⟩ := HS.out.get 2 rfl |>.c2
  have rf := (HS.out.get 2 rfl).2.1
  have g0l := (HS.out.get 0 rfl).2.2
  have g1l := (HS.out.get 1 rfl).2.2
  have g2l := (HS.out.get 2 rfl).2.2
  by_cases h0 : en = 0
  · have b1 : (en != 0) = false := by simpa using h0
    have HBT := Lib.hid (HEN.out h0)
    clear h0 HEN
    have HNY := Lib.hid (HNR.out HBT.out)
    go_upto_region 5 with (fail)
    have HS4 : At (BB w [(w.heap.size, [.slice A rs.length c, .slice B recs.length d]), (w.heap.size + 1, [.int .i64 n, .string S, .string T, .slice C es.length ce, .slice D rcs.length dr]), (w.heap.size + 1 + 1, [.slice none 0 0, .slice none 0 0]), (w1.heap.size, [.slice none 0 0, .slice none 0 0])]) (w1.alloc (.cells #[.slice none 0 0, .slice none 0 0] 28)) := (HS.out.push [.slice none 0 0, .slice none 0 0] 28 rfl).at_
    clear HS
    have HS := HS4
    clear HS4 d0 d1 k0 k1 k2 k3 k4 r0 r1 rf
    generalize hgO : w1.heap.size = gO at *
    have HD3 : Hid (∀ p ∈ ([(w.heap.size, [.slice A rs.length c, .slice B recs.length d]), (w.heap.size + 1, [.int .i64 n, .string S, .string T, .slice C es.length ce, .slice D rcs.length dr]), (w.heap.size + 1 + 1, [.slice none 0 0, .slice none 0 0])] : List (Nat × List Value)), p.1 ≠ gO) := Lib.hid (fun p hp => by
      simp only [List.mem_cons, List.not_mem_nil, or_false] at hp
      rcases hp with rfl | rfl | rfl <;> simp only <;> omega)
    have HD4 : Hid (∀ (j : Nat) (v : Value), gO + 1 ≤ j → ∀ p ∈ ([(w.heap.size, [.slice A rs.length c, .slice B recs.length d]), (w.heap.size + 1, [.int .i64 n, .string S, .string T, .slice C es.length ce, .slice D rcs.length dr]), (w.heap.size + 1 + 1, [.slice none 0 0, .slice none 0 0]), (gO, [v, .slice none 0 0])] : List (Nat × List Value)), p.1 ≠ j) := Lib.hid (fun j v hj p hp => by
      simp only [List.mem_cons, List.not_mem_nil, or_false] at hp
      rcases hp with rfl | rfl | rfl | rfl <;> simp only <;> omega)
    obtain ⟨d0, d1⟩ := HS.out.get 0 rfl |>.c2
    obtain ⟨k0, k1, k2, k3, k4⟩ := HS.out.get 1 rfl |>.c5
    obtain ⟨r0, r1⟩ := HS.out.get 2 rfl |>.c2
    have rf := (HS.out.get 2 rfl).2.1
    have g0l := (HS.out.get 0 rfl).2.2
    have g1l := (HS.out.get 1 rfl).2.2
    have g2l := (HS.out.get 2 rfl).2.2
    obtain ⟨o0, o1⟩ := HS.out.get 3 rfl |>.c2
    have of := (HS.out.get 3 rfl).2.1
    have gOl := (HS.out.get 3 rfl).2.2
    go_wp2_with (at_builtin; refine wpList_append_rows Tryd.underlying25 hi hz0 hz1 hz2 rfl (by decide) (by decide) rfl _ _ rfl (gO + 1) (.slice none 0 0) [] (rs.map revV) A rs.length c (by simp) rfl rfl (OR.nil _ _ _ _) (HR.out.below (HS.go (by repeat (first | exact Below.refl _ _ | apply Below.drew | apply below_drewN | apply below_al))).out.low) HNA.out (revV_len _) (revV_one _) (by simp; omega) (by simp; omega) ?_; intro v1 w2 hown hg _; obtain ⟨A1, cc1, rfl, _, _⟩ := hown.readN; have HS2 := HS.out.grown hg (fun j hj => by cases hj); obtain ⟨p0, p1⟩ := HS2.get 3 rfl |>.c2; have pf := (HS2.get 3 rfl).2.1; have HO2 := Lib.hid (hown.other (p := ⟨gO, 0, none⟩) (fun e => by have := (hown.own _ e).1; simp only at this; omega) (.slice A1 ([] ++ rs.map revV).length cc1)); have hgs := hg.size; simp [← hgO] at hgs; rw [hgO] at hgs; obtain ⟨e0, e1⟩ := HS2.get 0 rfl |>.c2; obtain ⟨l0, l1, l2, l3, l4⟩ := HS2.get 1 rfl |>.c5)
    clear d0 d1 k0 k1 k2 k3 k4 r0 r1 rf o0 o1 of e0 e1 l0 l1 l2 l3 l4 p0 p1 pf
    go_loopw [26] (fun s wr => ∃ (k : Nat) (v : Value), k ≤ es.length ∧ s = .int .i64 k ∧ Hid (OR wr (gO + 1) 40 12 v ((rs ++ (es.take k).map (madeR n)).map revV)) ∧ Hid (BB w [(w.heap.size, [.slice A rs.length c, .slice B recs.length d]), (w.heap.size + 1, [.int .i64 n, .string S, .string T, .slice C es.length ce, .slice D rcs.length dr]), (w.heap.size + 1 + 1, [.slice none 0 0, .slice none 0 0]), (gO, [v, .slice none 0 0])] wr) ∧ gO + 1 ≤ wr.heap.size) (fun s _ => es.length - (intOf s).toNat)
    case atStart => exact ⟨0, _, Nat.zero_le _, rfl, Lib.hid (by simpa using HO2.out), Lib.hid (HS2.set0 _ HD3.out (by omega)), by simp; omega⟩
    case round =>
      clear HS
      obtain ⟨k, v, hk, rfl, HO, HS0, hwr⟩ := hrel
      have HS := HS0.out.at_
      clear HS0
      obtain ⟨d0, d1⟩ := HS.out.get 0 rfl |>.c2
      obtain ⟨k0, k1, k2, k3, k4⟩ := HS.out.get 1 rfl |>.c5
      obtain ⟨r0, r1⟩ := HS.out.get 2 rfl |>.c2
      have rf := (HS.out.get 2 rfl).2.1
      have g0l := (HS.out.get 0 rfl).2.2
      have g1l := (HS.out.get 1 rfl).2.2
      have g2l := (HS.out.get 2 rfl).2.2
      obtain ⟨o0, o1⟩ := HS.out.get 3 rfl |>.c2
      have of := (HS.out.get 3 rfl).2.1
      have gOl := (HS.out.get 3 rfl).2.2
      by_cases hlt : k < es.length
      · obtain ⟨y, hy⟩ : ∃ y, es[k]? = some y := ⟨_, List.getElem?_eq_getElem hlt⟩
        have HYN := Lib.hid (HNY.out y (List.mem_of_getElem? hy))
        obtain ⟨b, o', rfl, hb1, x0, x1, x2, x3, x4, x5, x6, x7, x8, x9, x10, x11⟩ := (HE.out.below HS.out.low).at_ hy
        have HTK : Hid ((rs ++ (es.take (k + 1)).map (madeR n)).map revV = ((rs ++ (es.take k).map (madeR n)).map revV) ++ [revV (madeR n y)]) := Lib.hid (by
          rw [List.take_add_one, hy]
          simp)
        have HLL : Hid (((rs ++ (es.take k).map (madeR n)).map revV).length ≤ 5000) := Lib.hid (by
          rw [List.length_map, List.length_append, List.length_map, List.length_take]
          omega)
        have HMD := Lib.hid (fun W => made_any n S T (some ⟨b, o', none⟩) D es.length ce rcs.length dr y W HYN.out)
        unfold madeR aggR at HMD
        unfold aggE at HMD
        clear hy
        go_upto_region 9 with (fail)
        have HEB : At (fun w' => BX w' wr.heap.size (edV y)) (wr.alloc (.cells #[.string y.path, .int .i64 y.act, .int .i64 y.ty.1, .bool y.ty.2.1, .bool y.ty.2.2.1, .bool y.ty.2.2.2, .int .u64 y.cid.1, .int .i64 y.cid.2, .int .i64 y.base, .string y.frm, .int .i64 y.fnum, .int .i64 y.fence] 63)) := ⟨fun X Y h hb => h.below hb, BX.new wr (edV y) _ rfl⟩
        have HSx : (fun w' => w'.cell? ⟨gO, 0, none⟩ = some v ∧ w'.cell? ⟨w.heap.size + 1, 0, none⟩ = some (.int .i64 n) ∧ w'.cell? ⟨w.heap.size + 1, 1, none⟩ = some (.string S) ∧ w'.cell? ⟨w.heap.size + 1, 2, none⟩ = some (.string T) ∧ w'.cell? ⟨w.heap.size + 1, 3, none⟩ = some (.slice (some ⟨b, o', none⟩) es.length ce) ∧ w'.cell? ⟨w.heap.size + 1, 4, none⟩ = some (.slice D rcs.length dr) ∧ w'.cell? ⟨wr.heap.size, 0, none⟩ = some (.string y.path) ∧ w'.cell? ⟨wr.heap.size, 1, none⟩ = some (.int .i64 y.act) ∧ w'.cell? ⟨wr.heap.size, 2, none⟩ = some (.int .i64 y.ty.1) ∧ w'.cell? ⟨wr.heap.size, 3, none⟩ = some (.bool y.ty.2.1) ∧ w'.cell? ⟨wr.heap.size, 4, none⟩ = some (.bool y.ty.2.2.1) ∧ w'.cell? ⟨wr.heap.size, 5, none⟩ = some (.bool y.ty.2.2.2) ∧ w'.cell? ⟨wr.heap.size, 6, none⟩ = some (.int .u64 y.cid.1) ∧ w'.cell? ⟨wr.heap.size, 7, none⟩ = some (.int .i64 y.cid.2) ∧ w'.cell? ⟨wr.heap.size, 8, none⟩ = some (.int .i64 y.base) ∧ w'.cell? ⟨wr.heap.size, 9, none⟩ = some (.string y.frm) ∧ w'.cell? ⟨wr.heap.size, 10, none⟩ = some (.int .i64 y.fnum) ∧ w'.cell? ⟨wr.heap.size, 11, none⟩ = some (.int .i64 y.fence)) (wr.alloc (.cells #[.string y.path, .int .i64 y.act, .int .i64 y.ty.1, .bool y.ty.2.1, .bool y.ty.2.2.1, .bool y.ty.2.2.2, .int .u64 y.cid.1, .int .i64 y.cid.2, .int .i64 y.base, .string y.frm, .int .i64 y.fnum, .int .i64 y.fence] 63)).drew := reads9 (((HS.go (by repeat (first | exact Below.refl _ _ | apply Below.drew | apply below_drewN | apply below_al))).out).get 3 rfl).c2.1 (((HS.go (by repeat (first | exact Below.refl _ _ | apply Below.drew | apply below_drewN | apply below_al))).out).get 1 rfl).c5 ((HEB.go (by repeat (first | exact Below.refl _ _ | apply Below.drew | apply below_drewN | apply below_al))).out).ed
        refine wp_region_wpH (S := fun w' => w'.cell? ⟨gO, 0, none⟩ = some v ∧ w'.cell? ⟨w.heap.size + 1, 0, none⟩ = some (.int .i64 n) ∧ w'.cell? ⟨w.heap.size + 1, 1, none⟩ = some (.string S) ∧ w'.cell? ⟨w.heap.size + 1, 2, none⟩ = some (.string T) ∧ w'.cell? ⟨w.heap.size + 1, 3, none⟩ = some (.slice (some ⟨b, o', none⟩) es.length ce) ∧ w'.cell? ⟨w.heap.size + 1, 4, none⟩ = some (.slice D rcs.length dr) ∧ w'.cell? ⟨wr.heap.size, 0, none⟩ = some (.string y.path) ∧ w'.cell? ⟨wr.heap.size, 1, none⟩ = some (.int .i64 y.act) ∧ w'.cell? ⟨wr.heap.size, 2, none⟩ = some (.int .i64 y.ty.1) ∧ w'.cell? ⟨wr.heap.size, 3, none⟩ = some (.bool y.ty.2.1) ∧ w'.cell? ⟨wr.heap.size, 4, none⟩ = some (.bool y.ty.2.2.1) ∧ w'.cell? ⟨wr.heap.size, 5, none⟩ = some (.bool y.ty.2.2.2) ∧ w'.cell? ⟨wr.heap.size, 6, none⟩ = some (.int .u64 y.cid.1) ∧ w'.cell? ⟨wr.heap.size, 7, none⟩ = some (.int .i64 y.cid.2) ∧ w'.cell? ⟨wr.heap.size, 8, none⟩ = some (.int .i64 y.base) ∧ w'.cell? ⟨wr.heap.size, 9, none⟩ = some (.string y.frm) ∧ w'.cell? ⟨wr.heap.size, 10, none⟩ = some (.int .i64 y.fnum) ∧ w'.cell? ⟨wr.heap.size, 11, none⟩ = some (.int .i64 y.fence)) (c := 8) (by kernel_rfl) ?_
        refine wpH_take2 (i := 0) (v := ?_) [1, 6, 8] 30 rfl rfl (by kernel_rfl) (by kernel_rfl) (by kernel_rfl) (by kernel_rfl) (by kernel_rfl) (fun _ _ _ h => h) (Or.inl ⟨by rfl, ?y0_18⟩) HSx ?r0_18
        case y0_18 =>
          intro w' hSw
          obtain ⟨q0, q1, q2, q3, q4, q5, q6, q7, q8, q9, q10, q11, q12, q13, q14, q15, q16, q17⟩ := hSw
          go_simp
          with_reducible rfl
        try simp only [Act.put, List.setIfInBounds_toArray, List.set_cons_zero, List.set_cons_succ]
        refine wpH_take2 (i := 1) (v := ?_) [6, 8] 31 rfl rfl (by kernel_rfl) (by kernel_rfl) (by kernel_rfl) (by kernel_rfl) (by kernel_rfl) (fun _ _ _ h => h) (Or.inl ⟨by rfl, ?y1_18⟩) HSx ?r1_18
        case y1_18 =>
          intro w' hSw
          obtain ⟨q0, q1, q2, q3, q4, q5, q6, q7, q8, q9, q10, q11, q12, q13, q14, q15, q16, q17⟩ := hSw
          go_simp
          with_reducible rfl
        try simp only [Act.put, List.setIfInBounds_toArray, List.set_cons_zero, List.set_cons_succ]
        refine wpH_take2 (i := 2) (v := ?_) [4, 5, 6, 8] 32 rfl rfl (by kernel_rfl) (by kernel_rfl) (by kernel_rfl) (by kernel_rfl) (by kernel_rfl) (fun _ _ _ h => h) (Or.inl ⟨by rfl, ?y2_18⟩) HSx ?r2_18
        case y2_18 =>
          intro w' hSw
          obtain ⟨q0, q1, q2, q3, q4, q5, q6, q7, q8, q9, q10, q11, q12, q13, q14, q15, q16, q17⟩ := hSw
          go_simp
          with_reducible rfl
        try simp only [Act.put, List.setIfInBounds_toArray, List.set_cons_zero, List.set_cons_succ]
        refine wpH_take2 (i := 3) (v := ?_) [4, 5, 6, 8] 33 rfl rfl (by kernel_rfl) (by kernel_rfl) (by kernel_rfl) (by kernel_rfl) (by kernel_rfl) (fun _ _ _ h => h) (Or.inl ⟨by rfl, ?y3_18⟩) HSx ?r3_18
        case y3_18 =>
          intro w' hSw
          obtain ⟨q0, q1, q2, q3, q4, q5, q6, q7, q8, q9, q10, q11, q12, q13, q14, q15, q16, q17⟩ := hSw
          go_simp
          with_reducible rfl
        try simp only [Act.put, List.setIfInBounds_toArray, List.set_cons_zero, List.set_cons_succ]
        refine wpH_all (rs := [4]) (by kernel_rfl) (by simp) ?_
        intro z hz
        obtain rfl : z = 4 := by simpa using hz
        clear hz
        refine wpOp_step rfl (fun K hK => ?_)
        go_simp
        refine (HMD.out _).mono ?_
        rintro e wl ⟨rfl, hb⟩
        have HS1 := HS.go2 (by repeat (first | exact Below.refl _ _ | apply Below.drew | apply below_drewN | apply below_al)) hb
        have HE1 := HEB.go2 (by repeat (first | exact Below.refl _ _ | apply Below.drew | apply below_drewN | apply below_al)) hb
        have HO1 := Lib.hid (HO.out.below (go3 (by repeat (first | exact Below.refl _ _ | apply Below.drew | apply below_drewN | apply below_al)) hb))
        have hbs := hb.size
        simp at hbs
        clear hb
        refine hK _ _ ?_
        clear hK K
        rw [if_neg (by decide)]
        refine ⟨reads9 ((HS1.out).get 3 rfl).c2.1 ((HS1.out).get 1 rfl).c5 (HE1.out).ed, ?_⟩
        try simp only [Act.put, List.setIfInBounds_toArray, List.set_cons_zero, List.set_cons_succ]
        refine wpH_all (rs := [5]) (by kernel_rfl) (by simp) ?_
        intro z hz
        obtain rfl : z = 5 := by simpa using hz
        clear hz
        refine wpOp_step rfl (fun K hK => ?_)
        go_simp
        refine hK _ _ ?_
        clear hK K
        rw [if_neg (by decide)]
        refine ⟨reads9 (((HS1.go (by repeat (first | exact Below.refl _ _ | apply Below.drew | apply below_drewN | apply below_al))).out).get 3 rfl).c2.1 (((HS1.go (by repeat (first | exact Below.refl _ _ | apply Below.drew | apply below_drewN | apply below_al))).out).get 1 rfl).c5 ((HE1.go (by repeat (first | exact Below.refl _ _ | apply Below.drew | apply below_drewN | apply below_al))).out).ed, ?_⟩
        try simp only [Act.put, List.setIfInBounds_toArray, List.set_cons_zero, List.set_cons_succ]
        refine wpH_all (rs := [6]) (by kernel_rfl) (by simp) ?_
        intro z hz
        obtain rfl : z = 6 := by simpa using hz
        clear hz
        refine wpOp_step rfl (fun K hK => ?_)
        rw [if_pos (by rfl)]
        refine wp_append_row Tryd.underlying25 hi hz0 hz1 hz2 rfl (by decide) (by decide) _ _ rfl (gO + 1) v ((rs ++ (es.take k).map (madeR n)).map revV) (revV (madeR n y)) _ 1 rfl rfl (HO1.out.below (below_alloc _ _)) rfl (cells_new _ [_, _, _, _, _, _, _, _, _, _, _, _] _ (by simp)) (fun u hu => revV_one [madeR n y] _ (by simp) u hu) (by have := HLL.out; omega) (by simp; omega) ?_
        intro v1 w1 hown hg _
        obtain ⟨A1, cc1, hv1, _, _⟩ := hown.readN
        generalize (((rs ++ (es.take k).map (madeR n)).map revV) ++ [revV (madeR n y)]).length = L1 at hv1
        subst hv1
        have HS2 := (HS1.go (w' := _) (below_alloc _ _)).out.grown hg (fun j hj => by have := (HO1.out.own j hj).1; exact ⟨HD4.out j v this, by omega⟩)
        have HE2 := (HE1.go (w' := _) (below_alloc _ _)).out.grown hg (fun e => by have := (HO.out.own _ e).2; omega)
        refine hK _ _ ?_
        clear hK K
        rw [if_neg (by decide)]
        refine ⟨reads9 ((HS2).get 3 rfl).c2.1 ((HS2).get 1 rfl).c5 (HE2).ed, ?_⟩
        try simp only [Act.put, List.setIfInBounds_toArray, List.set_cons_zero, List.set_cons_succ]
        refine wpH_all (rs := [7]) (by kernel_rfl) (by simp) ?_
        intro z hz
        obtain rfl : z = 7 := by simpa using hz
        clear hz
        refine wpOp_step rfl (fun K hK => ?_)
        go_simp
        refine hK _ _ ?_
        clear hK K
        rw [if_neg (by decide)]
        refine ⟨reads9 ((HS2).get 3 rfl).c2.1 ((HS2).get 1 rfl).c5 (HE2).ed, ?_⟩
        try simp only [Act.put, List.setIfInBounds_toArray, List.set_cons_zero, List.set_cons_succ]
        obtain ⟨p0, p1⟩ := HS2.get 3 rfl |>.c2
        have pf := (HS2.get 3 rfl).2.1
        refine wpH_all (rs := [8]) (by kernel_rfl) (by simp) ?_
        intro z hz
        obtain rfl : z = 8 := by simpa using hz
        clear hz
        refine wpOp_step rfl (fun K hK => ?_)
        go_simp
        refine hK _ _ ?_
        clear hK K
        rw [if_pos rfl]
        try simp only [Act.put, List.setIfInBounds_toArray, List.set_cons_zero, List.set_cons_succ]
        refine wpAny_done (by kernel_rfl) ?_ _
        have HO2 := Lib.hid (hown.other (p := ⟨gO, 0, none⟩) (fun e => by have := (hown.own _ e).1; simp only at this; omega) (.slice A1 L1 cc1))
        go_wp2_with fail
        go_roundw
        case rel => exact ⟨k + 1, _, by omega, by go_num, Lib.hid (by rw [HTK.out]; exact HO2.out), Lib.hid (HS2.set0 _ HD3.out (by omega)), (by have := hg.size; simp at this ⊢; omega)⟩
        case measure => simp [intOf]; omega
      · obtain rfl : k = es.length := by omega
        rw [List.take_length] at HO
        obtain ⟨Av, cv, hv, hrr, hnc, hba⟩ := HO.out.readB
        generalize hLv : ((rs ++ es.map (madeR n)).map revV).length = Lv at hv
        have HLV : Hid (Lv = (rs ++ es.map (madeR n)).length) := Lib.hid (by rw [← hLv, List.length_map])
        have HRR := Lib.hid hrr
        have HNC := Lib.hid hnc
        have HBA := Lib.hid hba
        subst hv
        clear hrr hnc hba hLv
        have HDW : Hid (∀ (j : Nat), wr.heap.size ≤ j → ∀ p ∈ ([(w.heap.size, [.slice A rs.length c, .slice B recs.length d]), (w.heap.size + 1, [.int .i64 n, .string S, .string T, .slice C es.length ce, .slice D rcs.length dr]), (w.heap.size + 1 + 1, [.slice none 0 0, .slice none 0 0]), (gO, [.slice Av Lv cv, .slice none 0 0])] : List (Nat × List Value)), p.1 ≠ j) := Lib.hid (fun j hj p hp => by
          have := (HS.out.1 p hp).2.2
          omega)
        go_upto_region 11 with (fail)
        have HSx : (fun w' => w'.cell? ⟨gO, 1, none⟩ = some (.slice none 0 0) ∧ w'.cell? ⟨w.heap.size, 1, none⟩ = some (.slice B recs.length d) ∧ w'.cell? ⟨w.heap.size + 1, 4, none⟩ = some (.slice D rcs.length dr)) wr.drew := ⟨(((HS.go (w' := wr.drew) (by repeat (first | exact Below.refl _ _ | apply Below.drew | apply below_drewN | apply below_al))).out).get 3 rfl).c2.2, (((HS.go (w' := wr.drew) (by repeat (first | exact Below.refl _ _ | apply Below.drew | apply below_drewN | apply below_al))).out).get 0 rfl).c2.2, (((HS.go (w' := wr.drew) (by repeat (first | exact Below.refl _ _ | apply Below.drew | apply below_drewN | apply below_al))).out).get 1 rfl).c5.2.2.2.2⟩
        refine wp_region_wpH (S := fun w' => w'.cell? ⟨gO, 1, none⟩ = some (.slice none 0 0) ∧ w'.cell? ⟨w.heap.size, 1, none⟩ = some (.slice B recs.length d) ∧ w'.cell? ⟨w.heap.size + 1, 4, none⟩ = some (.slice D rcs.length dr)) (c := 10) (by kernel_rfl) ?_
        refine wpH_take2 (i := 0) (v := ?_) [1, 4, 7, 8, 10] 39 rfl rfl (by kernel_rfl) (by kernel_rfl) (by kernel_rfl) (by kernel_rfl) (by kernel_rfl) (fun _ _ _ h => h) (Or.inl ⟨by rfl, ?y0_3⟩) HSx ?r0_3
        case y0_3 =>
          intro w' hSw
          obtain ⟨q0, q1, q2⟩ := hSw
          go_simp
          with_reducible rfl
        try simp only [Act.put, List.setIfInBounds_toArray, List.set_cons_zero, List.set_cons_succ]
        refine wpH_take2 (i := 1) (v := ?_) [4, 7, 8, 10] 40 rfl rfl (by kernel_rfl) (by kernel_rfl) (by kernel_rfl) (by kernel_rfl) (by kernel_rfl) (fun _ _ _ h => h) (Or.inl ⟨by rfl, ?y1_3⟩) HSx ?r1_3
        case y1_3 =>
          intro w' hSw
          obtain ⟨q0, q1, q2⟩ := hSw
          go_simp
          with_reducible rfl
        try simp only [Act.put, List.setIfInBounds_toArray, List.set_cons_zero, List.set_cons_succ]
        refine wpH_take2 (i := 2) (v := ?_) [3, 4, 7, 8, 10] 41 rfl rfl (by kernel_rfl) (by kernel_rfl) (by kernel_rfl) (by kernel_rfl) (by kernel_rfl) (fun _ _ _ h => h) (Or.inl ⟨by rfl, ?y2_3⟩) HSx ?r2_3
        case y2_3 =>
          intro w' hSw
          obtain ⟨q0, q1, q2⟩ := hSw
          go_simp
          with_reducible rfl
        try simp only [Act.put, List.setIfInBounds_toArray, List.set_cons_zero, List.set_cons_succ]
        refine wpH_take2 (i := 3) (v := ?_) [4, 7, 8, 10] 42 rfl rfl (by kernel_rfl) (by kernel_rfl) (by kernel_rfl) (by kernel_rfl) (by kernel_rfl) (fun _ _ _ h => h) (Or.inl ⟨by rfl, ?y3_3⟩) HSx ?r3_3
        case y3_3 =>
          intro w' hSw
          obtain ⟨q0, q1, q2⟩ := hSw
          go_simp
          with_reducible rfl
        try simp only [Act.put, List.setIfInBounds_toArray, List.set_cons_zero, List.set_cons_succ]
        refine wpH_take2 (i := 5) (v := ?_) [6, 7, 8, 10] 44 rfl rfl (by kernel_rfl) (by kernel_rfl) (by kernel_rfl) (by kernel_rfl) (by kernel_rfl) (fun _ _ _ h => h) (Or.inl ⟨by rfl, ?y5_3⟩) HSx ?r5_3
        case y5_3 =>
          intro w' hSw
          obtain ⟨q0, q1, q2⟩ := hSw
          go_simp
          with_reducible rfl
        try simp only [Act.put, List.setIfInBounds_toArray, List.set_cons_zero, List.set_cons_succ]
        refine wpH_take2 (i := 6) (v := ?_) [7, 8, 10] 45 rfl rfl (by kernel_rfl) (by kernel_rfl) (by kernel_rfl) (by kernel_rfl) (by kernel_rfl) (fun _ _ _ h => h) (Or.inl ⟨by rfl, ?y6_3⟩) HSx ?r6_3
        case y6_3 =>
          intro w' hSw
          obtain ⟨q0, q1, q2⟩ := hSw
          go_simp
          with_reducible rfl
        try simp only [Act.put, List.setIfInBounds_toArray, List.set_cons_zero, List.set_cons_succ]
        refine wpH_all (rs := [4]) (by kernel_rfl) (by simp) ?_
        intro z hz
        obtain rfl : z = 4 := by simpa using hz
        clear hz
        refine wpOp_step rfl (fun K hK => ?_)
        rw [if_pos (by rfl)]
        refine wp_append_rows Tryd.underlying26 ji jz0 jz1 jz2 rfl (by decide) (by decide) _ _ rfl wr.heap.size (.slice none 0 0) [] (recs.map recV) B recs.length d (by simp) rfl rfl (OR.nil _ _ _ _) (HP.out.below (HS.go (by repeat (first | exact Below.refl _ _ | apply Below.drew | apply below_drewN | apply below_al))).out.low) HNB.out (recV_len' _) (recV_one _) (by simp; omega) (by simp) ?_
        intro v2 w2 hown2 hg2 _
        have HS2 := (HS.go (w' := wr.drew) (by repeat (first | exact Below.refl _ _ | apply Below.drew | apply below_drewN | apply below_al))).out.grown hg2 (fun j hj => by cases hj)
        refine hK _ _ ?_
        clear hK K
        rw [if_neg (by decide)]
        refine ⟨⟨((HS2).get 3 rfl).c2.2, ((HS2).get 0 rfl).c2.2, ((HS2).get 1 rfl).c5.2.2.2.2⟩, ?_⟩
        try simp only [Act.put, List.setIfInBounds_toArray, List.set_cons_zero, List.set_cons_succ]
        refine wpH_all (rs := [7]) (by kernel_rfl) (by simp) ?_
        intro z hz
        obtain rfl : z = 7 := by simpa using hz
        clear hz
        refine wpOp_step rfl (fun K hK => ?_)
        rw [if_pos (by rfl)]
        refine wp_append_rows Tryd.underlying26 ji jz0 jz1 jz2 rfl (by decide) (by decide) _ _ rfl wr.heap.size v2 ([] ++ recs.map recV) (rcs.map recV) D rcs.length dr (by simp) rfl rfl hown2 (HC.out.below HS2.low) HND.out (recV_len' _) (recV_one _) (by simp; omega) (by have := hg2.size; simpa using this) ?_
        intro v3 w3 hown3 hg3 _
        have HS3 := HS2.grown hg3 (fun j hj => by have := (hown2.own j hj).1; exact ⟨HDW.out j this, by omega⟩)
        have HBW : Hid (Below wr.heap.size wr w3) := Lib.hid (((Below.drew (Below.refl _ _)).grown hg2 (by simp) (fun j hj => by cases hj)).grown hg3 (by have := hg2.size; simpa using this) (fun j hj => (hown2.own j hj).1))
        refine hK _ _ ?_
        clear hK K
        rw [if_neg (by decide)]
        refine ⟨⟨((HS3).get 3 rfl).c2.2, ((HS3).get 0 rfl).c2.2, ((HS3).get 1 rfl).c5.2.2.2.2⟩, ?_⟩
        try simp only [Act.put, List.setIfInBounds_toArray, List.set_cons_zero, List.set_cons_succ]
        have HBX3 := hown3.bx
        rw [List.nil_append] at HBX3
        rcases HBX3 with HBX3 | HBX3
        ·
          obtain ⟨rfl, hnn⟩ := HBX3
          refine wpH_all (rs := [8]) (by kernel_rfl) (by simp) ?_
          intro z hz
          obtain rfl : z = 8 := by simpa using hz
          clear hz
          refine wpOp_step rfl (fun K hK => ?_)
          go_simp
          refine (sorted_nil _).mono ?_
          rintro e w4 ⟨rfl, rfl⟩
          have HS4 := HS3
          refine hK _ _ ?_
          clear hK K
          rw [if_neg (by decide)]
          refine ⟨⟨((HS4).get 3 rfl).c2.2, ((HS4).get 0 rfl).c2.2, ((HS4).get 1 rfl).c5.2.2.2.2⟩, ?_⟩
          try simp only [Act.put, List.setIfInBounds_toArray, List.set_cons_zero, List.set_cons_succ]
          refine wpH_all (rs := [9]) (by kernel_rfl) (by simp) ?_
          intro z hz
          obtain rfl : z = 9 := by simpa using hz
          clear hz
          refine wpOp_step rfl (fun K hK => ?_)
          go_simp
          refine hK _ _ ?_
          clear hK K
          rw [if_neg (by decide)]
          refine ⟨⟨((HS4).get 3 rfl).c2.2, ((HS4).get 0 rfl).c2.2, ((HS4).get 1 rfl).c5.2.2.2.2⟩, ?_⟩
          try simp only [Act.put, List.setIfInBounds_toArray, List.set_cons_zero, List.set_cons_succ]
          obtain ⟨p0, p1⟩ := HS4.get 3 rfl |>.c2
          have pf := (HS4.get 3 rfl).2.1
          refine wpH_all (rs := [10]) (by kernel_rfl) (by simp) ?_
          intro z hz
          obtain rfl : z = 10 := by simpa using hz
          clear hz
          refine wpOp_step rfl (fun K hK => ?_)
          go_simp
          refine hK _ _ ?_
          clear hK K
          rw [if_pos rfl]
          try simp only [Act.put, List.setIfInBounds_toArray, List.set_cons_zero, List.set_cons_succ]
          refine wpAny_done (by kernel_rfl) ?_ _
          have HS5 := HS4.set1 (.slice none 0 0) HD3.out (by omega)
          clear p0 p1 pf d0 d1 k0 k1 k2 k3 k4 r0 r1 rf
          obtain ⟨o0, o1⟩ := HS5.get 3 rfl |>.c2
          obtain ⟨r0, r1⟩ := HS5.get 2 rfl |>.c2
          have rf := (HS5.get 2 rfl).2.1
          have HRV := Lib.hid (((((HRR.out.below HBW.out).other (p := ⟨gO, 1, none⟩) (fun a ha => by have := HBA.out a ha; simp only; omega) (.slice none 0 0)).other (p := ⟨w.heap.size + 1 + 1, 0, none⟩) (fun a ha => by have := HBA.out a ha; simp only; omega) (.slice Av Lv cv))).other (p := ⟨w.heap.size + 1 + 1, 1, none⟩) (fun a ha => by have := HBA.out a ha; simp only; omega) (.slice none 0 0))
          have HLO := Lib.hid (((HS5.low).setCell (p := ⟨w.heap.size + 1 + 1, 0, none⟩) (by simp only; omega) (.slice Av Lv cv)).setCell (p := ⟨w.heap.size + 1 + 1, 1, none⟩) (by simp only; omega) (.slice none 0 0))
          go_wp2_with fail
          refine bodyPost_ret (v := .tuple #[.agg #[.slice Av Lv cv, .slice none 0 0], .int .i64 0]) (by simp [results, Tryd.results23, go_sem, r0, r1, rf]) rfl ?_
          have hr0 : recs = [] ∧ rcs = [] := by simpa using hnn
          exact ⟨0, .inr ⟨rfl, HBT.out, Av, cv, none, 0, [], by rw [HLV.out]; rfl, HRV.out, HNC.out, RR.nil _ none 0 6 (by omega), (fun _ => rfl), by rw [hr0.1, hr0.2]; rfl, (fun x hx => by cases hx), (fun a ha => by have := HBA.out a ha; omega), (fun a ha => by cases ha), HLO.out⟩⟩
        ·
          obtain ⟨gr, cr, rfl, hgr, hbx, hr1, hr2⟩ := HBX3
          generalize hLR : (recs.map recV ++ rcs.map recV).length = LR at *
          refine wpH_all (rs := [8]) (by kernel_rfl) (by simp) ?_
          intro z hz
          obtain rfl : z = 8 := by simpa using hz
          clear hz
          refine wpOp_step rfl (fun K hK => ?_)
          go_simp
          have hSO := sorted_any gr cr (recs ++ rcs) w3 (by unfold flatC; rw [List.map_append]; exact hbx) (fun x hx => by rcases List.mem_append.1 hx with hx | hx; exact HSR.out x hx; exact HSH.out x hx) (by rw [List.length_append]; omega) (by rw [← List.length_map (f := recV), List.map_append, hLR]; exact hr1) hr2 (HM.out.below HS3.low) (by have := ML.lt HM.out; omega)
          rw [← List.length_map (f := recV), List.map_append, hLR] at hSO
          refine hSO.mono ?_
          rintro e w4 ⟨rfl, l4, hl4, hs4, hb4, hg4⟩
          have HS4 := HS3.grown hg4 (fun j hj => by cases hj; exact ⟨HDW.out gr hgr, by omega⟩)
          have HBW4 : Hid (Below wr.heap.size wr w4) := Lib.hid (HBW.out.grown hg4 HBW.out.size (fun j hj => by cases hj; exact hgr))
          refine hK _ _ ?_
          clear hK K
          rw [if_neg (by decide)]
          refine ⟨⟨((HS4).get 3 rfl).c2.2, ((HS4).get 0 rfl).c2.2, ((HS4).get 1 rfl).c5.2.2.2.2⟩, ?_⟩
          try simp only [Act.put, List.setIfInBounds_toArray, List.set_cons_zero, List.set_cons_succ]
          refine wpH_all (rs := [9]) (by kernel_rfl) (by simp) ?_
          intro z hz
          obtain rfl : z = 9 := by simpa using hz
          clear hz
          refine wpOp_step rfl (fun K hK => ?_)
          go_simp
          refine hK _ _ ?_
          clear hK K
          rw [if_neg (by decide)]
          refine ⟨⟨((HS4).get 3 rfl).c2.2, ((HS4).get 0 rfl).c2.2, ((HS4).get 1 rfl).c5.2.2.2.2⟩, ?_⟩
          try simp only [Act.put, List.setIfInBounds_toArray, List.set_cons_zero, List.set_cons_succ]
          obtain ⟨p0, p1⟩ := HS4.get 3 rfl |>.c2
          have pf := (HS4.get 3 rfl).2.1
          refine wpH_all (rs := [10]) (by kernel_rfl) (by simp) ?_
          intro z hz
          obtain rfl : z = 10 := by simpa using hz
          clear hz
          refine wpOp_step rfl (fun K hK => ?_)
          go_simp
          refine hK _ _ ?_
          clear hK K
          rw [if_pos rfl]
          try simp only [Act.put, List.setIfInBounds_toArray, List.set_cons_zero, List.set_cons_succ]
          refine wpAny_done (by kernel_rfl) ?_ _
          have HS5 := HS4.set1 (.slice (some ⟨gr, 0, none⟩) LR cr) HD3.out (by omega)
          clear p0 p1 pf d0 d1 k0 k1 k2 k3 k4 r0 r1 rf
          obtain ⟨o0, o1⟩ := HS5.get 3 rfl |>.c2
          obtain ⟨r0, r1⟩ := HS5.get 2 rfl |>.c2
          have rf := (HS5.get 2 rfl).2.1
          have HRV := Lib.hid (((((HRR.out.below HBW4.out).other (p := ⟨gO, 1, none⟩) (fun a ha => by have := HBA.out a ha; simp only; omega) (.slice (some ⟨gr, 0, none⟩) LR cr)).other (p := ⟨w.heap.size + 1 + 1, 0, none⟩) (fun a ha => by have := HBA.out a ha; simp only; omega) (.slice Av Lv cv))).other (p := ⟨w.heap.size + 1 + 1, 1, none⟩) (fun a ha => by have := HBA.out a ha; simp only; omega) (.slice (some ⟨gr, 0, none⟩) LR cr))
          have HRC := Lib.hid ((((RR.of_bx hb4 (recV_len' l4) (by rw [List.length_map, hl4]; exact hr1) hr2).other (p := ⟨gO, 1, none⟩) (fun a ha => by cases ha; simp only; omega) (.slice (some ⟨gr, 0, none⟩) LR cr)).other (p := ⟨w.heap.size + 1 + 1, 0, none⟩) (fun a ha => by cases ha; simp only; omega) (.slice Av Lv cv)).other (p := ⟨w.heap.size + 1 + 1, 1, none⟩) (fun a ha => by cases ha; simp only; omega) (.slice (some ⟨gr, 0, none⟩) LR cr))
          have HLO := Lib.hid (((HS5.low).setCell (p := ⟨w.heap.size + 1 + 1, 0, none⟩) (by simp only; omega) (.slice Av Lv cv)).setCell (p := ⟨w.heap.size + 1 + 1, 1, none⟩) (by simp only; omega) (.slice (some ⟨gr, 0, none⟩) LR cr))
          have hLL : LR = l4.length := hl4.symm
          have HLL2 := Lib.hid hLL
          have HL4 : Hid (l4.length = recs.length + rcs.length) := Lib.hid (by rw [hl4, ← hLR]; simp)
          have HSH4 := Lib.hid hs4
          clear hLL hl4 hs4 hb4 hLR hr1 hr2 hbx hSO
          go_wp2_with fail
          refine bodyPost_ret (v := .tuple #[.agg #[.slice Av Lv cv, .slice (some ⟨gr, 0, none⟩) LR cr], .int .i64 0]) (by simp [results, Tryd.results23, go_sem, r0, r1, rf]) rfl ?_
          exact ⟨0, .inr ⟨rfl, HBT.out, Av, cv, _, cr, l4, by rw [HLV.out, HLL2.out], HRV.out, HNC.out, HRC.out, (fun e => by cases e), HL4.out, HSH4.out, (fun a ha => by have := HBA.out a ha; omega), (fun a ha => by cases ha; simp only; omega), HLO.out⟩⟩
  · have b1 : (en != 0) = true := by simpa using h0
    go_wp2_with fail
    refine bodyPost_ret (v := .tuple #[.agg #[.slice none 0 0, .slice none 0 0], .int .i64 en]) (by simp [results, Tryd.results23, go_sem, r0, r1, rf]) rfl ?_
    exact RetAp.bad h0 (((HS.go (by repeat (first | exact Below.refl _ _ | apply Below.drew | apply below_drewN | apply below_al))).out.low.setCell (p := ⟨w.heap.size + 1 + 1, 0, none⟩) (by simp only; omega) _).setCell (p := ⟨w.heap.size + 1 + 1, 1, none⟩) (by simp only; omega) _)
end Go.Proofs.YteagecjhpfijjaaDoor

