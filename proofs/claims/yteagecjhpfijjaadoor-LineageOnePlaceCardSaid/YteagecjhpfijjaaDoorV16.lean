/-
  Records in memory; the walk of the reference's Before.
-/
import Derived.Test.YteagecjhpfijjaaDoorV12
namespace Go.Proofs.YteagecjhpfijjaaDoor
set_option linter.unusedSimpArgs false
set_option linter.unusedVariables false
open Go.RowKit

/-- a record -/
structure Rc where
  frm : ByteArray
  fst : Int
  lst : Int
  dst : ByteArray
  num : Int
  how : Int
def recV (x : Rc) : List Value := [.string x.frm, .int .i64 x.fst, .int .i64 x.lst, .string x.dst, .int .i64 x.num, .int .i64 x.how]
def aggC (x : Rc) : Value := .agg #[.string x.frm, .int .i64 x.fst, .int .i64 x.lst, .string x.dst, .int .i64 x.num, .int .i64 x.how]
/-- a record whose texts are short -/
def shortC (x : Rc) : Prop := x.frm.size ≤ 1000 ∧ x.dst.size ≤ 1000
def RC (w : World) (A : Option Addr) (c : Nat) (xs : List Rc) : Prop := RR w A c 6 (xs.map recV)
theorem RC.below {w w' : World} {A : Option Addr} {c : Nat} {xs : List Rc} (h : RC w A c xs) (hb : Below w.heap.size w w') : RC w' A c xs := RR.below h hb
def AtC (w : World) (b o : Nat) (x : Rc) : Prop :=
  w.cell? ⟨b, o, none⟩ = some (.string x.frm) ∧ w.cell? ⟨b, o + 1, none⟩ = some (.int .i64 x.fst) ∧ w.cell? ⟨b, o + 2, none⟩ = some (.int .i64 x.lst) ∧ w.cell? ⟨b, o + 3, none⟩ = some (.string x.dst) ∧ w.cell? ⟨b, o + 4, none⟩ = some (.int .i64 x.num) ∧ w.cell? ⟨b, o + 5, none⟩ = some (.int .i64 x.how)
theorem RC.at_ {w : World} {A : Option Addr} {c : Nat} {xs : List Rc} (h : RC w A c xs) {j : Nat} {x : Rc} (hj : xs[j]? = some x) : ∃ b o, A = some ⟨b, o, none⟩ ∧ b < w.heap.size ∧ AtC w b (o + j * 6) x := by
  obtain ⟨b, o, e, hb, hc⟩ := h.2.2 (by rw [List.length_map]; have := (List.getElem?_eq_some_iff.1 hj).1; omega)
  have hm : (xs.map recV)[j]? = some (recV x) := by rw [List.getElem?_map, hj]; rfl
  exact ⟨b, o, e, hb, hc j _ hm 0 _ rfl, hc j _ hm 1 _ rfl, hc j _ hm 2 _ rfl, hc j _ hm 3 _ rfl, hc j _ hm 4 _ rfl, hc j _ hm 5 _ rfl⟩
theorem BX.rc {w : World} {g : Nat} {x : Rc} (h : BX w g (recV x)) : AtC w g 0 x :=
  ⟨h.1 0 _ rfl, h.1 1 _ rfl, h.1 2 _ rfl, h.1 3 _ rfl, h.1 4 _ rfl, h.1 5 _ rfl⟩
/-- some truth value comes back -/
def RetQ (w : World) (e : Ending) (w' : World) : Prop := ∃ b : Bool, e = .returned (.bool b) ∧ Below w.heap.size w w'
def BS (w : World) (x y : Rc) (w' : World) : Prop := BX w' w.heap.size (recV x) ∧ BX w' (w.heap.size + 1) (recV y) ∧ Below w.heap.size w w'
theorem BS.kept (w : World) (x y : Rc) : Kept (BS w x y) := fun X Y h hb => ⟨h.1.below hb, h.2.1.below hb, go3 h.2.2 hb⟩
theorem BS.start (w : World) (x y : Rc) (T1 T2 : TypeId) : At (BS w x y) ((w.alloc (.cells (recV x).toArray T1)).alloc (.cells (recV y).toArray T2)) :=
  ⟨BS.kept _ _ _, (BX.new w (recV x) T1 rfl).below (below_alloc _ _), BX.new _ (recV y) T2 (g := w.heap.size + 1) (by simp), below_two _ _ _⟩
/-- does a record come ahead of another -/
def befB (x y : Rc) : Bool := if ordR x.dst y.dst ≠ 0 then decide (ordR x.dst y.dst < 0) else if x.num ≠ y.num then decide (x.num < y.num) else if ordR x.frm y.frm ≠ 0 then decide (ordR x.frm y.frm < 0) else decide (x.fst < y.fst)
set_option maxHeartbeats 4000000 in
set_option maxRecDepth 100000 in
theorem beforeB_any (x y : Rc) (w : World) (hx : shortC x) (hy : shortC y) (hm : ML w) :
    Calls Tryd.prog 53 #[aggC x, aggC y] w fun e w' => e = .returned (.bool (befB x y)) ∧ Below w.heap.size w w' := by
  have HM := Lib.hid hm
  have HO1 := Lib.hid (fun W h => order_any x.dst y.dst W (by have := hx.2; omega) (by have := hy.2; omega) h)
  have HO2 := Lib.hid (fun W h => order_any x.frm y.frm W (by have := hx.1; omega) (by have := hy.1; omega) h)
  have HS := BS.start w x y 71 71
  obtain ⟨x0, x1, x2, x3, x4, x5⟩ := HS.out.1.rc
  obtain ⟨y0, y1, y2, y3, y4, y5⟩ := HS.out.2.1.rc
  clear hm hx hy
  unfold aggC
  have HE0 : Hid (befB x y = if ordR x.dst y.dst ≠ 0 then decide (ordR x.dst y.dst < 0) else if x.num ≠ y.num then decide (x.num < y.num) else if ordR x.frm y.frm ≠ 0 then decide (ordR x.frm y.frm < 0) else decide (x.fst < y.fst)) := Lib.hid rfl
  generalize befB x y = bb at *
  generalize ordR x.dst y.dst = u1 at *
  generalize ordR x.frm y.frm = u2 at *
  by_cases h1 : u1 = 0
  · subst h1
    by_cases h2 : x.num = y.num
    · have b2 : (x.num != y.num) = false := by simpa using h2
      clear h2
      by_cases h3 : u2 = 0
      · subst h3
        have HE : Hid (bb = decide (x.fst < y.fst)) := Lib.hid (by rw [HE0.out, if_neg (by simp), if_neg (by simpa using b2), if_neg (by simp)])
        clear HE0
        go_enter Tryd.func53, Tryd.ntmps53
        go_wp2_with (first
          | (go_at_call_of 47 (Value.string x.dst); refine (HO1.out _ (HM.out.below (HS.go (by repeat (first | exact Below.refl _ _ | apply Below.drew | apply below_drewN | apply below_al))).out.2.2)).mono ?_; rintro e wn ⟨rfl, hb⟩; replace HS := HS.go2 (by repeat (first | exact Below.refl _ _ | apply Below.drew | apply below_drewN | apply below_al)) hb; clear hb; obtain ⟨x0, x1, x2, x3, x4, x5⟩ := HS.out.1.rc; obtain ⟨y0, y1, y2, y3, y4, y5⟩ := HS.out.2.1.rc)
          | (go_at_call 47; refine (HO2.out _ (HM.out.below (HS.go (by repeat (first | exact Below.refl _ _ | apply Below.drew | apply below_drewN | apply below_al))).out.2.2)).mono ?_; rintro e wn ⟨rfl, hb⟩; replace HS := HS.go2 (by repeat (first | exact Below.refl _ _ | apply Below.drew | apply below_drewN | apply below_al)) hb; clear hb; obtain ⟨x0, x1, x2, x3, x4, x5⟩ := HS.out.1.rc; obtain ⟨y0, y1, y2, y3, y4, y5⟩ := HS.out.2.1.rc))
        go_ret
        exact ⟨ret_bool (by rw [HE.out]), (HS.go (by repeat (first | exact Below.refl _ _ | apply Below.drew | apply below_drewN | apply below_al))).out.2.2⟩
      · have b3 : (u2 != 0) = true := by simpa using h3
        have HE : Hid (bb = decide (u2 < 0)) := Lib.hid (by rw [HE0.out, if_neg (by simp), if_neg (by simpa using b2), if_pos h3])
        clear h3 HE0
        go_enter Tryd.func53, Tryd.ntmps53
        go_wp2_with (first
          | (go_at_call_of 47 (Value.string x.dst); refine (HO1.out _ (HM.out.below (HS.go (by repeat (first | exact Below.refl _ _ | apply Below.drew | apply below_drewN | apply below_al))).out.2.2)).mono ?_; rintro e wn ⟨rfl, hb⟩; replace HS := HS.go2 (by repeat (first | exact Below.refl _ _ | apply Below.drew | apply below_drewN | apply below_al)) hb; clear hb; obtain ⟨x0, x1, x2, x3, x4, x5⟩ := HS.out.1.rc; obtain ⟨y0, y1, y2, y3, y4, y5⟩ := HS.out.2.1.rc)
          | (go_at_call 47; refine (HO2.out _ (HM.out.below (HS.go (by repeat (first | exact Below.refl _ _ | apply Below.drew | apply below_drewN | apply below_al))).out.2.2)).mono ?_; rintro e wn ⟨rfl, hb⟩; replace HS := HS.go2 (by repeat (first | exact Below.refl _ _ | apply Below.drew | apply below_drewN | apply below_al)) hb; clear hb; obtain ⟨x0, x1, x2, x3, x4, x5⟩ := HS.out.1.rc; obtain ⟨y0, y1, y2, y3, y4, y5⟩ := HS.out.2.1.rc))
        go_ret
        exact ⟨ret_bool (by rw [HE.out]), (HS.go (by repeat (first | exact Below.refl _ _ | apply Below.drew | apply below_drewN | apply below_al))).out.2.2⟩
    · have b2 : (x.num != y.num) = true := by simpa using h2
      have HE : Hid (bb = decide (x.num < y.num)) := Lib.hid (by rw [HE0.out, if_neg (by simp), if_pos h2])
      clear h2 HE0
      go_enter Tryd.func53, Tryd.ntmps53
      go_wp2_with (first
        | (go_at_call_of 47 (Value.string x.dst); refine (HO1.out _ (HM.out.below (HS.go (by repeat (first | exact Below.refl _ _ | apply Below.drew | apply below_drewN | apply below_al))).out.2.2)).mono ?_; rintro e wn ⟨rfl, hb⟩; replace HS := HS.go2 (by repeat (first | exact Below.refl _ _ | apply Below.drew | apply below_drewN | apply below_al)) hb; clear hb; obtain ⟨x0, x1, x2, x3, x4, x5⟩ := HS.out.1.rc; obtain ⟨y0, y1, y2, y3, y4, y5⟩ := HS.out.2.1.rc)
        | (go_at_call 47; refine (HO2.out _ (HM.out.below (HS.go (by repeat (first | exact Below.refl _ _ | apply Below.drew | apply below_drewN | apply below_al))).out.2.2)).mono ?_; rintro e wn ⟨rfl, hb⟩; replace HS := HS.go2 (by repeat (first | exact Below.refl _ _ | apply Below.drew | apply below_drewN | apply below_al)) hb; clear hb; obtain ⟨x0, x1, x2, x3, x4, x5⟩ := HS.out.1.rc; obtain ⟨y0, y1, y2, y3, y4, y5⟩ := HS.out.2.1.rc))
      go_ret
      exact ⟨ret_bool (by rw [HE.out]), (HS.go (by repeat (first | exact Below.refl _ _ | apply Below.drew | apply below_drewN | apply below_al))).out.2.2⟩
  · have b1 : (u1 != 0) = true := by simpa using h1
    have HE : Hid (bb = decide (u1 < 0)) := Lib.hid (by rw [HE0.out, if_pos h1])
    clear h1 HE0
    go_enter Tryd.func53, Tryd.ntmps53
    go_wp2_with (first
      | (go_at_call_of 47 (Value.string x.dst); refine (HO1.out _ (HM.out.below (HS.go (by repeat (first | exact Below.refl _ _ | apply Below.drew | apply below_drewN | apply below_al))).out.2.2)).mono ?_; rintro e wn ⟨rfl, hb⟩; replace HS := HS.go2 (by repeat (first | exact Below.refl _ _ | apply Below.drew | apply below_drewN | apply below_al)) hb; clear hb; obtain ⟨x0, x1, x2, x3, x4, x5⟩ := HS.out.1.rc; obtain ⟨y0, y1, y2, y3, y4, y5⟩ := HS.out.2.1.rc)
      | (go_at_call 47; refine (HO2.out _ (HM.out.below (HS.go (by repeat (first | exact Below.refl _ _ | apply Below.drew | apply below_drewN | apply below_al))).out.2.2)).mono ?_; rintro e wn ⟨rfl, hb⟩; replace HS := HS.go2 (by repeat (first | exact Below.refl _ _ | apply Below.drew | apply below_drewN | apply below_al)) hb; clear hb; obtain ⟨x0, x1, x2, x3, x4, x5⟩ := HS.out.1.rc; obtain ⟨y0, y1, y2, y3, y4, y5⟩ := HS.out.2.1.rc))
    go_ret
    exact ⟨ret_bool (by rw [HE.out]), (HS.go (by repeat (first | exact Below.refl _ _ | apply Below.drew | apply below_drewN | apply below_al))).out.2.2⟩
theorem before_any (x y : Rc) (w : World) (hx : shortC x) (hy : shortC y) (hm : ML w) :
    Calls Tryd.prog 53 #[aggC x, aggC y] w (RetQ w) := (beforeB_any x y w hx hy hm).mono fun e w' h => ⟨_, h⟩
/-- boxes that are known -/
def BB (w : World) (l : List (Nat × List Value)) (w' : World) : Prop := (∀ p ∈ l, BX w' p.1 p.2) ∧ Below w.heap.size w w'
theorem BB.kept (w : World) (l : List (Nat × List Value)) : Kept (BB w l) := fun X Y h hb => ⟨fun p hp => (h.1 p hp).below hb, go3 h.2 hb⟩
theorem BB.get {w w' : World} {l : List (Nat × List Value)} (h : BB w l w') (i : Nat) {g : Nat} {cs : List Value} (hi : l[i]? = some (g, cs)) : BX w' g cs := h.1 (g, cs) (List.mem_of_getElem? hi)
theorem BB.low {w w' : World} {l : List (Nat × List Value)} (h : BB w l w') : Below w.heap.size w w' := h.2
theorem BB.nil (w : World) : BB w [] w := ⟨(fun p hp => by cases hp), Below.refl _ _⟩
/-- one box more -/
theorem BB.push {w w' : World} {l : List (Nat × List Value)} (h : BB w l w') (cs : List Value) (T : TypeId) {g : Nat} (hg : g = w'.heap.size) : BB w (l ++ [(g, cs)]) (w'.alloc (.cells cs.toArray T)) :=
  ⟨fun p hp => by
    rcases List.mem_append.1 hp with hp | hp
    · exact (h.1 p hp).below (below_alloc _ _)
    · rw [List.mem_singleton.1 hp]; exact BX.new w' cs T hg, below_al h.2 _⟩
theorem BB.at_ {w w' : World} {l : List (Nat × List Value)} (h : BB w l w') : At (BB w l) w' := ⟨BB.kept w l, h⟩
theorem BX.c2 {w : World} {g : Nat} {a b : Value} (h : BX w g [a, b]) : w.cell? ⟨g, 0, none⟩ = some a ∧ w.cell? ⟨g, 1, none⟩ = some b := ⟨h.1 0 _ rfl, h.1 1 _ rfl⟩
theorem BX.c5 {w : World} {g : Nat} {a b c d e : Value} (h : BX w g [a, b, c, d, e]) : w.cell? ⟨g, 0, none⟩ = some a ∧ w.cell? ⟨g, 1, none⟩ = some b ∧ w.cell? ⟨g, 2, none⟩ = some c ∧ w.cell? ⟨g, 3, none⟩ = some d ∧ w.cell? ⟨g, 4, none⟩ = some e := ⟨h.1 0 _ rfl, h.1 1 _ rfl, h.1 2 _ rfl, h.1 3 _ rfl, h.1 4 _ rfl⟩
end Go.Proofs.YteagecjhpfijjaaDoor

