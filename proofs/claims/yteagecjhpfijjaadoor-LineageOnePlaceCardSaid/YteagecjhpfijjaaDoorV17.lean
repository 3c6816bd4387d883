/-
  The walk of the reference's Sorted: the records are turned round in their own block.
-/
import Derived.Test.YteagecjhpfijjaaDoorV16
import Derived.Deep.RegionHeld3
import Derived.BigRegion
import Derived.IntWalk
namespace Go.Proofs.YteagecjhpfijjaaDoor
set_option linter.unusedSimpArgs false
set_option linter.unusedVariables false
open Go.RowKit

def flatC (l : List Rc) : List Value := (l.map recV).flatten
theorem recV_len (l : List Rc) : ∀ r ∈ l.map recV, r.length = 6 := fun r h => by
  obtain ⟨x, _, rfl⟩ := List.mem_map.1 h
  rfl
theorem BX.recs {w : World} {g : Nat} {l : List Rc} (h : BX w g (flatC l)) {j : Nat} {x : Rc} (hj : l[j]? = some x) : AtC w g (j * 6) x := by
  have hm : (l.map recV)[j]? = some (recV x) := by rw [List.getElem?_map, hj]; rfl
  have hf := flat_at (recV_len l) j _ hm
  exact ⟨h.1 _ _ (hf 0 _ rfl), h.1 _ _ (hf 1 _ rfl), h.1 _ _ (hf 2 _ rfl), h.1 _ _ (hf 3 _ rfl), h.1 _ _ (hf 4 _ rfl), h.1 _ _ (hf 5 _ rfl)⟩
theorem BX.setMid : ∀ (ys : List Value) {w : World} {g i : Nat} {pre old post : List Value}, BX w g (pre ++ (old ++ post)) → pre.length = i → ys.length = old.length → BX (Go.Proofs.YteagecjhpfijjaaDoor.setAll w g i ys) g (pre ++ (ys ++ post))
  | [], w, g, i, pre, old, post, h, hi, hl => by
    have : old = [] := List.eq_nil_of_length_eq_zero hl.symm
    subst this
    exact h
  | y :: ys, w, g, i, pre, [], post, h, hi, hl => by simp at hl
  | y :: ys, w, g, i, pre, c :: old, post, h, hi, hl => by
    have h1 := h.set (j := i) (by rw [List.length_append, List.cons_append, List.length_cons]; omega) y
    have e : (pre ++ (c :: old ++ post)).set i y = (pre ++ [y]) ++ (old ++ post) := by
      subst hi
      rw [List.set_append_right _ _ (Nat.le_refl _), Nat.sub_self, List.cons_append, List.set_cons_zero, List.append_assoc]
      rfl
    rw [e] at h1
    have h2 := BX.setMid (i := i + 1) ys h1 (by rw [List.length_append, List.length_singleton, hi]) (by simpa using hl)
    rw [List.append_assoc] at h2
    exact h2
theorem flatC_len (l : List Rc) : (flatC l).length = l.length * 6 := by
  unfold flatC
  rw [flat_len (recV_len l), List.length_map]
theorem flatC_set {l : List Rc} {j : Nat} (hj : j < l.length) (y : Rc) : flatC (l.set j y) = flatC (l.take j) ++ (recV y ++ flatC (l.drop (j + 1))) := by
  unfold flatC
  rw [List.set_eq_take_append_cons_drop, if_pos hj, List.map_append, List.map_cons, List.flatten_append, List.flatten_cons]
theorem flatC_at {l : List Rc} {j : Nat} {x : Rc} (hj : l[j]? = some x) : flatC l = flatC (l.take j) ++ (recV x ++ flatC (l.drop (j + 1))) := by
  obtain ⟨h1, h2⟩ := List.getElem?_eq_some_iff.1 hj
  rw [← flatC_set h1 x]
  congr 1
  rw [← h2, List.set_getElem_self]
theorem BX.setRec {w : World} {g : Nat} {l : List Rc} (h : BX w g (flatC l)) {j : Nat} (hj : j < l.length) (y : Rc) : BX (Go.Proofs.YteagecjhpfijjaaDoor.setAll w g (j * 6) (recV y)) g (flatC (l.set j y)) := by
  rw [flatC_at (List.getElem?_eq_getElem hj)] at h
  rw [flatC_set hj]
  refine BX.setMid (recV y) h ?_ rfl
  rw [flatC_len, List.length_take]
  omega
theorem gb_setAll : ∀ (ys : List Value) {a w : World} {g i : Nat}, a.grownBy w (some g) → a.grownBy (Go.Proofs.YteagecjhpfijjaaDoor.setAll w g i ys) (some g)
  | [], _, _, _, _, h => h
  | y :: ys, a, w, g, i, h => gb_setAll ys (gb_set h (p := ⟨g, i, none⟩) (.inl rfl) y)
theorem gb_drew {a w : World} {k : Option Nat} (h : a.grownBy w k) : a.grownBy w.drew k := gb_below h (Below.drew (Below.refl _ _))
theorem ML.gb {w w' : World} {g : Nat} (h : ML w) (hg : w.grownBy w' (some g)) (hne : 0 ≠ g) : ML w' := by
  obtain ⟨m, hm⟩ := h
  exact ⟨m, (cell_gb hg (cell_lt hm) (by simpa using fun e => hne e.symm) 0).trans hm⟩
theorem short_set {l : List Rc} {j : Nat} {y : Rc} (h : ∀ x ∈ l, shortC x) (hy : shortC y) : ∀ x ∈ l.set j y, shortC x := fun x hx => by
  rcases List.mem_or_eq_of_mem_set hx with h1 | h1
  · exact h x h1
  · rw [h1]; exact hy
theorem two_recs {w : World} {g j : Nat} {x y : Rc} (a : AtC w g (j * 6) x) (b : AtC w g ((j - 1) * 6) y) : w.cell? ⟨g, j * 6, none⟩ = some (.string x.frm) ∧ w.cell? ⟨g, j * 6 + 1, none⟩ = some (.int .i64 x.fst) ∧ w.cell? ⟨g, j * 6 + 2, none⟩ = some (.int .i64 x.lst) ∧ w.cell? ⟨g, j * 6 + 3, none⟩ = some (.string x.dst) ∧ w.cell? ⟨g, j * 6 + 4, none⟩ = some (.int .i64 x.num) ∧ w.cell? ⟨g, j * 6 + 5, none⟩ = some (.int .i64 x.how) ∧ w.cell? ⟨g, (j - 1) * 6, none⟩ = some (.string y.frm) ∧ w.cell? ⟨g, (j - 1) * 6 + 1, none⟩ = some (.int .i64 y.fst) ∧ w.cell? ⟨g, (j - 1) * 6 + 2, none⟩ = some (.int .i64 y.lst) ∧ w.cell? ⟨g, (j - 1) * 6 + 3, none⟩ = some (.string y.dst) ∧ w.cell? ⟨g, (j - 1) * 6 + 4, none⟩ = some (.int .i64 y.num) ∧ w.cell? ⟨g, (j - 1) * 6 + 5, none⟩ = some (.int .i64 y.how) :=
  ⟨a.1, a.2.1, a.2.2.1, a.2.2.2.1, a.2.2.2.2.1, a.2.2.2.2.2, b.1, b.2.1, b.2.2.1, b.2.2.2.1, b.2.2.2.2.1, b.2.2.2.2.2⟩
/-- the records, turned round in their block g -/
def SO (w : World) (g n : Nat) (w' : World) : Prop := ∃ l : List Rc, l.length = n ∧ (∀ x ∈ l, shortC x) ∧ BX w' g (flatC l) ∧ w.grownBy w' (some g)
set_option maxHeartbeats 8000000 in
set_option maxRecDepth 100000 in
theorem sorted_any (g c : Nat) (l : List Rc) (w : World) (h : BX w g (flatC l)) (hs : ∀ x ∈ l, shortC x) (hl : l.length ≤ 1000) (hc : l.length ≤ c) (hc2 : c ≤ 9223372036854775807) (hm : ML w) (hne : 0 ≠ g) :
    Calls Tryd.prog 41 #[.slice (some ⟨g, 0, none⟩) l.length c] w fun e w' => e = .returned (.slice (some ⟨g, 0, none⟩) l.length c) ∧ SO w g l.length w' := by
  have HM := Lib.hid hm
  have HNE := Lib.hid hne
  have H0 : Hid (SO w g l.length w) := Lib.hid ⟨l, rfl, hs, h, World.grownBy.refl _ _⟩
  clear h hs hm hne
  generalize l.length = n at *
  go_enter Tryd.func41, Tryd.ntmps41
  go_wp2_with fail
  go_loopw [7] (fun i wr => ∃ k : Nat, k ≤ n ∧ i = .int .i64 k ∧ Hid (SO w g n wr)) (fun i _ => n - (intOf i).toNat)
  case atStart => exact ⟨0, Nat.zero_le _, rfl, H0⟩
  case round =>
    obtain ⟨k, hk, rfl, HS⟩ := hrel
    by_cases hlt : k < n
    · obtain ⟨wo, rfl⟩ : ∃ wo, wo = wr := ⟨wr, rfl⟩
      go_wp2_with fail
      go_loopw [4] (fun i wr => ∃ j : Nat, j ≤ k ∧ i = .int .i64 j ∧ Hid (SO w g n wr)) (fun i _ => (intOf i).toNat)
      case atStart => exact ⟨k, Nat.le_refl _, rfl, HS⟩
      case round =>
        clear HS
        obtain ⟨j, hj, rfl, HS⟩ := hrel
        obtain ⟨l, hln, hsh, hbx, hgb⟩ := HS.out
        by_cases h0 : 0 < j
        · obtain ⟨x, hx⟩ : ∃ x, l[j]? = some x := ⟨_, List.getElem?_eq_getElem (by omega)⟩
          obtain ⟨y, hy⟩ : ∃ y, l[j - 1]? = some y := ⟨_, List.getElem?_eq_getElem (by omega)⟩
          have HSX := Lib.hid (hsh x (List.mem_of_getElem? hx))
          have HSY := Lib.hid (hsh y (List.mem_of_getElem? hy))
          have HSH := Lib.hid hsh
          have HLN := Lib.hid hln
          have HX := Lib.hid hx
          have HY := Lib.hid hy
          have HQ : At (fun w' => BX w' g (flatC l) ∧ w.grownBy w' (some g)) wr := ⟨fun X Y h hb => ⟨h.1.below hb, gb_below h.2 hb⟩, hbx, hgb⟩
          have HBF := Lib.hid (fun W h => before_any x y W HSX.out HSY.out h)
          unfold RetQ aggC at HBF
          have hd : decide (0 < j) = true := decide_eq_true h0
          have hw1 : IntKind.i64.wrap ((j : Int) - 1) = (j : Int) - 1 := IntWalk.i64_in _ (by omega)
          have hw2 : 0 ≤ (j : Int) - 1 := by omega
          have hw2' : 1 ≤ (j : Int) := by omega
          have hw3 : ((j : Int) - 1).toNat = j - 1 := by omega
          have hw4 : j - 1 < n := by omega
          have hw5 : j < n := by omega
          have hw6 : (j : Int) - 1 < (n : Int) := by omega
          have hw7 : (j : Int) < (n : Int) + 1 := by omega
          clear hsh hln hx hy hbx hgb HS
          go_wp2_with fail
          go_region_held3 (fun w' => w'.cell? ⟨g, j * 6, none⟩ = some (.string x.frm) ∧ w'.cell? ⟨g, j * 6 + 1, none⟩ = some (.int .i64 x.fst) ∧ w'.cell? ⟨g, j * 6 + 2, none⟩ = some (.int .i64 x.lst) ∧ w'.cell? ⟨g, j * 6 + 3, none⟩ = some (.string x.dst) ∧ w'.cell? ⟨g, j * 6 + 4, none⟩ = some (.int .i64 x.num) ∧ w'.cell? ⟨g, j * 6 + 5, none⟩ = some (.int .i64 x.how) ∧ w'.cell? ⟨g, (j - 1) * 6, none⟩ = some (.string y.frm) ∧ w'.cell? ⟨g, (j - 1) * 6 + 1, none⟩ = some (.int .i64 y.fst) ∧ w'.cell? ⟨g, (j - 1) * 6 + 2, none⟩ = some (.int .i64 y.lst) ∧ w'.cell? ⟨g, (j - 1) * 6 + 3, none⟩ = some (.string y.dst) ∧ w'.cell? ⟨g, (j - 1) * 6 + 4, none⟩ = some (.int .i64 y.num) ∧ w'.cell? ⟨g, (j - 1) * 6 + 5, none⟩ = some (.int .i64 y.how))
            (first | exact two_recs ((HQ.go (by repeat (first | exact Below.refl _ _ | apply Below.drew | apply below_drewN | apply below_al))).out.1.recs HX.out) ((HQ.go (by repeat (first | exact Below.refl _ _ | apply Below.drew | apply below_drewN | apply below_al))).out.1.recs HY.out))
            (first | (go_at_call 53; refine (HBF.out _ (HM.out.gb (HQ.go (by repeat (first | exact Below.refl _ _ | apply Below.drew | apply below_drewN | apply below_al))).out.2 HNE.out)).mono ?_; rintro e wm ⟨q, rfl, hb⟩; replace HQ := HQ.go2 (by repeat (first | exact Below.refl _ _ | apply Below.drew | apply below_drewN | apply below_al)) hb; clear hb))
          all_goals
            cases q with
            | false =>
              go_wp2_with fail
              go_roundw
              case rel => exact ⟨k + 1, by omega, by go_num, Lib.hid ⟨l, HLN.out, HSH.out, (HQ.go (by repeat (first | exact Below.refl _ _ | apply Below.drew | apply below_drewN | apply below_al))).out.1, (HQ.go (by repeat (first | exact Below.refl _ _ | apply Below.drew | apply below_drewN | apply below_al))).out.2⟩⟩
              case measure => simp [intOf]; omega
            | true =>
              obtain ⟨x0, x1, x2, x3, x4, x5⟩ := (HQ.go (by repeat (first | exact Below.refl _ _ | apply Below.drew | apply below_drewN | apply below_al))).out.1.recs HX.out
              obtain ⟨y0, y1, y2, y3, y4, y5⟩ := (HQ.go (by repeat (first | exact Below.refl _ _ | apply Below.drew | apply below_drewN | apply below_al))).out.1.recs HY.out
              have hfz := (HQ.go (by repeat (first | exact Below.refl _ _ | apply Below.drew | apply below_drewN | apply below_al))).out.1.2.1
              go_wp2_with fail
              go_region
              all_goals
                go_wp2_with fail
                go_roundw
                case rel => exact ⟨j - 1, by omega, by go_num, Lib.hid ⟨(l.set j y).set (j - 1) x, by rw [List.length_set, List.length_set]; exact HLN.out, short_set (short_set HSH.out HSY.out) HSX.out, (((HQ.go (by repeat (first | exact Below.refl _ _ | apply Below.drew | apply below_drewN | apply below_al))).out.1.setRec (by rw [HLN.out]; exact hw5) y).setRec (j := j - 1) (by rw [List.length_set, HLN.out]; exact hw4) x).below (Below.drew (Below.refl _ _)), gb_drew (gb_setAll (recV x) (gb_setAll (recV y) (HQ.go (by repeat (first | exact Below.refl _ _ | apply Below.drew | apply below_drewN | apply below_al))).out.2))⟩⟩
                case measure => simp [intOf]; omega
        · have hd : decide (0 < j) = false := decide_eq_false h0
          go_wp2_with fail
          go_quiet (fail)
          all_goals
            go_wp2_with fail
            go_roundw
            case rel => exact ⟨k + 1, by omega, by go_num, Lib.hid ⟨l, hln, hsh, hbx.below (by repeat (first | exact Below.refl _ _ | apply Below.drew | apply below_drewN | apply below_al)), gb_below hgb (by repeat (first | exact Below.refl _ _ | apply Below.drew | apply below_drewN | apply below_al))⟩⟩
            case measure => simp [intOf]; omega
    · obtain rfl : k = n := by omega
      go_wp2_with fail
      go_ret
      exact ⟨rfl, HS.out⟩
set_option maxHeartbeats 1000000 in
theorem sorted_nil (w : World) : Calls Tryd.prog 41 #[.slice none 0 0] w fun e w' => e = .returned (.slice none 0 0) ∧ w = w' := by
  go_enter Tryd.func41, Tryd.ntmps41
  go_wp2_with fail
  go_loopw [7] (fun i wr => i = .int .i64 0 ∧ w = wr) (fun _ _ => 0)
  case atStart => exact ⟨rfl, rfl⟩
  case round =>
    obtain ⟨rfl, rfl⟩ := hrel
    go_wp2_with fail
    go_ret
    exact ⟨rfl, rfl⟩
end Go.Proofs.YteagecjhpfijjaaDoor

