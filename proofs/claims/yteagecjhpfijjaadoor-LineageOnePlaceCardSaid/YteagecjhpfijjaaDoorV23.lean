/-
  The walk of the reference's Small.
-/
import Derived.Test.YteagecjhpfijjaaDoorV22
namespace Go.Proofs.YteagecjhpfijjaaDoor
set_option linter.unusedSimpArgs false
set_option linter.unusedVariables false
open Go.RowKit

/-- what the form's reach says of changes -/
def CgR (ls : List Cg) : Prop := ∀ c ∈ ls, (c.es.length ≤ 3000000000000 ∧ c.rcs.length ≤ 3000000000000) ∧ (∀ x ∈ c.es, x.path.size ≤ 140737488355328 ∧ x.frm.size ≤ 140737488355328) ∧ ∀ x ∈ c.rcs, x.frm.size ≤ 140737488355328 ∧ x.dst.size ≤ 140737488355328
def shortG (c : Cg) : Prop := (∀ x ∈ c.es, edS x = true) ∧ ∀ x ∈ c.rcs, rcS x = true
/-- the answer of Small -/
def RetS (w : World) (ls : List Cg) (e : Ending) (w' : World) : Prop := ∃ q : Bool, e = .returned (.bool q) ∧ (q = true → smallL ls) ∧ Below w.heap.size w w'
theorem RetS.no {w : World} {ls : List Cg} {w' : World} (h : Below w.heap.size w w') : RetS w ls (.returned (.bool false)) w' := ⟨false, rfl, (fun h => by cases h), h⟩
theorem sumN_take {ls : List Cg} (h : CgR ls) (k : Nat) (hk : k ≤ ls.length) : sumN (ls.take k) ≤ 6000000000000 * k := by
  induction k with
  | zero => simp [sumN]
  | succ k ih =>
    obtain ⟨x, hx⟩ : ∃ x, ls[k]? = some x := ⟨_, List.getElem?_eq_getElem (by omega)⟩
    rw [sumN_snoc hx]
    have := (h x (List.mem_of_getElem? hx)).1
    have := ih (by omega)
    unfold cgN
    omega
theorem takeK' {α : Type} {P : α → Prop} {l : List α} {k : Nat} {x : α} (h : ∀ y ∈ l.take k, P y) (hx : l[k]? = some x) (hp : P x) : ∀ y ∈ l.take (k + 1), P y := fun y hy => by
  rw [List.take_add_one, hx] at hy
  rcases List.mem_append.1 hy with hy | hy
  · exact h y hy
  · have : y = x := by simpa using hy
    rw [this]; exact hp
theorem sm_nat {a : Nat} (h : decide ((a : Int) ≤ 200) = true) : a ≤ 200 := by
  have := of_decide_eq_true h
  omega
set_option maxHeartbeats 8000000 in
set_option maxRecDepth 100000 in
theorem small_any (A : Option Addr) (c : Nat) (ls : List Cg) (w : World) (h : CV w A c ls) (hr : CgR ls) :
    Calls Tryd.prog 11 #[.slice A ls.length c] w (RetS w ls) := by
  have HC := Lib.hid h
  have HR := Lib.hid hr
  have h1 := h.1
  have h2 := h.2.1
  clear h hr
  by_cases hl : ls.length ≤ 40
  · go_enter Tryd.func11, Tryd.ntmps11
    go_wp2_with fail
    go_loopw [3, 12] (fun s3 s wr => ∃ k : Nat, k ≤ ls.length ∧ s = .int .i64 k ∧ s3 = .int .i64 (sumN (ls.take k) : Nat) ∧ Hid (∀ x ∈ ls.take k, shortG x) ∧ Hid (Below w.heap.size w wr)) (fun _ s _ => ls.length - (intOf s).toNat)
    case atStart => exact ⟨0, Nat.zero_le _, rfl, rfl, Lib.hid (fun x hx => by simp at hx), Lib.hid (Below.refl _ _)⟩
    case round =>
      obtain ⟨k, hk, rfl, rfl,HSG, HB⟩ := hrel
      by_cases hlt : k < ls.length
      · obtain ⟨x, hx⟩ : ∃ x, ls[k]? = some x := ⟨_, List.getElem?_eq_getElem hlt⟩
        obtain ⟨b, o, rfl, hb1, hcc⟩ := (HC.out.below HB.out).2.2 (by omega)
        obtain ⟨C, ce, D, dr, x0, x1, x2, x3, x4, hev, hnc, hrc, hnd⟩ := hcc k x hx
        have HRX := Lib.hid (HR.out x (List.mem_of_getElem? hx))
        obtain ⟨r1, r2⟩ := HRX.out.1
        have HXK := Lib.hid hx
        have HS : At (BB w [(wr.heap.size, [.int .i64 x.n, .string x.s, .string x.t, .slice C x.es.length ce, .slice D x.rcs.length dr])]) (wr.alloc (.cells #[.int .i64 x.n, .string x.s, .string x.t, .slice C x.es.length ce, .slice D x.rcs.length dr] 52)) :=
          (BB.push (w := w) (l := []) ⟨(fun p hp => by cases hp), HB.out⟩ [.int .i64 x.n, .string x.s, .string x.t, .slice C x.es.length ce, .slice D x.rcs.length dr] 52 rfl).at_
        have e1 := hev.1
        have e2 := hev.2.1
        rw [List.length_map] at e1
        have e3 := hrc.1
        have e4 := hrc.2.1
        rw [List.length_map] at e3
        obtain ⟨hsn, HSX⟩ : sumN (ls.take k) ≤ 6000000000000 * k ∧ Hid (sumN (ls.take (k + 1)) = sumN (ls.take k) + (x.es.length + x.rcs.length)) := ⟨sumN_take HR.out k hk, Lib.hid (sumN_snoc hx)⟩
        have HEV : Hid (EV w C ce x.es) := Lib.hid (by
          obtain ⟨b', o', e', _, hc'⟩ := HC.out.2.2 (by omega)
          cases e'
          obtain ⟨C', ce', D', dr', _, _, _, q3, q4, q5, _⟩ := hc' k x hx
          have := (HB.out.cell (p := ⟨b, o + k * 5 + 3, none⟩) (cell_lt q3)).trans q3
          rw [x3] at this
          cases this
          exact q5)
        have HRC : Hid (RC w D dr x.rcs) := Lib.hid (by
          obtain ⟨b', o', e', _, hc'⟩ := HC.out.2.2 (by omega)
          cases e'
          obtain ⟨C', ce', D', dr', _, _, _, q3, q4, _, _, q6, _⟩ := hc' k x hx
          have := (HB.out.cell (p := ⟨b, o + k * 5 + 4, none⟩) (cell_lt q4)).trans q4
          rw [x4] at this
          cases this
          exact q6)
        clear hcc hx hev hnc hrc hnd
        generalize hgc : wr.heap.size = gc at *
        obtain ⟨c0, c1, c2, c3, c4⟩ := HS.out.get 0 rfl |>.c5
        have g0l := (HS.out.get 0 rfl).2.2
        go_wp2_with fail
        clear x0 x1 x2 x3 x4
        obtain ⟨wo, rfl⟩ : ∃ wo, wo = wr := ⟨wr, rfl⟩
        go_loopw [28] (fun s wr => ∃ j : Nat, j ≤ x.es.length ∧ s = .int .i64 j ∧ Hid (∀ y ∈ x.es.take j, edS y = true) ∧ Hid (BB w [(gc, [.int .i64 x.n, .string x.s, .string x.t, .slice C x.es.length ce, .slice D x.rcs.length dr])] wr)) (fun s _ => x.es.length - (intOf s).toNat)
        case atStart => exact ⟨0, Nat.zero_le _, rfl, Lib.hid (fun y hy => by simp at hy), Lib.hid (HS.go (by repeat (first | exact Below.refl _ _ | apply Below.drew | apply below_drewN | apply below_al))).out⟩
        case round =>
          clear HS c0 c1 c2 c3 c4 g0l
          obtain ⟨j, hj, rfl, HSO, HS0⟩ := hrel
          have HS := HS0.out.at_
          clear HS0
          obtain ⟨c0, c1, c2, c3, c4⟩ := HS.out.get 0 rfl |>.c5
          have g0l := (HS.out.get 0 rfl).2.2
          by_cases hjl : j < x.es.length
          · obtain ⟨y, hy⟩ : ∃ y, x.es[j]? = some y := ⟨_, List.getElem?_eq_getElem hjl⟩
            obtain ⟨b2, o2, rfl, hb2, y0, y1, y2, y3, y4, y5, y6, y7, y8, y9, y10, y11⟩ := (HEV.out.below HS.out.low).at_ hy
            obtain ⟨z1, z2⟩ := HRX.out.2.1 y (List.mem_of_getElem? hy)
            by_cases hs : y.path.size + y.frm.size ≤ 500
            · have hs1 : ¬ (500 : Int) < (y.path.size : Int) + (y.frm.size : Int) := by omega
              have HN := Lib.hid (takeK' (P := fun y => edS y = true) HSO.out hy (by unfold edS; exact decide_eq_true hs))
              clear hy hs
              go_wp2_with fail
              go_roundw
              case rel => exact ⟨j + 1, by omega, by go_num, HN, Lib.hid (HS.go (by repeat (first | exact Below.refl _ _ | apply Below.drew | apply below_drewN | apply below_al))).out⟩
              case measure => simp [intOf]; omega
            · have hs1 : (500 : Int) < (y.path.size : Int) + (y.frm.size : Int) := by omega
              clear hy hs
              go_wp2_with fail
              go_ret
              exact RetS.no (HS.go (by repeat (first | exact Below.refl _ _ | apply Below.drew | apply below_drewN | apply below_al))).out.low
          · obtain rfl : j = x.es.length := by omega
            rw [List.take_length] at HSO
            clear hjl hj
            go_wp2_with fail
            go_loopw [44] (fun s wr => ∃ j : Nat, j ≤ x.rcs.length ∧ s = .int .i64 j ∧ Hid (∀ y ∈ x.rcs.take j, rcS y = true) ∧ Hid (BB w [(gc, [.int .i64 x.n, .string x.s, .string x.t, .slice C x.es.length ce, .slice D x.rcs.length dr])] wr)) (fun s _ => x.rcs.length - (intOf s).toNat)
            case atStart => exact ⟨0, Nat.zero_le _, rfl, Lib.hid (fun y hy => by simp at hy), Lib.hid (HS.go (by repeat (first | exact Below.refl _ _ | apply Below.drew | apply below_drewN | apply below_al))).out⟩
            case round =>
              clear HS c0 c1 c2 c3 c4 g0l
              obtain ⟨j, hj, rfl, HSR, HS0⟩ := hrel
              have HS := HS0.out.at_
              clear HS0
              by_cases hjl : j < x.rcs.length
              · obtain ⟨y, hy⟩ : ∃ y, x.rcs[j]? = some y := ⟨_, List.getElem?_eq_getElem hjl⟩
                obtain ⟨b2, o2, rfl, hb2, y0, y1, y2, y3, y4, y5⟩ := (HRC.out.below HS.out.low).at_ hy
                obtain ⟨z1, z2⟩ := HRX.out.2.2 y (List.mem_of_getElem? hy)
                by_cases hs : y.frm.size + y.dst.size ≤ 500
                · have hs1 : ¬ (500 : Int) < (y.frm.size : Int) + (y.dst.size : Int) := by omega
                  have HN := Lib.hid (takeK' (P := fun y => rcS y = true) HSR.out hy (by unfold rcS; exact decide_eq_true hs))
                  clear hy hs
                  go_wp2_with fail
                  go_roundw
                  case rel => exact ⟨j + 1, by omega, by go_num, HN, Lib.hid (HS.go (by repeat (first | exact Below.refl _ _ | apply Below.drew | apply below_drewN | apply below_al))).out⟩
                  case measure => simp [intOf]; omega
                · have hs1 : (500 : Int) < (y.frm.size : Int) + (y.dst.size : Int) := by omega
                  clear hy hs
                  go_wp2_with fail
                  go_ret
                  exact RetS.no (HS.go (by repeat (first | exact Below.refl _ _ | apply Below.drew | apply below_drewN | apply below_al))).out.low
              · obtain rfl : j = x.rcs.length := by omega
                rw [List.take_length] at HSR
                clear hjl hj
                have HKN := Lib.hid (takeK' (P := shortG) HSG.out HXK.out ⟨HSO.out, HSR.out⟩)
                go_wp2_with fail
                go_roundw
                case rel => exact ⟨k + 1, by omega, by go_num, congrArg (Value.int .i64) (by rw [HSX.out]; omega), HKN, Lib.hid (HS.go (by repeat (first | exact Below.refl _ _ | apply Below.drew | apply below_drewN | apply below_al))).out.low⟩
                case measure => simp [intOf]; omega
      · obtain rfl : k = ls.length := by omega
        rw [List.take_length] at HSG
        go_wp2_with fail
        go_ret
        exact ⟨_, rfl, fun hq => ⟨HSG.out, hl, (sm_nat hq)⟩, HB.out⟩
  · go_enter Tryd.func11, Tryd.ntmps11
    go_wp2_with fail
    go_loopw [3, 12] (fun s3 s wr => ∃ (k : Nat) (z : Int), k ≤ ls.length ∧ s = .int .i64 k ∧ s3 = .int .i64 z ∧ Hid (∀ x ∈ ls.take k, shortG x) ∧ Hid (Below w.heap.size w wr)) (fun _ s _ => ls.length - (intOf s).toNat)
    case atStart => exact ⟨0, 0, Nat.zero_le _, rfl, rfl, Lib.hid (fun x hx => by simp at hx), Lib.hid (Below.refl _ _)⟩
    case round =>
      obtain ⟨k, z,hk, rfl, rfl,HSG, HB⟩ := hrel
      by_cases hlt : k < ls.length
      · obtain ⟨x, hx⟩ : ∃ x, ls[k]? = some x := ⟨_, List.getElem?_eq_getElem hlt⟩
        obtain ⟨b, o, rfl, hb1, hcc⟩ := (HC.out.below HB.out).2.2 (by omega)
        obtain ⟨C, ce, D, dr, x0, x1, x2, x3, x4, hev, hnc, hrc, hnd⟩ := hcc k x hx
        have HRX := Lib.hid (HR.out x (List.mem_of_getElem? hx))
        obtain ⟨r1, r2⟩ := HRX.out.1
        have HXK := Lib.hid hx
        have HS : At (BB w [(wr.heap.size, [.int .i64 x.n, .string x.s, .string x.t, .slice C x.es.length ce, .slice D x.rcs.length dr])]) (wr.alloc (.cells #[.int .i64 x.n, .string x.s, .string x.t, .slice C x.es.length ce, .slice D x.rcs.length dr] 52)) :=
          (BB.push (w := w) (l := []) ⟨(fun p hp => by cases hp), HB.out⟩ [.int .i64 x.n, .string x.s, .string x.t, .slice C x.es.length ce, .slice D x.rcs.length dr] 52 rfl).at_
        have e1 := hev.1
        have e2 := hev.2.1
        rw [List.length_map] at e1
        have e3 := hrc.1
        have e4 := hrc.2.1
        rw [List.length_map] at e3
        skip
        have HEV : Hid (EV w C ce x.es) := Lib.hid (by
          obtain ⟨b', o', e', _, hc'⟩ := HC.out.2.2 (by omega)
          cases e'
          obtain ⟨C', ce', D', dr', _, _, _, q3, q4, q5, _⟩ := hc' k x hx
          have := (HB.out.cell (p := ⟨b, o + k * 5 + 3, none⟩) (cell_lt q3)).trans q3
          rw [x3] at this
          cases this
          exact q5)
        have HRC : Hid (RC w D dr x.rcs) := Lib.hid (by
          obtain ⟨b', o', e', _, hc'⟩ := HC.out.2.2 (by omega)
          cases e'
          obtain ⟨C', ce', D', dr', _, _, _, q3, q4, _, _, q6, _⟩ := hc' k x hx
          have := (HB.out.cell (p := ⟨b, o + k * 5 + 4, none⟩) (cell_lt q4)).trans q4
          rw [x4] at this
          cases this
          exact q6)
        clear hcc hx hev hnc hrc hnd
        generalize hgc : wr.heap.size = gc at *
        obtain ⟨c0, c1, c2, c3, c4⟩ := HS.out.get 0 rfl |>.c5
        have g0l := (HS.out.get 0 rfl).2.2
        go_wp2_with fail
        clear x0 x1 x2 x3 x4
        obtain ⟨wo, rfl⟩ : ∃ wo, wo = wr := ⟨wr, rfl⟩
        go_loopw [28] (fun s wr => ∃ j : Nat, j ≤ x.es.length ∧ s = .int .i64 j ∧ Hid (∀ y ∈ x.es.take j, edS y = true) ∧ Hid (BB w [(gc, [.int .i64 x.n, .string x.s, .string x.t, .slice C x.es.length ce, .slice D x.rcs.length dr])] wr)) (fun s _ => x.es.length - (intOf s).toNat)
        case atStart => exact ⟨0, Nat.zero_le _, rfl, Lib.hid (fun y hy => by simp at hy), Lib.hid (HS.go (by repeat (first | exact Below.refl _ _ | apply Below.drew | apply below_drewN | apply below_al))).out⟩
        case round =>
          clear HS c0 c1 c2 c3 c4 g0l
          obtain ⟨j, hj, rfl, HSO, HS0⟩ := hrel
          have HS := HS0.out.at_
          clear HS0
          obtain ⟨c0, c1, c2, c3, c4⟩ := HS.out.get 0 rfl |>.c5
          have g0l := (HS.out.get 0 rfl).2.2
          by_cases hjl : j < x.es.length
          · obtain ⟨y, hy⟩ : ∃ y, x.es[j]? = some y := ⟨_, List.getElem?_eq_getElem hjl⟩
            obtain ⟨b2, o2, rfl, hb2, y0, y1, y2, y3, y4, y5, y6, y7, y8, y9, y10, y11⟩ := (HEV.out.below HS.out.low).at_ hy
            obtain ⟨z1, z2⟩ := HRX.out.2.1 y (List.mem_of_getElem? hy)
            by_cases hs : y.path.size + y.frm.size ≤ 500
            · have hs1 : ¬ (500 : Int) < (y.path.size : Int) + (y.frm.size : Int) := by omega
              have HN := Lib.hid (takeK' (P := fun y => edS y = true) HSO.out hy (by unfold edS; exact decide_eq_true hs))
              clear hy hs
              go_wp2_with fail
              go_roundw
              case rel => exact ⟨j + 1, by omega, by go_num, HN, Lib.hid (HS.go (by repeat (first | exact Below.refl _ _ | apply Below.drew | apply below_drewN | apply below_al))).out⟩
              case measure => simp [intOf]; omega
            · have hs1 : (500 : Int) < (y.path.size : Int) + (y.frm.size : Int) := by omega
              clear hy hs
              go_wp2_with fail
              go_ret
              exact RetS.no (HS.go (by repeat (first | exact Below.refl _ _ | apply Below.drew | apply below_drewN | apply below_al))).out.low
          · obtain rfl : j = x.es.length := by omega
            rw [List.take_length] at HSO
            clear hjl hj
            go_wp2_with fail
            go_loopw [44] (fun s wr => ∃ j : Nat, j ≤ x.rcs.length ∧ s = .int .i64 j ∧ Hid (∀ y ∈ x.rcs.take j, rcS y = true) ∧ Hid (BB w [(gc, [.int .i64 x.n, .string x.s, .string x.t, .slice C x.es.length ce, .slice D x.rcs.length dr])] wr)) (fun s _ => x.rcs.length - (intOf s).toNat)
            case atStart => exact ⟨0, Nat.zero_le _, rfl, Lib.hid (fun y hy => by simp at hy), Lib.hid (HS.go (by repeat (first | exact Below.refl _ _ | apply Below.drew | apply below_drewN | apply below_al))).out⟩
            case round =>
              clear HS c0 c1 c2 c3 c4 g0l
              obtain ⟨j, hj, rfl, HSR, HS0⟩ := hrel
              have HS := HS0.out.at_
              clear HS0
              by_cases hjl : j < x.rcs.length
              · obtain ⟨y, hy⟩ : ∃ y, x.rcs[j]? = some y := ⟨_, List.getElem?_eq_getElem hjl⟩
                obtain ⟨b2, o2, rfl, hb2, y0, y1, y2, y3, y4, y5⟩ := (HRC.out.below HS.out.low).at_ hy
                obtain ⟨z1, z2⟩ := HRX.out.2.2 y (List.mem_of_getElem? hy)
                by_cases hs : y.frm.size + y.dst.size ≤ 500
                · have hs1 : ¬ (500 : Int) < (y.frm.size : Int) + (y.dst.size : Int) := by omega
                  have HN := Lib.hid (takeK' (P := fun y => rcS y = true) HSR.out hy (by unfold rcS; exact decide_eq_true hs))
                  clear hy hs
                  go_wp2_with fail
                  go_roundw
                  case rel => exact ⟨j + 1, by omega, by go_num, HN, Lib.hid (HS.go (by repeat (first | exact Below.refl _ _ | apply Below.drew | apply below_drewN | apply below_al))).out⟩
                  case measure => simp [intOf]; omega
                · have hs1 : (500 : Int) < (y.frm.size : Int) + (y.dst.size : Int) := by omega
                  clear hy hs
                  go_wp2_with fail
                  go_ret
                  exact RetS.no (HS.go (by repeat (first | exact Below.refl _ _ | apply Below.drew | apply below_drewN | apply below_al))).out.low
              · obtain rfl : j = x.rcs.length := by omega
                rw [List.take_length] at HSR
                clear hjl hj
                have HKN := Lib.hid (takeK' (P := shortG) HSG.out HXK.out ⟨HSO.out, HSR.out⟩)
                go_wp2_with fail
                go_roundw
                case rel => exact ⟨k + 1, _, by omega, by go_num, rfl, HKN, Lib.hid (HS.go (by repeat (first | exact Below.refl _ _ | apply Below.drew | apply below_drewN | apply below_al))).out.low⟩
                case measure => simp [intOf]; omega
      · obtain rfl : k = ls.length := by omega
        rw [List.take_length] at HSG
        go_wp2_with fail
        go_ret
        exact RetS.no HB.out
end Go.Proofs.YteagecjhpfijjaaDoor

