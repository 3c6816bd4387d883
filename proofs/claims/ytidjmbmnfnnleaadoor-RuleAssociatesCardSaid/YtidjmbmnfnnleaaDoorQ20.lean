/-
  Intersections of patterns: plain words, rows of the call's own that are written, Clone, meetPart, compatible.
-/
import Derived.Test.YtidjmbmnfnnleaaDoorQ15
import Derived.Test.YtidjmbmnfnnleaaDoorK
namespace Go.Proofs.YtidjmbmnfnnleaaDoor
set_option linter.unusedSimpArgs false
set_option linter.unusedVariables false
open Go.RowKit
open Pm

/-- the narrower one of two parts -/
def nrw (a b : ByteArray) : ByteArray := if insB a b = true then a else if insB b a = true then b else ⟨#[]⟩
def nrwOk (a b : ByteArray) : Bool := insB a b || insB b a
/-- numbers of components that fit -/
def compatB (n : Nat) (r : Bool) (m : Nat) (t : Bool) : Bool := if r = true then (if t = true then true else decide (n < m)) else (if t = true then decide (m < n) else decide (n = m))
/-- the first k parts narrowed, the others as they are -/
def mz (us vs : List ByteArray) (k : Nat) : List ByteArray := ((us.zip vs).take k).map (fun p => nrw p.1 p.2) ++ us.drop k
def mzAll (us vs : List ByteArray) : List ByteArray := (us.zip vs).map (fun p => nrw p.1 p.2) ++ us.drop vs.length
/-- the intersection -/
def meetOk (xs ys : List ByteArray) (r t : Bool) : Bool := (checkP xs r == 0) && (checkP ys t == 0) && compatB xs.length r ys.length t && (if xs.length < ys.length then okOf nrwOk (ys.zip xs) else okOf nrwOk (xs.zip ys))
def meetL (xs ys : List ByteArray) : List ByteArray := if xs.length < ys.length then mzAll ys xs else mzAll xs ys

theorem mz_zero (us vs : List ByteArray) : mz us vs 0 = us := by simp [mz]
theorem mz_len {us vs : List ByteArray} {k : Nat} (hk : k ≤ vs.length) (hl : vs.length ≤ us.length) : (mz us vs k).length = us.length := by
  unfold mz
  rw [List.length_append, List.length_map, List.length_take, List.length_zip, List.length_drop]
  omega
theorem mz_at {us vs : List ByteArray} {k : Nat} {x : ByteArray} (hk : k < vs.length) (hx : us[k]? = some x) : (mz us vs k)[k]? = some x := by
  have hlu := (List.getElem?_eq_some_iff.1 hx).1
  have hl : (((us.zip vs).take k).map (fun p => nrw p.1 p.2)).length = k := by rw [List.length_map, List.length_take, List.length_zip]; omega
  unfold mz
  rw [List.getElem?_append_right (by omega), hl, Nat.sub_self, List.getElem?_drop]
  exact hx
theorem mz_step {us vs : List ByteArray} {k : Nat} {x y : ByteArray} (hx : us[k]? = some x) (hy : vs[k]? = some y) : (mz us vs k).set k (nrw x y) = mz us vs (k + 1) := by
  have hlu := (List.getElem?_eq_some_iff.1 hx).1
  have hlv := (List.getElem?_eq_some_iff.1 hy).1
  have hl : (((us.zip vs).take k).map (fun p => nrw p.1 p.2)).length = k := by rw [List.length_map, List.length_take, List.length_zip]; omega
  have hd : us.drop k = x :: us.drop (k + 1) := by
    obtain ⟨h1, h2⟩ := List.getElem?_eq_some_iff.1 hx
    rw [List.drop_eq_getElem_cons h1, h2]
  unfold mz
  rw [List.set_append_right _ _ (by omega), hl, Nat.sub_self, hd, List.set_cons_zero, List.take_add_one, zip_get hx hy, List.map_append]
  simp
theorem mz_full {us vs : List ByteArray} {k : Nat} (hk : vs.length ≤ k) (hl : vs.length ≤ us.length) (hk2 : k ≤ vs.length) : mz us vs k = mzAll us vs := by
  have : k = vs.length := by omega
  subst this
  unfold mz mzAll
  rw [List.take_of_length_le (by rw [List.length_zip]; omega)]
theorem mzAll_len {us vs : List ByteArray} (hl : vs.length ≤ us.length) : (mzAll us vs).length = us.length := by
  rw [← mz_full (Nat.le_refl _) hl (Nat.le_refl _)]
  exact mz_len (Nat.le_refl _) hl

/-- a store into a row of the call's own -/
theorem OT.set {w : World} {base g n cap : Nat} {xs : List ByteArray} (h : OT w base (.slice (some ⟨g, 0, none⟩) n cap) xs) {k : Nat} (hk : k < xs.length) (y : ByteArray) :
    OT (w.setCell ⟨g, k, none⟩ (.string y)) base (.slice (some ⟨g, 0, none⟩) n cap) (xs.set k y) := by
  obtain ⟨hl, h⟩ := h
  rcases h with ⟨e, _⟩ | ⟨g', cap', cur, e, hbg, hh, hnc, hcm, hcs, htk⟩
  · cases e
  · cases e
    refine ⟨by simp, .inr ⟨g, cap, cur.setIfInBounds k (.string y), ?_, hbg, heap_setCell_same w g k cur _ (.string y) hh, ?_, hcm, by simpa using hcs, ?_⟩⟩
    · rw [List.length_set]
    · rw [List.length_set]; exact hnc
    · rw [List.length_set, Array.toList_setIfInBounds, List.map_set, ← htk, List.take_set]
theorem OT.cell {w : World} {base g n cap : Nat} {xs : List ByteArray} (h : OT w base (.slice (some ⟨g, 0, none⟩) n cap) xs) {k : Nat} {x : ByteArray} (hx : xs[k]? = some x) :
    w.cell? ⟨g, k, none⟩ = some (.string x) ∧ w.frozen? ⟨g, k, none⟩ = false ∧ base ≤ g ∧ g < w.heap.size ∧ n = xs.length ∧ n ≤ cap ∧ cap ≤ 9223372036854775807 := by
  obtain ⟨hl, h⟩ := h
  rcases h with ⟨e, _⟩ | ⟨g', cap', cur, e, hbg, hh, hnc, hcm, hcs, htk⟩
  · cases e
  · cases e
    have hj : k < xs.length := (List.getElem?_eq_some_iff.1 hx).1
    have e : (xs.map Value.string)[k]? = some (.string x) := by rw [List.getElem?_map, hx]; rfl
    rw [← htk, List.getElem?_take, if_pos (by omega)] at e
    refine ⟨?_, frozen_of_row w g k cur _ hh, hbg, ?_, rfl, hnc, by simpa [maxLen] using hcm⟩
    · rw [cell_of_row w g k cur _ (0, 0) hh]
      simpa using e
    · rcases Nat.lt_or_ge g w.heap.size with h1 | h1
      · exact h1
      · rw [Array.getElem?_eq_none h1] at hh; cases hh
theorem OT.block {w : World} {base : Nat} {v : Value} {xs : List ByteArray} (h : OT w base v xs) (h0 : 0 < xs.length) : ∃ g cap, v = .slice (some ⟨g, 0, none⟩) xs.length cap ∧ base ≤ g ∧ g < w.heap.size ∧ xs.length ≤ cap ∧ cap ≤ 9223372036854775807 := by
  rcases h.2 with ⟨e, hn⟩ | ⟨g, cap, cur, e, hbg, hh, hnc, hcm, hcs, htk⟩
  · omega
  · refine ⟨g, cap, e, hbg, ?_, hnc, by simpa [maxLen] using hcm⟩
    rcases Nat.lt_or_ge g w.heap.size with h1 | h1
    · exact h1
    · rw [Array.getElem?_eq_none h1] at hh; cases hh
/-- a store elsewhere leaves a row of the call's own -/
theorem OT.other {w : World} {base : Nat} {v : Value} {xs : List ByteArray} (h : OT w base v xs) {p : Addr} (hp : p.block < base) (u : Value) : OT (w.setCell p u) base v xs := by
  refine ⟨h.1, ?_⟩
  rcases h.2 with ⟨rfl, hn⟩ | ⟨g, cap, cur, rfl, hbg, hh, hrest⟩
  · exact .inl ⟨rfl, hn⟩
  · refine .inr ⟨g, cap, cur, rfl, hbg, ?_, hrest⟩
    rw [heap_setCell_other _ _ _ _ (by omega)]
    exact hh
theorem OT.made (w : World) (base : Nat) (hb : base ≤ w.heap.size) : OT (w.alloc (.cells #[] 9)) base (.slice (some ⟨w.heap.size, 0, none⟩) 0 0) [] :=
  World.ownsRow_made w #[] 0 hb (Nat.zero_le _) rfl

set_option maxHeartbeats 400000 in
theorem clone_any (A : Option Addr) (c : Nat) (xs : List ByteArray) (w : World) (h : RT w A c xs) (h0 : 0 < xs.length) (hl : xs.length ≤ 100000) :
    Calls Tryd.prog 62 #[.slice A xs.length c] w fun e w' => ∃ g d, e = .returned (.slice (some ⟨g, 0, none⟩) xs.length d) ∧ OT w' w.heap.size (.slice (some ⟨g, 0, none⟩) xs.length d) xs ∧ Below w.heap.size w w' := by
  have h1 := h.1
  have h2 := h.2.1
  obtain ⟨b, o, rfl, hb, hc⟩ := h.2.2 h0
  have HX := Lib.hid h
  clear h hc
  have hq := fun (W : World) => Lib.run_eql_slice_nil (P := Tryd.prog) W 22 9 (some ⟨b, o, none⟩) xs.length c 0 0 Tryd.underlying22
  go_enter Tryd.func62, Tryd.ntmps62
  go_wp2_with (at_builtin; (refine wpList_append_texts rfl _ _ rfl w.heap.size _ [] xs _ c rfl rfl (OT.made w _ (Nat.le_refl _)) (HX.out.below (below_alloc _ _)) (by simp; omega) (by simp) ?_; intro v1 w3 hown hg _; have HBL := Lib.hid ((below_alloc w _).grown hg (by simp) (fun k hk => by cases hk; exact Nat.le_refl _)); rw [List.nil_append] at hown; have HO := Lib.hid hown; obtain ⟨g, cap, rfl, hg1, hg2, hg3, hg4⟩ := hown.block h0; clear hown hg))
  go_ret
  exact ⟨g, cap, rfl, HO.out, HBL.out⟩

set_option maxHeartbeats 400000 in
theorem meetPart_any (a b : ByteArray) (w : World) (ha : a.size ≤ 9223372036854775807) (hb : b.size ≤ 9223372036854775807) :
    Calls Tryd.prog 67 #[.string a, .string b] w fun e w' => e = .returned (.tuple #[.string (nrw a b), .bool (nrwOk a b)]) ∧ Below w.heap.size w w' := by
  have HN : Hid (nrw a b = if insB a b = true then a else if insB b a = true then b else ⟨#[]⟩) := Lib.hid rfl
  have HK : Hid (nrwOk a b = (insB a b || insB b a)) := Lib.hid rfl
  have H1 := Lib.hid (fun W => partWithin_any a b W ha hb)
  have H2 := Lib.hid (fun W => partWithin_any b a W hb ha)
  rw [HN.out, HK.out]
  generalize insB a b = p at *
  generalize insB b a = q at *
  cases p with
  | true =>
    go_enter Tryd.func67, Tryd.ntmps67
    go_wp2_with (go_at_call_of 86 (Value.string a); refine (H1.out _).mono ?_; rintro e w1 ⟨rfl, hb1⟩)
    go_ret2
    exact ⟨rfl, hb1⟩
  | false =>
    cases q <;>
    · go_enter Tryd.func67, Tryd.ntmps67
      go_wp2_with (first
        | (go_at_call_of 86 (Value.string a); ((with_reducible refine (H1.out _).mono ?_); rintro e w1 ⟨rfl, hb1⟩))
        | (go_at_call_of 86 (Value.string b); ((with_reducible refine (H2.out _).mono ?_); rintro e w2 ⟨rfl, hb2⟩)))
      go_ret2
      exact ⟨rfl, hb1.trans (hb2.mono hb1.size)⟩

set_option maxHeartbeats 400000 in
theorem compatible_any (n m : Nat) (r t : Bool) (w : World) :
    Calls Tryd.prog 66 #[.int .i64 n, .bool r, .int .i64 m, .bool t] w fun e w' => e = .returned (.bool (compatB n r m t)) ∧ w = w' := by
  have HK : Hid (compatB n r m t = if r = true then (if t = true then true else decide (n < m)) else (if t = true then decide (m < n) else decide (n = m))) := Lib.hid rfl
  rw [HK.out]
  cases r <;> cases t <;>
  · go_enter Tryd.func66, Tryd.ntmps66
    go_wp2_with fail
    go_ret
    exact ⟨ret_bool (by first | rfl | (rw [Bool.eq_iff_iff]; simp <;> omega) | simp), rfl⟩
end Go.Proofs.YtidjmbmnfnnleaaDoor

