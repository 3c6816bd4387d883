/-
  The walks of MatchPart, split, and Match.
-/
import Derived.Test.YtidjmbmnfnnleaaDoorQ3
import Derived.Test.YtidjmbmnfnnleaaDoorMA
namespace Go.Proofs.YtidjmbmnfnnleaaDoor
set_option linter.unusedSimpArgs false
set_option linter.unusedVariables false
open Go.RowKit
open Pm

/-- what MatchPart hands back -/
def mpCap (p x : ByteArray) : ByteArray := if stB p = true then mkB (Lib.trimSuffix x.data.toList (tlB p).data.toList) else ⟨#[]⟩
def mpOk (p x : ByteArray) : Bool := if stB p = true then Lib.hasSuffix x.data.toList (tlB p).data.toList && !(Lib.trimSuffix x.data.toList (tlB p).data.toList).isEmpty else decide (p = x)

theorem text_eqB (x y : ByteArray) : (x.toList == y.toList) = decide (x = y) := by
  rw [Bool.eq_iff_iff, beq_iff_eq, decide_eq_true_iff, Lib.toList_data, Lib.toList_data]
  exact ⟨fun e => by rw [← mkB_back x, ← mkB_back y, e], fun e => by rw [e]⟩
theorem stB_pos {x : ByteArray} (h : stB x = true) : 0 < x.size := by
  apply Classical.byContradiction
  intro k
  rw [stB_nil (by omega)] at h
  cases h

set_option maxHeartbeats 1000000 in
theorem matchPart_any (p x : ByteArray) (w : World) (hx : x.size ≤ 9223372036854775807) :
    Calls Tryd.prog 78 #[.string p, .string x] w fun e w' => e = .returned (.tuple #[.string (mpCap p x), .bool (mpOk p x)]) ∧ w = w' := by
  cases hst : stB p with
  | false =>
    have HC : Hid (mpCap p x = ⟨#[]⟩) := Lib.hid (by unfold mpCap; rw [hst]; rfl)
    have HO : Hid ((p.toList == x.toList) = mpOk p x) := Lib.hid (by unfold mpOk; rw [hst, text_eqB]; rfl)
    go_enter Tryd.func78, Tryd.ntmps78
    go_wp2_with (go_at_call 63; refine (isStar_any _ _).mono ?_; rintro e w' ⟨rfl, rfl⟩)
    go_ret2
    exact ⟨ret_sb HC.out.symm HO.out, rfl⟩
  | true =>
    have hpos := stB_pos hst
    have HC : Hid (mpCap p x = mkB (Lib.trimSuffix x.data.toList (tlB p).data.toList)) := Lib.hid (by unfold mpCap; rw [if_pos hst])
    have HO : Hid (mpOk p x = (Lib.hasSuffix x.data.toList (tlB p).data.toList && !(mkB (Lib.trimSuffix x.data.toList (tlB p).data.toList)).toList.isEmpty)) := Lib.hid (by unfold mpOk; rw [if_pos hst, Lib.toList_data, mkB_data])
    have HCUT : Hid (Calls Tryd.prog 95 #[.string x, .string (p.extract 1 p.size)] w fun e w' => e = .returned (.tuple #[.string (mkB (Lib.trimSuffix x.data.toList (tlB p).data.toList)), .bool (Lib.hasSuffix x.data.toList (tlB p).data.toList)]) ∧ w = w') := Lib.hid (cutSuffix_any x (tlB p) w hx)
    generalize mkB (Lib.trimSuffix x.data.toList (tlB p).data.toList) = t at *
    generalize Lib.hasSuffix x.data.toList (tlB p).data.toList = b at *
    cases b with
    | false =>
      go_enter Tryd.func78, Tryd.ntmps78
      go_wp2_with (first
        | (go_at_call 63; refine (isStar_any _ _).mono ?_; rintro e w' ⟨rfl, rfl⟩)
        | (go_at_call 95; refine HCUT.out.mono ?_; rintro e w' ⟨rfl, rfl⟩))
      go_ret2
      exact ⟨ret_sb HC.out.symm (by rw [HO.out]; rfl), rfl⟩
    | true =>
      cases he : t.toList.isEmpty <;>
      · go_enter Tryd.func78, Tryd.ntmps78
        go_wp2_with (first
          | (go_at_call 63; refine (isStar_any _ _).mono ?_; rintro e w' ⟨rfl, rfl⟩)
          | (go_at_call 95; refine HCUT.out.mono ?_; rintro e w' ⟨rfl, rfl⟩))
        go_ret2
        exact ⟨ret_sb HC.out.symm (by rw [HO.out, he]; rfl), rfl⟩

set_option maxHeartbeats 400000 in
theorem split_ret (s : ByteArray) (w : World) (hs : s.size ≤ 1000000) (hm : ML w) :
    Calls Tryd.prog 77 #[.string s] w (RetC w (compsB s) (pathOk s.data.toList)) := by
  cases hv : pathOk s.data.toList with
  | true =>
    have HC := Lib.hid (psplit_yes s w hs hm hv)
    clear hm
    go_enter Tryd.func77, Tryd.ntmps77
    go_wp2_with (go_at_call 94; refine HC.out.mono ?_; rintro e w1 ⟨A, c, rfl, hr, hb⟩)
    go_ret2
    exact ⟨fun _ => ⟨_, _, rfl, hr, hb⟩, fun h => by cases h⟩
  | false =>
    have HC := Lib.hid (psplit_no s w hs hm hv)
    clear hm
    go_enter Tryd.func77, Tryd.ntmps77
    go_wp2_with (go_at_call 94; refine HC.out.mono ?_; rintro e w1 ⟨rfl, hb⟩)
    go_ret2
    exact ⟨fun h => (by cases h), fun _ => ⟨rfl, hb⟩⟩

/-- captures of pairs of a part and a component -/
def capsOf (st : ByteArray → Bool) (f : ByteArray → ByteArray → ByteArray) (zs : List (ByteArray × ByteArray)) : List ByteArray := (zs.filter (fun p => st p.1)).map (fun p => f p.1 p.2)
def okOf (g : ByteArray → ByteArray → Bool) (zs : List (ByteArray × ByteArray)) : Bool := zs.all (fun p => g p.1 p.2)
theorem caps_step {st : ByteArray → Bool} {f : ByteArray → ByteArray → ByteArray} {zs : List (ByteArray × ByteArray)} {k : Nat} {z : ByteArray × ByteArray} (h : zs[k]? = some z) :
    capsOf st f (zs.take (k + 1)) = capsOf st f (zs.take k) ++ (if st z.1 = true then [f z.1 z.2] else []) := by
  unfold capsOf
  rw [List.take_add_one, h, List.filter_append, List.map_append]
  refine congrArg _ ?_
  by_cases hz : st z.1 = true
  · rw [if_pos hz]; simp [hz]
  · rw [if_neg hz]; simp [hz]
theorem ok_step {g : ByteArray → ByteArray → Bool} {zs : List (ByteArray × ByteArray)} {k : Nat} {z : ByteArray × ByteArray} (h : zs[k]? = some z) (h1 : okOf g (zs.take k) = true) (h2 : g z.1 z.2 = true) : okOf g (zs.take (k + 1)) = true := by
  unfold okOf at h1 ⊢
  rw [List.take_add_one, h, List.all_append, h1]
  simp [h2]
theorem ok_miss {g : ByteArray → ByteArray → Bool} {zs : List (ByteArray × ByteArray)} {k : Nat} {z : ByteArray × ByteArray} (h : zs[k]? = some z) (h2 : g z.1 z.2 = false) : okOf g zs = false := by
  unfold okOf
  rw [Bool.eq_false_iff]
  intro hh
  have := List.all_eq_true.1 hh z (List.mem_of_getElem? h)
  rw [h2] at this
  cases this
theorem zip_get {xs ys : List ByteArray} {k : Nat} {x y : ByteArray} (hx : xs[k]? = some x) (hy : ys[k]? = some y) : (xs.zip ys)[k]? = some (x, y) := by
  rw [List.getElem?_zip_eq_some]
  exact ⟨hx, hy⟩

/-- n parts, m components -/
def lensOk (n m : Nat) (r : Bool) : Bool := !decide (m < n) && (decide (n < m) == r)
def matchOk (g : ByteArray → ByteArray → Bool) (xs : List ByteArray) (r : Bool) (s : ByteArray) : Bool :=
  pathOk s.data.toList && (checkP xs r == 0) && lensOk xs.length (compsB s).length r && okOf g (xs.zip (compsB s))
def restL (xs : List ByteArray) (r : Bool) (s : ByteArray) : List ByteArray := if r = true then [joinT ((compsB s).drop xs.length)] else []
def capsB (st : ByteArray → Bool) (f : ByteArray → ByteArray → ByteArray) (xs : List ByteArray) (r : Bool) (s : ByteArray) : List ByteArray :=
  capsOf st f (xs.zip (compsB s)) ++ restL xs r s

theorem RT.drop {w : World} {b o c : Nat} {xs : List ByteArray} (h : RT w (some ⟨b, o, none⟩) c xs) (k : Nat) (hk : k ≤ xs.length) : RT w (some ⟨b, o + k, none⟩) (c - k) (xs.drop k) := by
  refine ⟨by rw [List.length_drop]; have := h.1; omega, by have := h.2.1; omega, fun h0 => ?_⟩
  rw [List.length_drop] at h0
  obtain ⟨b', o', e, hlt, hc⟩ := h.2.2 (by omega)
  cases e
  refine ⟨b, o + k, rfl, hlt, fun j x hx => ?_⟩
  rw [List.getElem?_drop] at hx
  rw [show o + k + j = o + (k + j) by omega]
  exact hc _ x hx
theorem OT.own {w : World} {base : Nat} {v : Value} {xs : List ByteArray} (h : OT w base v xs) : ∀ k, v.ownBlock = some k → base ≤ k := by
  rcases h.2 with ⟨rfl, _⟩ | ⟨g, cap, cur, rfl, hbg, _⟩
  · intro k hk
    simp [Value.ownBlock] at hk
  · intro k hk
    simp [Value.ownBlock] at hk
    omega
theorem RT.one (w : World) (x : ByteArray) (t : TypeId) : RT (w.alloc (.cells #[.string x] t)) (some ⟨w.heap.size, 0, none⟩) 1 [x] :=
  ⟨Nat.le_refl _, by omega, fun _ => ⟨w.heap.size, 0, rfl, by simp, fun j y hy => by
    rcases j with _ | j
    · simp at hy
      subst hy
      simp [World.cell?_alloc_new]
    · simp at hy⟩⟩
theorem OT.below {w w' : World} {base : Nat} {v : Value} {xs : List ByteArray} (h : OT w base v xs) (hb : Below w.heap.size w w') : OT w' base v xs := by
  refine ⟨h.1, ?_⟩
  rcases h.2 with ⟨rfl, hn⟩ | ⟨g, cap, cur, rfl, hbg, hh, hrest⟩
  · exact .inl ⟨rfl, hn⟩
  · refine .inr ⟨g, cap, cur, rfl, hbg, ?_, hrest⟩
    rw [hb.block g ?_]
    · exact hh
    · rcases Nat.lt_or_ge g w.heap.size with h1 | h1
      · exact h1
      · rw [Array.getElem?_eq_none h1] at hh; cases hh

theorem join_small {s : ByteArray} (hs : s.size ≤ 5000) (k : Nat) : (Lib.join (datj ((compsB s).drop k)) [47]).length ≤ 100000000 := by
  have h1 : ∀ x ∈ (compsB s).drop k, x.size ≤ 5000 := fun x hx => by
    have := compsB_size s x (List.mem_of_mem_drop hx)
    omega
  have h2 := join_le h1
  have h3 := compsB_len s
  have h4 : ((compsB s).drop k).length ≤ 5001 := by rw [List.length_drop]; omega
  have h5 : ((compsB s).drop k).length * (5000 + 1) ≤ 5001 * (5000 + 1) := Nat.mul_le_mul_right _ h4
  omega
end Go.Proofs.YtidjmbmnfnnleaaDoor

