/-
  Rows of one-cell values of the call's own; worlds in which one block has turned; the numbers of lists of lines.
-/
import Derived.Test.YtfhkmmicdbblnaaDoorM3
import Derived.Test.YtfhkmmicdbblnaaDoorM2
import Derived.Laws.OwnMore
namespace Go.Proofs.YtfhkmmicdbblnaaDoor
set_option linter.unusedSimpArgs false
set_option linter.unusedVariables false
open Go.RowKit Go.WideShapes Go.Maps

/-- v is a row of the call's own and holds one-cell values -/
def OV (w : World) (base : Nat) (E : TypeId) (v : Value) (vs : List Value) : Prop := w.ownsRow base E 1 v vs.length vs
theorem OV.own {w : World} {base : Nat} {E : TypeId} {v : Value} {vs : List Value} (h : OV w base E v vs) : ∀ k, v.ownBlock = some k → base ≤ k ∧ k < w.heap.size := h.lt
theorem OV.below {w w' : World} {base : Nat} {E : TypeId} {v : Value} {vs : List Value} (h : OV w base E v vs) (hb : Below w.heap.size w w') : OV w' base E v vs := by
  refine ⟨h.1, ?_⟩
  rcases h.2 with ⟨rfl, hn⟩ | ⟨g, cap, cur, rfl, hbg, hh, hrest⟩
  · exact .inl ⟨rfl, hn⟩
  · refine .inr ⟨g, cap, cur, rfl, hbg, ?_, hrest⟩
    rw [hb.block g (Array.getElem?_eq_some_iff.1 hh).1]
    exact hh
theorem OV.grown {w w' : World} {base : Nat} {E : TypeId} {v : Value} {vs : List Value} {k : Option Nat} (h : OV w base E v vs) (hg : w.grownBy w' k) (hne : v.ownBlock = none ∨ v.ownBlock ≠ k) : OV w' base E v vs := World.ownsRow.kept h hg hne
theorem OV.other {w : World} {base : Nat} {E : TypeId} {v : Value} {vs : List Value} (h : OV w base E v vs) {p : Addr} (hp : v.ownBlock ≠ some p.block) (u : Value) : OV (w.setCell p u) base E v vs := by
  refine ⟨h.1, ?_⟩
  rcases h.2 with ⟨rfl, hn⟩ | ⟨g, cap, cur, rfl, hbg, hh, hrest⟩
  · exact .inl ⟨rfl, hn⟩
  · refine .inr ⟨g, cap, cur, rfl, hbg, ?_, hrest⟩
    rw [heap_setCell_other _ _ _ _ (by intro e; exact hp (by rw [← e]; rfl))]
    exact hh
theorem OV.made (w : World) (base : Nat) (E : TypeId) (z : Value) (n : Nat) (hb : base ≤ w.heap.size) (hm : n ≤ 9223372036854775807) {g : Nat} (hg : g = w.heap.size) : OV (w.alloc (.cells (madeCells #[z] n) E)) base E (.slice (some ⟨g, 0, none⟩) n n) (List.replicate n z) := by
  subst hg
  have h := World.ownsRow_lit (e := E) (size := 1) (base := base) w (madeCells #[z] n) n hb (by simpa [maxLen] using hm) (by rw [size_madeCells, Nat.mul_one])
  rw [toList_madeCells_one] at h
  unfold OV
  rw [List.length_replicate]
  exact h
theorem OV.form {w : World} {base : Nat} {E : TypeId} {g n cap : Nat} {vs : List Value} (h : OV w base E (.slice (some ⟨g, 0, none⟩) n cap) vs) :
    ∃ cur, w.heap[g]? = some (.cells cur E (0, 0)) ∧ base ≤ g ∧ n = vs.length ∧ n ≤ cap ∧ cap ≤ 9223372036854775807 ∧ cur.size = cap ∧ cur.toList.take n = vs := by
  rcases h.2 with ⟨e, _⟩ | ⟨g', cap', cur, e, hbg, hh, hnc, hcm, hcs, htk⟩
  · cases e
  · cases e
    refine ⟨cur, hh, hbg, rfl, hnc, by simpa [maxLen] using hcm, by simpa using hcs, by simpa using htk⟩
theorem OV.cell {w : World} {base : Nat} {E : TypeId} {g n cap : Nat} {vs : List Value} (h : OV w base E (.slice (some ⟨g, 0, none⟩) n cap) vs) {k : Nat} {x : Value} (hx : vs[k]? = some x) :
    w.cell? ⟨g, k, none⟩ = some x ∧ w.frozen? ⟨g, k, none⟩ = false := by
  obtain ⟨cur, hh, _, hn, hnc, hcm, hcs, htk⟩ := h.form
  have hj : k < vs.length := (List.getElem?_eq_some_iff.1 hx).1
  rw [← htk, List.getElem?_take, if_pos (by omega)] at hx
  refine ⟨?_, frozen_of_row w g k cur _ hh⟩
  rw [cell_of_row w g k cur _ (0, 0) hh]
  simpa using hx
theorem OV.set {w : World} {base : Nat} {E : TypeId} {g n cap : Nat} {vs : List Value} (h : OV w base E (.slice (some ⟨g, 0, none⟩) n cap) vs) (k : Nat) (y : Value) :
    OV (w.setCell ⟨g, k, none⟩ y) base E (.slice (some ⟨g, 0, none⟩) n cap) (vs.set k y) := by
  obtain ⟨cur, hh, hbg, hn, hnc, hcm, hcs, htk⟩ := h.form
  refine ⟨by simp, .inr ⟨g, cap, cur.setIfInBounds k y, by rw [List.length_set, hn], hbg, heap_setCell_same w g k cur _ y hh, by rw [List.length_set]; omega, by simpa [maxLen] using hcm, by simpa using hcs, ?_⟩⟩
  rw [List.length_set, Array.toList_setIfInBounds, ← htk, Nat.mul_one, List.length_take, Array.length_toList, List.take_set]
  congr 1
  exact (by rw [show min n cur.size = n by omega])
theorem OV.rc {w : World} {base : Nat} {E : TypeId} {g n cap : Nat} {vs : List Value} (h : OV w base E (.slice (some ⟨g, 0, none⟩) n cap) vs) : RC w (some ⟨g, 0, none⟩) cap vs := by
  obtain ⟨cur, hh, hbg, hn, hnc, hcm, hcs, htk⟩ := h.form
  refine ⟨by omega, hcm, fun h0 => ⟨g, 0, rfl, (Array.getElem?_eq_some_iff.1 hh).1, fun j u hu => ?_⟩⟩
  rw [Nat.zero_add]
  exact (h.cell hu).1
theorem OV.read {w : World} {base : Nat} {E : TypeId} {v : Value} {vs : List Value} (h : OV w base E v vs) : ∃ A c, v = .slice A vs.length c ∧ RC w A c vs := by
  rcases h.2 with ⟨rfl, hn⟩ | ⟨g, cap, cur, rfl, _⟩
  · have : vs = [] := List.eq_nil_of_length_eq_zero hn
    subst this
    exact ⟨none, 0, rfl, RC.nil w none 0 (by omega)⟩
  · exact ⟨_, _, rfl, OV.rc h⟩
theorem OV.block {w : World} {base : Nat} {E : TypeId} {v : Value} {vs : List Value} (h : OV w base E v vs) (h0 : 0 < vs.length) : ∃ g cap, v = .slice (some ⟨g, 0, none⟩) vs.length cap ∧ base ≤ g ∧ g < w.heap.size ∧ vs.length ≤ cap ∧ cap ≤ 9223372036854775807 := by
  rcases h.2 with ⟨e, hn⟩ | ⟨g, cap, cur, e, hbg, hh, hnc, hcm, hcs, htk⟩
  · omega
  · exact ⟨g, cap, e, hbg, (Array.getElem?_eq_some_iff.1 hh).1, hnc, by simpa [maxLen] using hcm⟩

/-- only one block has turned -/
theorem gb_set {a w : World} {k : Option Nat} (h : a.grownBy w k) {p : Addr} (hp : k = some p.block ∨ a.heap.size ≤ p.block) (u : Value) : a.grownBy (w.setCell p u) k :=
  ⟨h.os, h.tape, h.output, by simpa [World.setCell] using h.size, fun i hi hne => (Below.heap_setCell w p u i (by
    rintro rfl
    rcases hp with hp | hp
    · exact hne hp.symm
    · omega)).trans (h.block i hi hne)⟩
theorem gb_al {a w : World} {k : Option Nat} (h : a.grownBy w k) (o : Obj) : a.grownBy (w.alloc o) k :=
  ⟨h.os, h.tape, h.output, Nat.le_trans h.size (by simp), fun i hi hne => (Below.heap_alloc w o i (Nat.lt_of_lt_of_le hi h.size)).trans (h.block i hi hne)⟩
theorem gb_below {a w w' : World} {k : Option Nat} (h : a.grownBy w k) (hb : Below w.heap.size w w') : a.grownBy w' k :=
  ⟨hb.os.trans h.os, hb.tape.trans h.tape, hb.output.trans h.output, Nat.le_trans h.size hb.size, fun i hi hne => (hb.block i (Nat.lt_of_lt_of_le hi h.size)).trans (h.block i hi hne)⟩
theorem below_gb {B : Nat} {a w w' : World} {k : Option Nat} (h : Below B a w) (hg : w.grownBy w' k) (hB : B ≤ w.heap.size) (hk : ∀ j, k = some j → B ≤ j) : Below B a w' := h.grown hg hB hk
/-- what lies in cells does not lie in a map's block -/
theorem RC.offmap {w : World} {A : Option Addr} {c : Nat} {vs : List Value} (h : RC w A c vs) {B : Nat} {es : Array MapEntry} {t : Nat} (hb : w.heap[B]? = some (.map es t)) : Off (some B) A vs.length := fun h0 p hp e => by
  obtain ⟨b, o, e2, hlt, hc⟩ := h.2.2 h0
  rw [e2] at hp
  cases hp
  cases e
  have hv : vs[0]? = some vs[0] := List.getElem?_eq_getElem h0
  have := hc 0 _ hv
  simp [World.cell?, hb] at this
theorem OF.keptMap {w w' : World} {base : Nat} {E : TypeId} {size : Nat} {v : Value} {fs : List (List Fld)} {B : Nat} {es : Array MapEntry} {t : Nat} (h : OF w base E size v fs) (hb : w.heap[B]? = some (.map es t)) (hg : w.grownBy w' (some B)) : OF w' base E size v fs := by
  obtain ⟨rows, h1, h2⟩ := h
  refine ⟨rows, ⟨World.ownsRow.kept h1.1 hg (.inr ?_), h1.2⟩, h2.mono fun _ _ h => h.mono fun f u h => ?_⟩
  · intro e
    rcases h1.1.2 with ⟨rfl, hn⟩ | ⟨g, cap, cur, rfl, hbg, hh, _⟩
    · simp [Value.ownBlock] at e
    · have : g = B := by simpa [Value.ownBlock] using e
      subst this
      rw [hb] at hh
      cases hh
  · cases f with
    | val v => exact h
    | row vs =>
      obtain ⟨C, n, e, hr, ho⟩ := h
      exact ⟨C, n, e, hr.grown hg (hr.offmap hb), ho⟩
theorem owns_block {H : Type} {w : World} {P : Program} {k : TypeId} {R : Value → Option (DataW H × List MemPlace)} {b n : Nat} {D : DataW H} (h : w.ownsMap P k R b n D) : ∃ es t, w.heap[b]? = some (.map es t) := by
  obtain ⟨es, t, h1, _⟩ := h
  exact ⟨es, t, h1⟩

/-- the bytes of a text -/
def dT (x : ByteArray) : List UInt8 := x.data.toList
theorem dT_inj {x y : ByteArray} (h : dT x = dT y) : x = y := by
  rw [← mkB_back x, ← mkB_back y]
  exact congrArg mkB h
def nV (n : Nat) : Value := .int .i64 (n : Int)
theorem nums_snoc {α : Type} [DecidableEq α] : ∀ (l ks : List α) (x : α), nums ks (l ++ [x]) = nums ks l ++ [num (keys ks l) x] ∧ keys ks (l ++ [x]) = key (keys ks l) x
  | [], ks, x => ⟨rfl, rfl⟩
  | y :: l, ks, x => by
    obtain ⟨h1, h2⟩ := nums_snoc l (key ks y) x
    exact ⟨by show num ks y :: nums (key ks y) (l ++ [x]) = _; rw [h1]; rfl, h2⟩
theorem nums_len {α : Type} [DecidableEq α] : ∀ (l ks : List α), (nums ks l).length = l.length
  | [], _ => rfl
  | x :: l, ks => by rw [List.length_cons, ← nums_len l (key ks x)]; rfl
/-- the numbers of lists, one after the other -/
def nmL (ks : List (List UInt8)) : List (List ByteArray) → List (List Nat)
  | [] => []
  | l :: ls => nums ks (l.map dT) :: nmL (keys ks (l.map dT)) ls
def ksL (ks : List (List UInt8)) (ls : List (List ByteArray)) : List (List UInt8) := ls.foldl (fun k l => keys k (l.map dT)) ks
theorem nmL_snoc : ∀ (ls : List (List ByteArray)) (ks : List (List UInt8)) (l : List ByteArray), nmL ks (ls ++ [l]) = nmL ks ls ++ [nums (ksL ks ls) (l.map dT)] ∧ ksL ks (ls ++ [l]) = keys (ksL ks ls) (l.map dT)
  | [], ks, l => ⟨rfl, rfl⟩
  | m :: ls, ks, l => by
    obtain ⟨h1, h2⟩ := nmL_snoc ls (keys ks (m.map dT)) l
    exact ⟨by show nums ks (m.map dT) :: nmL (keys ks (m.map dT)) (ls ++ [l]) = _; rw [h1]; rfl, h2⟩
theorem nmL_len : ∀ (ls : List (List ByteArray)) (ks : List (List UInt8)), (nmL ks ls).length = ls.length
  | [], _ => rfl
  | l :: ls, ks => by
    show (nmL _ ls).length + 1 = _
    rw [nmL_len ls]; rfl
/-- a row of numbers as a struct of one field -/
def nmF (ns : List Nat) : List Fld := [Fld.row (ns.map nV)]
/-- what is stored so far -/
def half (ns : List Nat) (m : Nat) : List Value := ns.map nV ++ List.replicate m (.int .i64 0)
theorem half_len (ns : List Nat) (m : Nat) : (half ns m).length = ns.length + m := by simp [half]
theorem half_at (ns : List Nat) (m : Nat) : (half ns (m + 1))[ns.length]? = some (.int .i64 0) := by
  unfold half
  rw [List.getElem?_append_right (by simp), List.length_map, Nat.sub_self]
  rfl
theorem half_set (ns : List Nat) (m n : Nat) : (half ns (m + 1)).set ns.length (nV n) = half (ns ++ [n]) m := by
  unfold half
  rw [List.set_append_right _ _ (by simp), List.length_map, Nat.sub_self, List.replicate_succ, List.set_cons_zero, List.map_append, List.append_assoc]
  rfl
end Go.Proofs.YtfhkmmicdbblnaaDoor

