/-
  The reference's merge: its tables of pairs in memory, what its loop keeps, a stable line that joins the last piece.
-/
import Derived.Test.YtfhkmmicdbblnaaDoorME
import Derived.Test.YtfhkmmicdbblnaaDoorG3
import Derived.Test.YtfhkmmicdbblnaaDoorL13
import Derived.Test.YtfhkmmicdbblnaaDoorL14
import Derived.Test.YtfhkmmicdbblnaaDoorE7
namespace Go.Proofs.YtfhkmmicdbblnaaDoor
set_option linter.unusedSimpArgs false
set_option linter.unusedVariables false
open Go.RowKit Go.Maps

theorem lawI : Keyed Tryd.prog 3 := int_keyed Tryd.underlying3
/-- a table of pairs as it lies in memory -/
def MM (w : World) (B n : Nat) (ps : List (Nat × Nat)) : Prop := ∃ D : DataW Unit, w.ownsMap Tryd.prog 3 (plainElem Tryd.prog 3) B n D ∧ MP D (ptab ps)
theorem MM.kept {w w' : World} {B n : Nat} {ps : List (Nat × Nat)} {row : Option Nat} (h : MM w B n ps) (hg : w.grownBy w' row) (hne : some B ≠ row) : MM w' B n ps := by
  obtain ⟨D, h1, h2⟩ := h
  exact ⟨D, h1.kept hg hne, h2⟩
theorem MM.below {w w' : World} {B n : Nat} {ps : List (Nat × Nat)} (h : MM w B n ps) (hb : Below w.heap.size w w') : MM w' B n ps := h.kept (gb_below (World.grownBy.refl w none) hb) (by simp)
theorem MM.block {w : World} {B n : Nat} {ps : List (Nat × Nat)} (h : MM w B n ps) : ∃ es t, w.heap[B]? = some (.map es t) := by
  obtain ⟨D, h1, _⟩ := h
  exact owns_block h1
theorem MM.lt {w : World} {B n : Nat} {ps : List (Nat × Nat)} (h : MM w B n ps) : B < w.heap.size := by
  obtain ⟨es, t, h1⟩ := h.block
  rcases Nat.lt_or_ge B w.heap.size with h2 | h2
  · exact h2
  · rw [Array.getElem?_eq_none h2] at h1; cases h1
theorem MM.made (w : World) {g : Nat} (hg : g = w.heap.size) : MM (w.alloc (.map #[] 0)) g 0 [] := by
  subst hg
  exact ⟨_, World.ownsMap_made w _ _ _, MP.nil⟩
/-- pairs that lie in cells are kept where a map is turned -/
theorem RPr.keptMap {w w' : World} {A : Option Addr} {c : Nat} {ps : List (Nat × Nat)} {B : Nat} {es : Array MapEntry} {t : Nat} (h : RPr w A c ps) (hb : w.heap[B]? = some (.map es t)) (hg : w.grownBy w' (some B)) : RPr w' A c ps := by
  refine ⟨h.1, h.2.1, fun h0 => ?_⟩
  obtain ⟨b, o, e, hlt, hc⟩ := h.2.2 h0
  refine ⟨b, o, e, Nat.lt_of_lt_of_le hlt hg.size, fun j r hj i u hu => ?_⟩
  have h1 := hc j r hj i u hu
  have hne : some b ≠ some B := by
    intro e2
    cases e2
    simp [World.cell?, hb] at h1
  rw [World.cell?_of_block (hg.block b hlt (fun e => hne e))]
  exact h1
theorem wfN {n : Nat} (h : n ≤ 100000) : (Lit.int .i64 (n : Int)).wf = true := WalkArith.wf_i64 (by omega)
theorem keyN {n : Nat} (h : n ≤ 100000) : keyOf Tryd.prog 3 (.int .i64 (n : Int)) = some (.int .i64 (n : Int)) := keyOf_int_mk Tryd.underlying3 (wfN h)
theorem take_pair {ps : List (Nat × Nat)} {k : Nat} {x y : Nat} (h : ps[k]? = some (x, y)) : ps.take (k + 1) = ps.take k ++ [(x, y)] := by rw [List.take_add_one, h]; rfl
/-- what the reference's loop has made, at line m of the base -/
def GE (O A B : List ByteArray) (m : Nat) (f : Nat × Nat × Nat) (ps : List (Pc ByteArray)) : Prop := m ≤ O.length + 1 ∧ (m ≤ O.length → GI O A B m f ps) ∧ (m = O.length + 1 → ps = mrg O A B)
theorem GE.of {O A B : List ByteArray} {m : Nat} {f : Nat × Nat × Nat} {ps : List (Pc ByteArray)} (h : GI O A B m f ps) (hm : m ≤ O.length) : GE O A B m f ps := ⟨by omega, fun _ => h, fun e => by omega⟩
theorem GE.at_ {O A B : List ByteArray} {m : Nat} {f : Nat × Nat × Nat} {ps : List (Pc ByteArray)} (h : GE O A B m f ps) (hm : m ≤ O.length) : GI O A B m f ps := h.2.1 hm
/-- the last piece's kind -/
theorem PL.kind {w : World} {base g n cap : Nat} {qs : List (Pc ByteArray)} {kd : Int} {us : List Value} {ls : List (List ByteArray)} (h : PL w base (.slice (some ⟨g, 0, none⟩) n cap) qs kd us ls) : w.cell? ⟨g, qs.length * 4, none⟩ = some (.int .i64 kd) := by
  obtain ⟨rows, h1, h2, h3, h4, _⟩ := h
  have hrl : rows.length = qs.length := by have := h4.1; rw [List.length_map] at this; exact this.symm
  have := h1.cell (j := rows.length) (r := .int .i64 kd :: us) (by simp) (i := 0) (u := .int .i64 kd) rfl
  rw [hrl, Nat.add_zero] at this
  exact this.1
/-- the state while a line joins the last piece -/
def ZS (W : World) (v : Value) (qs : List (Pc ByteArray)) (kd : Int) (us : List Value) (ls : List (List ByteArray)) (wx : World) : Prop := PL wx W.heap.size v qs kd us ls ∧ Below W.heap.size W wx
theorem ZS.kept (W : World) (v : Value) (qs : List (Pc ByteArray)) (kd : Int) (us : List Value) (ls : List (List ByteArray)) : Kept (ZS W v qs kd us ls) := fun X Y h hb =>
  ⟨h.1.grown (gb_below (World.grownBy.refl X none) hb) (fun j e => by cases e), go3 h.2 hb⟩
theorem ZS.put {W : World} {g7 n cap : Nat} {qs : List (Pc ByteArray)} {kd : Int} {us : List Value} {ls : List (List ByteArray)} {wx w1 : World} (h : ZS W (.slice (some ⟨g7, 0, none⟩) n cap) qs kd us ls wx)
    {j : Nat} {u u' : Value} {l l' : List ByteArray} (hj : us[j]? = some u) (hl : ls[j]? = some l) (hot : OT w1 W.heap.size u' l') (hg : wx.grownBy w1 u.ownBlock) (hu : u'.ownBlock = u.ownBlock ∨ u'.ownBlock = some wx.heap.size) {a : Nat} (ha : a = qs.length * 4 + (1 + j)) :
    ZS W (.slice (some ⟨g7, 0, none⟩) n cap) qs kd (us.set j u') (ls.set j l') (w1.setCell ⟨g7, a, none⟩ u') := by
  subst ha
  obtain ⟨h7, h8⟩ := h
  have hg7b : W.heap.size ≤ g7 := by obtain ⟨_, _, e, hb, _⟩ := h7.len; cases e; exact hb
  exact ⟨h7.put hj hot hg hu, (h8.grown hg h8.size (fun k e => (h7.own3 j hj hl k e).1)).setCell (p := ⟨g7, _, none⟩) hg7b _⟩
theorem keptF {w6 wc w7 : World} {k : Option Nat} {g i : Nat} {v : Bool} (hb : Below w6.heap.size w6 wc) (hg : wc.grownBy w7 k) (hlt : g < w6.heap.size) (hne : k ≠ some g) (h : w6.frozen? ⟨g, i, none⟩ = v) : w7.frozen? ⟨g, i, none⟩ = v :=
  (frozen_gb hg (Nat.lt_of_lt_of_le hlt hb.size) hne i).trans ((hb.frozen (p := ⟨g, i, none⟩) hlt).trans h)
/-- a literal of one text -/
theorem OT.lit1 (w : World) (x : ByteArray) (base : Nat) {g : Nat} (hg : g = w.heap.size) (hb : base ≤ g) : OT (w.alloc (.cells #[.string x] 9)) base (.slice (some ⟨g, 0, none⟩) 1 1) [x] := by
  subst hg
  exact World.ownsRow_lit (e := 9) (size := 1) (base := base) w #[.string x] 1 hb (by simp [maxLen]) rfl
end Go.Proofs.YtfhkmmicdbblnaaDoor

