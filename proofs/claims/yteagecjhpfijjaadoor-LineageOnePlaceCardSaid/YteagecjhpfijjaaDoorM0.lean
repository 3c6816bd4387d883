/-
  The words for the merge seat: texts in memory, rows of the call's own, states; taken out of the elder texts by pick.py.
-/
import Derived.Test.YteagecjhpfijjaaDoorProg
import Derived.Test.YteagecjhpfijjaaDoorShelf
import Derived.WalkKit
import Derived.WalkSpells
import Derived.WalkLawsBesides
import Derived.Deep.QuietTactic
import Derived.BigQuiet
import Derived.Outline
import Derived.Lib.Hide
import Derived.Lib.Strings
import Derived.Lib.Join
import Derived.Lib.Small
import Derived.Lib.Bytealg
import Derived.Lib.SplitLaws
import Derived.Below
import Derived.Deep.Draws
import Derived.SliceStrings
import Derived.OpenShut
import Derived.ProofKit
import Derived.Maps.AppendAt
import Derived.Deep.AppendLies
import Derived.RegionTactic
import Derived.OwnWalk
namespace Go.Proofs.YteagecjhpfijjaaDoor
set_option linter.unusedSimpArgs false
set_option linter.unusedVariables false
open Go.RowKit Go.ChangeShapes Go.WideShapes

theorem ret_bool {a b : Bool} (h : a = b) : Ending.returned (.bool a) = .returned (.bool b) := by rw [h]
theorem ret_int {k : IntKind} {a b : Int} (h : a = b) : Ending.returned (.int k a) = .returned (.int k b) := by rw [h]
theorem bytes_nil {s : ByteArray} (h0 : s.size = 0) : s.data.toList = [] := by
  rw [Lib.size_eq] at h0
  exact List.eq_nil_of_length_eq_zero h0
theorem bytes_ne {s : ByteArray} (h0 : 0 < s.size) : s.toList.isEmpty = false := by
  rw [Lib.toList_data]
  rw [Lib.size_eq] at h0
  cases h : s.data.toList with
  | nil => rw [h] at h0; exact absurd h0 (Nat.lt_irrefl 0)
  | cons c l => rfl
theorem hasPrefix_any (s p : ByteArray) (w : World) :
    Calls Tryd.prog 60 #[.string s, .string p] w fun e w' => e = .returned (.bool (Lib.hasPrefix s.data.toList p.data.toList)) ∧ w = w' :=
  (Tryd.strings_HasPrefix s p w).mono fun _ _ ⟨he, hw⟩ => ⟨he, hw.symm⟩
theorem piece_eq (s : ByteArray) (b i : Nat) : (s.extract b i).data.toList = (s.data.toList.drop b).take (i - b) := Lib.extract_data s b i
theorem piece_size (s : ByteArray) (b i : Nat) : (s.extract b i).size ≤ s.size := by
  rw [Lib.size_eq, Lib.size_eq, piece_eq, List.length_take, List.length_drop]; omega
theorem below_drewN {B : Nat} {a w : World} (h : Below B a w) (n : Nat) : Below B a (w.drewN n) := ⟨h.os, h.tape, h.output, h.size, h.block⟩
theorem ret_ii {k l : IntKind} {a b c d : Int} (h : a = c) (h2 : b = d) : Ending.returned (.tuple #[.int k a, .int l b]) = .returned (.tuple #[.int k c, .int l d]) := by rw [h, h2]
def mkB (l : List UInt8) : ByteArray := ⟨l.toArray⟩
theorem mkB_data (l : List UInt8) : (mkB l).data.toList = l := by simp [mkB]
theorem mkB_size (l : List UInt8) : (mkB l).size = l.length := by rw [Lib.size_eq, mkB_data]
theorem mkB_back (s : ByteArray) : mkB s.data.toList = s := Lib.mk_data s
/-- A slice of texts that lies in the world: address A, capacity c, the texts xs. -/
def RT (w : World) (A : Option Addr) (c : Nat) (xs : List ByteArray) : Prop :=
  xs.length ≤ c ∧ c ≤ 9223372036854775807 ∧ (0 < xs.length → ∃ b o, A = some ⟨b, o, none⟩ ∧ b < w.heap.size ∧ ∀ j x, xs[j]? = some x → w.cell? ⟨b, o + j, none⟩ = some (.string x))
theorem RT.nil (w : World) (A : Option Addr) (c : Nat) (h : c ≤ 9223372036854775807) : RT w A c [] := ⟨Nat.zero_le _, h, fun h => absurd h (Nat.lt_irrefl 0)⟩
theorem RT.below {w w' : World} {A : Option Addr} {c : Nat} {xs : List ByteArray} (h : RT w A c xs) (hb : Below w.heap.size w w') : RT w' A c xs :=
  ⟨h.1, h.2.1, fun h0 => by
    obtain ⟨b, o, e, hlt, hc⟩ := h.2.2 h0
    exact ⟨b, o, e, Nat.lt_of_lt_of_le hlt hb.size, fun j x hx => (hb.cell (p := ⟨b, o + j, none⟩) hlt).trans (hc j x hx)⟩⟩
theorem RT.take {w : World} {A : Option Addr} {c : Nat} {xs : List ByteArray} (h : RT w A c xs) (m : Nat) : RT w A c (xs.take m) :=
  ⟨by rw [List.length_take]; have := h.1; omega, h.2.1, fun h0 => by
    rw [List.length_take] at h0
    obtain ⟨b, o, e, hlt, hc⟩ := h.2.2 (by omega)
    refine ⟨b, o, e, hlt, fun j x hx => hc j x ?_⟩
    rw [List.getElem?_take] at hx
    split at hx
    · exact hx
    · cases hx⟩
/-- the library's variable MaxLen holds some number -/
def ML (w : World) : Prop := ∃ m, w.cell? ⟨0, 0, none⟩ = some (.int .i64 m)
theorem cell_lt {w : World} {p : Addr} {v : Value} (h : w.cell? p = some v) : p.block < w.heap.size := by
  rcases Nat.lt_or_ge p.block w.heap.size with h1 | h1
  · exact h1
  · exfalso
    have : w.heap[p.block]? = none := Array.getElem?_eq_none h1
    simp [World.cell?, this] at h
theorem ML.below {w w' : World} (h : ML w) (hb : Below w.heap.size w w') : ML w' := by
  obtain ⟨m, hm⟩ := h
  exact ⟨m, (hb.cell (p := ⟨0, 0, none⟩) (cell_lt hm)).trans hm⟩
theorem indexByte_any (s : ByteArray) (c : Int) (w : World) :
    Calls Tryd.prog 66 #[.string s, .int .u8 c] w fun e w' => e = .returned (.int .i64 (Lib.indexByte s.data.toList c.toNat.toUInt8)) ∧ w = w' :=
  (Tryd.strings_IndexByte s c w).mono fun _ _ ⟨he, hw⟩ => ⟨he, hw.symm⟩
theorem bytes_inj {a b : List ByteArray} (h : a.map (·.data.toList) = b.map (·.data.toList)) : a = b := by
  have e : ∀ l : List ByteArray, (l.map (·.data.toList)).map mkB = l := fun l => by
    rw [List.map_map]
    conv => rhs; rw [← List.map_id l]
    exact List.map_congr_left fun x _ => mkB_back x
  rw [← e a, ← e b, h]
/-- a call hands back texts in new memory -/
def RetT (w : World) (xs : List ByteArray) (f : Value → Value) (e : Ending) (w' : World) : Prop :=
  ∃ A c, e = .returned (f (.slice A xs.length c)) ∧ RT w' A c xs ∧ Below w.heap.size w w'
theorem getD_cells {xs : List ByteArray} {w : World} {b o : Nat} (h : ∀ j x, xs[j]? = some x → w.cell? ⟨b, o + j, none⟩ = some (.string x)) :
    ∀ j, j < xs.length → w.cell? ⟨b, o + j, none⟩ = some (.string (xs.getD j ByteArray.empty)) := fun j hj => by
  refine h j _ ?_
  rw [List.getD, List.getElem?_eq_getElem hj]
  rfl
theorem below_drewN' (w : World) (n : Nat) : Below w.heap.size w (w.drewN n) := below_drewN (Below.refl _ _) n
theorem all_step {xs : List ByteArray} {k : Nat} {x : ByteArray} {p : ByteArray → Bool} (hx : xs[k]? = some x) : (xs.take (k + 1)).all p = ((xs.take k).all p && p x) := by
  rw [List.take_add_one, hx, List.all_append]
  simp
theorem all_miss {xs : List ByteArray} {k : Nat} {x : ByteArray} {p : ByteArray → Bool} (hx : xs[k]? = some x) (h : p x = false) : xs.all p = false := by
  rw [Bool.eq_false_iff]
  intro hh
  have := List.all_eq_true.1 hh x (List.mem_of_getElem? hx)
  rw [h] at this
  cases this
/-- two lists of texts, held one against the other -/
theorem take_eq_step {α : Type} {a b : List α} {k : Nat} {x y : α} (ha : a[k]? = some x) (hb : b[k]? = some y) (h : a.take k = b.take k) (e : x = y) : a.take (k + 1) = b.take (k + 1) := by
  rw [List.take_add_one, List.take_add_one, ha, hb, h, e]
theorem textInfo : (Tryd.prog.info? 9).map (fun i => (i.zero, i.size, i.bytes)) = some (some (.string ByteArray.empty), 1, 16) := by kernel_rfl
/-- v is a row of the call's own (blocks from base on) and holds the texts xs -/
def OT (w : World) (base : Nat) (v : Value) (xs : List ByteArray) : Prop := w.ownsRow base 9 1 v xs.length (xs.map Value.string)
theorem OT.nil (w : World) (base : Nat) : OT w base (.slice none 0 0) [] := ⟨by simp, .inl ⟨rfl, rfl⟩⟩
theorem OT.read {w : World} {base : Nat} {v : Value} {xs : List ByteArray} (h : OT w base v xs) : ∃ A c, v = .slice A xs.length c ∧ RT w A c xs := by
  obtain ⟨hl, h⟩ := h
  rcases h with ⟨rfl, hn⟩ | ⟨g, cap, cur, rfl, hbg, hh, hnc, hcm, hcs, htk⟩
  · have : xs = [] := List.eq_nil_of_length_eq_zero hn
    subst this
    exact ⟨none, 0, rfl, RT.nil w none 0 (by omega)⟩
  · refine ⟨_, _, rfl, hnc, by simpa [maxLen] using hcm, fun h0 => ⟨g, 0, rfl, ?_, fun j x hx => ?_⟩⟩
    · rcases Nat.lt_or_ge g w.heap.size with h1 | h1
      · exact h1
      · rw [Array.getElem?_eq_none h1] at hh; cases hh
    · have hj : j < xs.length := (List.getElem?_eq_some_iff.1 hx).1
      have e : (xs.map Value.string)[j]? = some (.string x) := by rw [List.getElem?_map, hx]; rfl
      rw [← htk, List.getElem?_take, if_pos (by omega)] at e
      have : (⟨g, 0 + j, none⟩ : Addr) = ⟨g, j, none⟩ := by simp
      rw [this, cell_of_row w g j cur _ (0, 0) hh]
      simpa using e
theorem run_append_none (w : World) (base : Nat) (v : Value) (xs : List ByteArray) (hown : OT w base v xs) (c : Nat) (ty : TypeId) :
    (Builtin.append_ #[67, 67] ty #[v, .slice none 0 c]).run Tryd.prog w = .ok v w := by
  obtain ⟨i, hi, hz, h1, h2⟩ := info_parts textInfo
  rcases hown.2 with ⟨rfl, _⟩ | ⟨g, cap, cur, rfl, _, _, hnc, _⟩
  · simp [Builtin.append_, run_underlying Tryd.underlying67, sizeOf, typeInfo, hi, Builtin.lenOf, Builtin.firstCells]
  · simp [Builtin.append_, run_underlying Tryd.underlying67, sizeOf, typeInfo, hi, Builtin.lenOf, Builtin.firstCells, hnc, storeCells]
theorem run_append_texts (w : World) (base : Nat) (v : Value) (xs ys : List ByteArray) (A : Option Addr) (c : Nat) (ty : TypeId) (hown : OT w base v xs) (hr : RT w A c ys)
    (hlen : xs.length + ys.length ≤ 1000000) (hbase : base ≤ w.heap.size) :
    ∃ v' w', (Builtin.append_ #[67, 67] ty #[v, .slice A ys.length c]).run Tryd.prog w = .ok v' w' ∧ OT w' base v' (xs ++ ys) ∧ w.grownBy w' v.ownBlock ∧
      (v'.ownBlock = v.ownBlock ∨ v'.ownBlock = some w.heap.size) := by
  obtain ⟨i, hi, hz, h1, h2⟩ := info_parts textInfo
  rcases A with _ | ad
  · have hy : ys = [] := by
      cases ys with
      | nil => rfl
      | cons y ys =>
        obtain ⟨b, o, e, _⟩ := hr.2.2 (by simp)
        cases e
    subst hy
    exact ⟨v, w, run_append_none w base v xs hown c ty, by simpa using hown, World.grownBy.refl w _, .inl rfl⟩
  · have hcells : ∀ j u, (ys.map Value.string)[j]? = some u → w.cell? (ad.add j) = some u := by
      intro j u hu
      rw [List.getElem?_map] at hu
      obtain ⟨y, hy, rfl⟩ := Option.map_eq_some_iff.1 hu
      have hj : j < ys.length := (List.getElem?_eq_some_iff.1 hy).1
      obtain ⟨b, o, e, _, hc⟩ := hr.2.2 (by omega)
      cases e
      rw [Go.WideShapes.add_plain]
      exact hc j y hy
    obtain ⟨v', w', hrun, h3, h4, _, h5⟩ := run_append_own_at (P := Tryd.prog) w base 67 ty 9 i (.string ByteArray.empty) 1 16 Tryd.underlying67 hi hz h1 h2 rfl (by omega) v xs.length (xs.map Value.string) hown ad ys.length c (ys.map Value.string)
      (by simp) hcells (by intro u hu; obtain ⟨y, _, rfl⟩ := List.mem_map.1 hu; rfl) (by simp only [maxLen]; omega) (by omega) hbase
    refine ⟨v', w', hrun, ?_, h4, h5⟩
    unfold OT
    rw [List.length_append, List.map_append]
    exact h3
theorem wp_append_texts {w : World} {o : Oper} {a : Act} {K : Act → World → Prop} {Q : Exit → Act → World → Prop} (s x : Operand)
    (ho : o.op = .call { callee := .builtin .append, args := #[s, x], argTypes := #[67, 67] })
    (base : Nat) (v : Value) (xs ys : List ByteArray) (A : Option Addr) (c : Nat) (hs : a.eval s = v) (hx : a.eval x = .slice A ys.length c) (hown : OT w base v xs) (hr : RT w A c ys)
    (hlen : xs.length + ys.length ≤ 1000000) (hbase : base ≤ w.heap.size)
    (h : ∀ v' w', OT w' base v' (xs ++ ys) → w.grownBy w' v.ownBlock → (v'.ownBlock = v.ownBlock ∨ v'.ownBlock = some w.heap.size) → K (a.put o.dst v') w') : o.wp Tryd.prog a w K Q := by
  obtain ⟨v', w', hrun, h2, h3, h4⟩ := run_append_texts w base v xs ys A c o.type hown hr hlen hbase
  unfold Oper.wp execOp
  simp only [ho, resolve, invoke, builtin, Sem.run_bind, Sem.run_pure, Result.andThen_ok, List.map_toArray, List.map_cons, List.map_nil, hs, hx, hrun]
  exact h v' w' h2 h3 h4
theorem wpList_append_texts {w : World} {ops : Array Oper} {rest : List Oper} {o : Oper} {a : Act} {Q : Exit → Act → World → Prop} (hgd : o.guard = none) (s x : Operand)
    (ho : o.op = .call { callee := .builtin .append, args := #[s, x], argTypes := #[67, 67] })
    (base : Nat) (v : Value) (xs ys : List ByteArray) (A : Option Addr) (c : Nat) (hs : a.eval s = v) (hx : a.eval x = .slice A ys.length c) (hown : OT w base v xs) (hr : RT w A c ys)
    (hlen : xs.length + ys.length ≤ 1000000) (hbase : base ≤ w.heap.size)
    (h : ∀ v' w', OT w' base v' (xs ++ ys) → w.grownBy w' v.ownBlock → (v'.ownBlock = v.ownBlock ∨ v'.ownBlock = some w.heap.size) → wpList Tryd.prog ops Q rest (a.put o.dst v') w') : wpList Tryd.prog ops Q (o :: rest) a w :=
  wpList_plain hgd fun _ hK => wp_append_texts s x ho base v xs ys A c hs hx hown hr hlen hbase fun v' w' h2 h3 h4 => hK _ _ (h v' w' h2 h3 h4)
theorem step_append_texts {w : World} {ops : Array Oper} {o : Oper} {a : Act} {K : Act → World → Prop} {Q : Exit → Act → World → Prop} {E : Prop} (hgd : o.guard = none) (s x : Operand)
    (ho : o.op = .call { callee := .builtin .append, args := #[s, x], argTypes := #[67, 67] })
    (base : Nat) (v : Value) (xs ys : List ByteArray) (A : Option Addr) (c : Nat) (hs : a.eval s = v) (hx : a.eval x = .slice A ys.length c) (hown : OT w base v xs) (hr : RT w A c ys)
    (hlen : xs.length + ys.length ≤ 1000000) (hbase : base ≤ w.heap.size)
    (h : ∀ v' w', OT w' base v' (xs ++ ys) → w.grownBy w' v.ownBlock → (v'.ownBlock = v.ownBlock ∨ v'.ownBlock = some w.heap.size) → K (a.put o.dst v') w') :
    if Region.wanted o (yielded ops a.tmps) = true then Oper.wp Tryd.prog o a w K Q else E := by
  have hw : Region.wanted o (yielded ops a.tmps) = true := by simp [Region.wanted, hgd]
  rw [if_pos hw]
  exact wp_append_texts s x ho base v xs ys A c hs hx hown hr hlen hbase h
theorem below_alloc (w : World) (o : Obj) : Below w.heap.size w (w.alloc o) := (Below.refl _ _).alloc (Nat.le_refl _) _
/-- a box of two cells that may be written -/
def PX (w : World) (g : Nat) (u v : Value) : Prop :=
  w.cell? ⟨g, 0, none⟩ = some u ∧ w.cell? ⟨g, 1, none⟩ = some v ∧ w.frozen? ⟨g, 0, none⟩ = false ∧ w.frozen? ⟨g, 1, none⟩ = false ∧ g < w.heap.size
theorem PX.new (w : World) (u v : Value) (t : TypeId) : PX (w.alloc (.cells #[u, v] t)) w.heap.size u v :=
  ⟨by simp [World.cell?_alloc_new], by simp [World.cell?_alloc_new], by rw [frozen?_alloc_cells]; simp [World.frozen?], by rw [frozen?_alloc_cells]; simp [World.frozen?], by simp⟩
theorem PX.below {w w' : World} {g : Nat} {u v : Value} (h : PX w g u v) (hb : Below w.heap.size w w') : PX w' g u v :=
  ⟨(hb.cell (p := ⟨g, 0, none⟩) h.2.2.2.2).trans h.1, (hb.cell (p := ⟨g, 1, none⟩) h.2.2.2.2).trans h.2.1, (hb.frozen (p := ⟨g, 0, none⟩) h.2.2.2.2).trans h.2.2.1, (hb.frozen (p := ⟨g, 1, none⟩) h.2.2.2.2).trans h.2.2.2.1, Nat.lt_of_lt_of_le h.2.2.2.2 hb.size⟩
theorem RT.setCell {w : World} {A : Option Addr} {c : Nat} {xs : List ByteArray} {p : Addr} {v : Value} (h : RT w A c xs) (hp : w.cell? p = some v) (hv : ∀ x, v ≠ .string x) (u : Value) : RT (w.setCell p u) A c xs :=
  ⟨h.1, h.2.1, fun h0 => by
    obtain ⟨b, o, e, hlt, hc⟩ := h.2.2 h0
    refine ⟨b, o, e, by simpa [World.setCell] using hlt, fun j x hx => ?_⟩
    rw [World.cell?_setCell_other]
    · exact hc j x hx
    · rintro rfl
      rw [hc j x hx] at hp
      exact hv x (Option.some.inj hp).symm⟩
theorem RT.box {w : World} {A : Option Addr} {c g : Nat} {xs : List ByteArray} {u v : Value} (h : RT w A c xs) (hp : PX w g u v) (hu : ∀ x, u ≠ .string x) (hv : ∀ x, v ≠ .string x) (a b : Value) :
    RT ((w.setCell ⟨g, 0, none⟩ a).setCell ⟨g, 1, none⟩ b) A c xs :=
  (h.setCell hp.1 hu a).setCell ((World.cell?_setCell_other _ _ _ _ (by simp)).trans hp.2.1) hv b
theorem below_box {B g : Nat} {w w' : World} (h : Below B w w') (hg : B ≤ g) (a b : Value) : Below B w ((w'.setCell ⟨g, 0, none⟩ a).setCell ⟨g, 1, none⟩ b) :=
  (h.setCell (p := ⟨g, 0, none⟩) hg a).setCell (p := ⟨g, 1, none⟩) hg b
theorem slice_ns (A : Option Addr) (n c : Nat) : ∀ x, Value.slice A n c ≠ .string x := fun _ h => by cases h
theorem bool_ns (r : Bool) : ∀ x, Value.bool r ≠ .string x := fun _ h => by cases h
theorem below_alloc2 (w : World) (o p : Obj) : Below w.heap.size w ((w.alloc o).alloc p) := (below_alloc w o).alloc (by simp) p
theorem text_eqB (x y : ByteArray) : (x.toList == y.toList) = decide (x = y) := by
  rw [Bool.eq_iff_iff, beq_iff_eq, decide_eq_true_iff, Lib.toList_data, Lib.toList_data]
  exact ⟨fun e => by rw [← mkB_back x, ← mkB_back y, e], fun e => by rw [e]⟩
theorem RT.drop {w : World} {b o c : Nat} {xs : List ByteArray} (h : RT w (some ⟨b, o, none⟩) c xs) (k : Nat) (hk : k ≤ xs.length) : RT w (some ⟨b, o + k, none⟩) (c - k) (xs.drop k) := by
  refine ⟨by rw [List.length_drop]; have := h.1; omega, by have := h.2.1; omega, fun h0 => ?_⟩
  rw [List.length_drop] at h0
  obtain ⟨b', o', e, hlt, hc⟩ := h.2.2 (by omega)
  cases e
  refine ⟨b, o + k, rfl, hlt, fun j x hx => ?_⟩
  rw [List.getElem?_drop] at hx
  rw [show o + k + j = o + (k + j) by omega]
  exact hc _ x hx
theorem OT.own {w : World} {base : Nat} {v : Value} {xs : List ByteArray} (h : OT w base v xs) : ∀ k, v.ownBlock = some k → base ≤ k := by
  rcases h.2 with ⟨rfl, _⟩ | ⟨g, cap, cur, rfl, hbg, _⟩
  · intro k hk
    simp [Value.ownBlock] at hk
  · intro k hk
    simp [Value.ownBlock] at hk
    omega
theorem RT.one (w : World) (x : ByteArray) (t : TypeId) : RT (w.alloc (.cells #[.string x] t)) (some ⟨w.heap.size, 0, none⟩) 1 [x] :=
  ⟨Nat.le_refl _, by omega, fun _ => ⟨w.heap.size, 0, rfl, by simp, fun j y hy => by
    rcases j with _ | j
    · simp at hy
      subst hy
      simp [World.cell?_alloc_new]
    · simp at hy⟩⟩
theorem OT.below {w w' : World} {base : Nat} {v : Value} {xs : List ByteArray} (h : OT w base v xs) (hb : Below w.heap.size w w') : OT w' base v xs := by
  refine ⟨h.1, ?_⟩
  rcases h.2 with ⟨rfl, hn⟩ | ⟨g, cap, cur, rfl, hbg, hh, hrest⟩
  · exact .inl ⟨rfl, hn⟩
  · refine .inr ⟨g, cap, cur, rfl, hbg, ?_, hrest⟩
    rw [hb.block g ?_]
    · exact hh
    · rcases Nat.lt_or_ge g w.heap.size with h1 | h1
      · exact h1
      · rw [Array.getElem?_eq_none h1] at hh; cases hh
theorem below_al {w w' : World} (h : Below w.heap.size w w') (o : Obj) : Below w.heap.size w (w'.alloc o) := h.alloc h.size o
theorem bcell {W w1 : World} (hb : Below W.heap.size W w1) : (∀ b o, b < W.heap.size → w1.cell? ⟨b, o, none⟩ = W.cell? ⟨b, o, none⟩) ∧ (∀ b o, b < W.heap.size → w1.frozen? ⟨b, o, none⟩ = W.frozen? ⟨b, o, none⟩) :=
  ⟨fun b o h => hb.cell (p := ⟨b, o, none⟩) h, fun b o h => hb.frozen (p := ⟨b, o, none⟩) h⟩
theorem go3 {w v w' : World} (h1 : Below w.heap.size w v) (h2 : Below v.heap.size v w') : Below w.heap.size w w' := h1.trans (h2.mono h1.size)
theorem below_set {w w' : World} (h : Below w.heap.size w w') (p : Addr) (hp : w.heap.size ≤ p.block) (u : Value) : Below w.heap.size w (w'.setCell p u) := h.setCell hp u
/-- what is kept by whatever leaves the old memory alone -/
def Kept (I : World → Prop) : Prop := ∀ w w' : World, I w → Below w.heap.size w w' → I w'
theorem Kept.both {P Q : World → Prop} (h : Kept P) (k : Kept Q) : Kept (fun w => P w ∧ Q w) := fun w w' hw hb => ⟨h w w' hw.1 hb, k w w' hw.2 hb⟩
theorem kept_below (W : World) : Kept (fun w => Below W.heap.size W w) := fun w w' h hb => h.trans (hb.mono h.size)
theorem kept_rt (A : Option Addr) (c : Nat) (xs : List ByteArray) : Kept (fun w => RT w A c xs) := fun w w' h hb => h.below hb
theorem kept_px (g : Nat) (u v : Value) : Kept (fun w => PX w g u v) := fun w w' h hb => h.below hb
theorem kept_ml : Kept ML := fun w w' h hb => h.below hb
theorem kept_ot (base : Nat) (v : Value) (xs : List ByteArray) : Kept (fun w => OT w base v xs) := fun w w' h hb => h.below hb
/-- the state of a walk: I holds, and is kept -/
def At (I : World → Prop) (w : World) : Prop := Kept I ∧ I w
theorem At.out {I : World → Prop} {w : World} (h : At I w) : I w := h.2
theorem At.go {I : World → Prop} {w w' : World} (h : At I w) (hb : Below w.heap.size w w') : At I w' := ⟨h.1, h.1 w w' h.2 hb⟩
theorem At.go2 {I : World → Prop} {w v w' : World} (h : At I w) (h1 : Below w.heap.size w v) (h2 : Below v.heap.size v w') : At I w' := h.go (h1.trans (h2.mono h1.size))
theorem At.start (W : World) : At (fun w => Below W.heap.size W w) W := ⟨kept_below W, Below.refl _ _⟩
theorem At.add {I P : World → Prop} {w : World} (h : At I w) (k : Kept P) (hp : P w) : At (fun w => P w ∧ I w) w := ⟨k.both h.1, hp, h.2⟩
theorem At.rt {I : World → Prop} {w : World} (h : At I w) {A : Option Addr} {c : Nat} {xs : List ByteArray} (hp : RT w A c xs) : At (fun w => RT w A c xs ∧ I w) w := h.add (kept_rt A c xs) hp
theorem At.ml {I : World → Prop} {w : World} (h : At I w) (hp : ML w) : At (fun w => ML w ∧ I w) w := h.add kept_ml hp
/-- a new box of two cells -/
theorem At.box {I : World → Prop} {w : World} (h : At I w) (u v : Value) (t : TypeId) : At (fun w' => PX w' w.heap.size u v ∧ I w') (w.alloc (.cells #[u, v] t)) := (h.go (below_alloc w _)).add (kept_px _ u v) (PX.new w u v t)
theorem PX.at1 {w : World} {g : Nat} {u v : Value} (h : PX w g u v) : w.cell? ⟨g, 0, none⟩ = some u := h.1
/-- a store into a row of the call's own -/
theorem OT.set {w : World} {base g n cap : Nat} {xs : List ByteArray} (h : OT w base (.slice (some ⟨g, 0, none⟩) n cap) xs) {k : Nat} (hk : k < xs.length) (y : ByteArray) :
    OT (w.setCell ⟨g, k, none⟩ (.string y)) base (.slice (some ⟨g, 0, none⟩) n cap) (xs.set k y) := by
  obtain ⟨hl, h⟩ := h
  rcases h with ⟨e, _⟩ | ⟨g', cap', cur, e, hbg, hh, hnc, hcm, hcs, htk⟩
  · cases e
  · cases e
    refine ⟨by simp, .inr ⟨g, cap, cur.setIfInBounds k (.string y), ?_, hbg, heap_setCell_same w g k cur _ (.string y) hh, ?_, hcm, by simpa using hcs, ?_⟩⟩
    · rw [List.length_set]
    · rw [List.length_set]; exact hnc
    · rw [List.length_set, Array.toList_setIfInBounds, List.map_set, ← htk, List.take_set]
theorem OT.cell {w : World} {base g n cap : Nat} {xs : List ByteArray} (h : OT w base (.slice (some ⟨g, 0, none⟩) n cap) xs) {k : Nat} {x : ByteArray} (hx : xs[k]? = some x) :
    w.cell? ⟨g, k, none⟩ = some (.string x) ∧ w.frozen? ⟨g, k, none⟩ = false ∧ base ≤ g ∧ g < w.heap.size ∧ n = xs.length ∧ n ≤ cap ∧ cap ≤ 9223372036854775807 := by
  obtain ⟨hl, h⟩ := h
  rcases h with ⟨e, _⟩ | ⟨g', cap', cur, e, hbg, hh, hnc, hcm, hcs, htk⟩
  · cases e
  · cases e
    have hj : k < xs.length := (List.getElem?_eq_some_iff.1 hx).1
    have e : (xs.map Value.string)[k]? = some (.string x) := by rw [List.getElem?_map, hx]; rfl
    rw [← htk, List.getElem?_take, if_pos (by omega)] at e
    refine ⟨?_, frozen_of_row w g k cur _ hh, hbg, ?_, rfl, hnc, by simpa [maxLen] using hcm⟩
    · rw [cell_of_row w g k cur _ (0, 0) hh]
      simpa using e
    · rcases Nat.lt_or_ge g w.heap.size with h1 | h1
      · exact h1
      · rw [Array.getElem?_eq_none h1] at hh; cases hh
theorem OT.block {w : World} {base : Nat} {v : Value} {xs : List ByteArray} (h : OT w base v xs) (h0 : 0 < xs.length) : ∃ g cap, v = .slice (some ⟨g, 0, none⟩) xs.length cap ∧ base ≤ g ∧ g < w.heap.size ∧ xs.length ≤ cap ∧ cap ≤ 9223372036854775807 := by
  rcases h.2 with ⟨e, hn⟩ | ⟨g, cap, cur, e, hbg, hh, hnc, hcm, hcs, htk⟩
  · omega
  · refine ⟨g, cap, e, hbg, ?_, hnc, by simpa [maxLen] using hcm⟩
    rcases Nat.lt_or_ge g w.heap.size with h1 | h1
    · exact h1
    · rw [Array.getElem?_eq_none h1] at hh; cases hh
/-- a store elsewhere leaves a row of the call's own -/
theorem OT.other {w : World} {base : Nat} {v : Value} {xs : List ByteArray} (h : OT w base v xs) {p : Addr} (hp : p.block < base) (u : Value) : OT (w.setCell p u) base v xs := by
  refine ⟨h.1, ?_⟩
  rcases h.2 with ⟨rfl, hn⟩ | ⟨g, cap, cur, rfl, hbg, hh, hrest⟩
  · exact .inl ⟨rfl, hn⟩
  · refine .inr ⟨g, cap, cur, rfl, hbg, ?_, hrest⟩
    rw [heap_setCell_other _ _ _ _ (by omega)]
    exact hh
theorem OT.made (w : World) (base : Nat) (hb : base ≤ w.heap.size) : OT (w.alloc (.cells #[] 9)) base (.slice (some ⟨w.heap.size, 0, none⟩) 0 0) [] :=
  World.ownsRow_made w #[] 0 hb (Nat.zero_le _) rfl
theorem PX.set_same {w : World} {g : Nat} {u v : Value} (h : PX w g u v) (a b : Value) : PX ((w.setCell ⟨g, 0, none⟩ a).setCell ⟨g, 1, none⟩ b) g a b := by
  refine ⟨?_, ?_, ?_, ?_, ?_⟩
  · rw [World.cell?_setCell_other _ _ _ _ (by simp)]
    exact World.cell?_setCell_same _ _ _ h.1
  · exact World.cell?_setCell_same _ _ _ ((World.cell?_setCell_other _ _ _ _ (by simp)).trans h.2.1)
  · rw [World.frozen?_setCell, World.frozen?_setCell]; exact h.2.2.1
  · rw [World.frozen?_setCell, World.frozen?_setCell]; exact h.2.2.2.1
  · simpa using h.2.2.2.2
theorem PX.set_cell {w : World} {g : Nat} {u v : Value} (h : PX w g u v) (p : Addr) (hp : p.block ≠ g) (a : Value) : PX (w.setCell p a) g u v := by
  refine ⟨?_, ?_, ?_, ?_, ?_⟩
  · rw [World.cell?_setCell_other _ _ _ _ (by intro e; exact hp (by rw [e]))]; exact h.1
  · rw [World.cell?_setCell_other _ _ _ _ (by intro e; exact hp (by rw [e]))]; exact h.2.1
  · rw [World.frozen?_setCell]; exact h.2.2.1
  · rw [World.frozen?_setCell]; exact h.2.2.2.1
  · simpa using h.2.2.2.2
theorem PX.grown {w w' : World} {g : Nat} {u v : Value} {row : Option Nat} (h : PX w g u v) (hg : w.grownBy w' row) (hne : some g ≠ row) : PX w' g u v := by
  have hb := hg.block g h.2.2.2.2 hne
  exact ⟨(World.cell?_of_block (w := w) (a := ⟨g, 0, none⟩) hb).trans h.1, (World.cell?_of_block (w := w) (a := ⟨g, 1, none⟩) hb).trans h.2.1, (World.frozen?_of_block (w := w) (a := ⟨g, 0, none⟩) hb).trans h.2.2.1, (World.frozen?_of_block (w := w) (a := ⟨g, 1, none⟩) hb).trans h.2.2.2.1, Nat.lt_of_lt_of_le h.2.2.2.2 hg.size⟩
theorem PX.set_fst {w : World} {g : Nat} {u v : Value} (h : PX w g u v) (a : Value) : PX (w.setCell ⟨g, 0, none⟩ a) g a v := by
  refine ⟨World.cell?_setCell_same _ _ _ h.1, ?_, ?_, ?_, ?_⟩
  · rw [World.cell?_setCell_other _ _ _ _ (by simp)]; exact h.2.1
  · rw [World.frozen?_setCell]; exact h.2.2.1
  · rw [World.frozen?_setCell]; exact h.2.2.2.1
  · simpa using h.2.2.2.2
theorem RT.one1 {w : World} {x : ByteArray} {t : TypeId} {g : Nat} (hg : g = w.heap.size) : RT (w.alloc (.cells #[.string x] t)) (some ⟨g, 0, none⟩) 1 [x] := by
  subst hg
  exact RT.one w x t
theorem txt_ne {x y : ByteArray} (h : x ≠ y) : (x.toList == y.toList) = false := by
  rw [beq_eq_false_iff_ne, Lib.toList_data, Lib.toList_data]
  intro e
  refine h ?_
  rw [← mkB_back x, ← mkB_back y, e]
end Go.Proofs.YteagecjhpfijjaaDoor

