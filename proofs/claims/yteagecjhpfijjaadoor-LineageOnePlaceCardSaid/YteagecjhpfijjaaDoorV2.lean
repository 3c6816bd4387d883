/-
  Boxes known whole, in the lineage seat; revisions in memory; the walk of Log.
-/
import Derived.Test.YteagecjhpfijjaaDoorM1
import Derived.Test.YteagecjhpfijjaaDoorV1
import Derived.Deep.Cut
import Derived.Deep.RegionHeld3
import Derived.IntWalk
namespace Go.Proofs.YteagecjhpfijjaaDoor
set_option linter.unusedSimpArgs false
set_option linter.unusedVariables false
open Go.RowKit Go.ChangeShapes Go.WideShapes

/-- the cells of a new box -/
theorem cells_new (w : World) (cs : List Value) (T : TypeId) {g : Nat} (hg : g = w.heap.size) : ∀ (k : Nat) (u : Value), cs[k]? = some u → (w.alloc (.cells cs.toArray T)).cell? ⟨g, k, none⟩ = some u := by
  subst hg
  intro k u hu
  rw [World.cell?_alloc_new]
  simpa using hu
/-- a box whose cells are known and may be written -/
def BX (w : World) (g : Nat) (cs : List Value) : Prop := (∀ (j : Nat) u, cs[j]? = some u → w.cell? ⟨g, j, none⟩ = some u) ∧ (∀ i, w.frozen? ⟨g, i, none⟩ = false) ∧ g < w.heap.size
theorem BX.new (w : World) (cs : List Value) (T : TypeId) {g : Nat} (hg : g = w.heap.size) : BX (w.alloc (.cells cs.toArray T)) g cs := by
  subst hg
  refine ⟨cells_new w cs T rfl, fun i => ?_, by simp⟩
  rw [frozen?_alloc_cells]
  simp [World.frozen?]
theorem cell_gb {w w' : World} {g : Nat} {k : Option Nat} (hg : w.grownBy w' k) (hlt : g < w.heap.size) (hne : k ≠ some g) (i : Nat) : w'.cell? ⟨g, i, none⟩ = w.cell? ⟨g, i, none⟩ := World.cell?_of_block (hg.block g hlt (fun e => hne e.symm))
theorem frozen_gb {w w' : World} {g : Nat} {k : Option Nat} (hg : w.grownBy w' k) (hlt : g < w.heap.size) (hne : k ≠ some g) (i : Nat) : w'.frozen? ⟨g, i, none⟩ = w.frozen? ⟨g, i, none⟩ := World.frozen?_of_block (hg.block g hlt (fun e => hne e.symm))
theorem BX.below {w w' : World} {g : Nat} {cs : List Value} (h : BX w g cs) (hb : Below w.heap.size w w') : BX w' g cs :=
  ⟨fun j u hu => (hb.cell (p := ⟨g, j, none⟩) h.2.2).trans (h.1 j u hu), fun i => (hb.frozen (p := ⟨g, i, none⟩) h.2.2).trans (h.2.1 i), Nat.lt_of_lt_of_le h.2.2 hb.size⟩
theorem BX.set {w : World} {g : Nat} {cs : List Value} (h : BX w g cs) {j : Nat} (hj : j < cs.length) (y : Value) : BX (w.setCell ⟨g, j, none⟩ y) g (cs.set j y) := by
  refine ⟨fun i u hu => ?_, fun i => ?_, by simpa [World.setCell] using h.2.2⟩
  · by_cases e : i = j
    · subst e
      rw [List.getElem?_set_self hj] at hu
      cases hu
      exact World.cell?_setCell_same _ _ _ (h.1 i _ (List.getElem?_eq_getElem hj))
    · rw [List.getElem?_set_ne (fun h => e h.symm)] at hu
      rw [World.cell?_setCell_other _ _ _ _ (by intro e2; cases e2; exact e rfl)]
      exact h.1 i u hu
  · rw [World.frozen?_setCell]; exact h.2.1 i
theorem BX.other {w : World} {g : Nat} {cs : List Value} (h : BX w g cs) {p : Addr} (hp : p.block ≠ g) (y : Value) : BX (w.setCell p y) g cs := by
  refine ⟨fun i u hu => ?_, fun i => ?_, by simpa [World.setCell] using h.2.2⟩
  · rw [World.cell?_setCell_other _ _ _ _ (by intro e; exact hp (by rw [e]))]
    exact h.1 i u hu
  · rw [World.frozen?_setCell]; exact h.2.1 i
theorem BX.grown {w w' : World} {g : Nat} {cs : List Value} {k : Option Nat} (h : BX w g cs) (hg : w.grownBy w' k) (hk : k ≠ some g) : BX w' g cs :=
  ⟨fun j u hu => (cell_gb hg h.2.2 hk j).trans (h.1 j u hu), fun i => (frozen_gb hg h.2.2 hk i).trans (h.2.1 i), Nat.lt_of_lt_of_le h.2.2 hg.size⟩
/-- only one block has turned -/
theorem gb_set {a w : World} {k : Option Nat} (h : a.grownBy w k) {p : Addr} (hp : k = some p.block ∨ a.heap.size ≤ p.block) (u : Value) : a.grownBy (w.setCell p u) k :=
  ⟨h.os, h.tape, h.output, by simpa [World.setCell] using h.size, fun i hi hne => (Below.heap_setCell w p u i (by
    rintro rfl
    rcases hp with hp | hp
    · exact hne hp.symm
    · omega)).trans (h.block i hi hne)⟩
theorem gb_al {a w : World} {k : Option Nat} (h : a.grownBy w k) (o : Obj) : a.grownBy (w.alloc o) k :=
  ⟨h.os, h.tape, h.output, Nat.le_trans h.size (by simp), fun i hi hne => (Below.heap_alloc w o i (Nat.lt_of_lt_of_le hi h.size)).trans (h.block i hi hne)⟩
theorem gb_below {a w w' : World} {k : Option Nat} (h : a.grownBy w k) (hb : Below w.heap.size w w') : a.grownBy w' k :=
  ⟨hb.os.trans h.os, hb.tape.trans h.tape, hb.output.trans h.output, Nat.le_trans h.size hb.size, fun i hi hne => (hb.block i (Nat.lt_of_lt_of_le hi h.size)).trans (h.block i hi hne)⟩
theorem below_gb {B : Nat} {a w w' : World} {k : Option Nat} (h : Below B a w) (hg : w.grownBy w' k) (hB : B ≤ w.heap.size) (hk : ∀ j, k = some j → B ≤ j) : Below B a w' := h.grown hg hB hk
/-- a revision's cells -/
def revV (v : Rv) : List Value := [.string v.path, .int .i64 v.num, .int .i64 v.chg, .int .i64 v.act, .int .i64 v.ty.1, .bool v.ty.2.1, .bool v.ty.2.2.1, .bool v.ty.2.2.2, .int .u64 v.cid.1, .int .i64 v.cid.2, .string v.frm, .int .i64 v.fnum]
/-- a revision by value -/
def aggR (v : Rv) : Value := .agg #[.string v.path, .int .i64 v.num, .int .i64 v.chg, .int .i64 v.act, .int .i64 v.ty.1, .bool v.ty.2.1, .bool v.ty.2.2.1, .bool v.ty.2.2.2, .int .u64 v.cid.1, .int .i64 v.cid.2, .string v.frm, .int .i64 v.fnum]
theorem revInfo : (Tryd.prog.info? 40).map (fun i => (i.zero, i.size, i.bytes)) = some (some (.agg #[.string ByteArray.empty, .int .i64 0, .int .i64 0, .int .i64 0, .int .i64 0, .bool false, .bool false, .bool false, .int .u64 0, .int .i64 0, .string ByteArray.empty, .int .i64 0]), 12, 96) := by kernel_rfl
/-- revisions that lie in the world -/
def RV (w : World) (A : Option Addr) (c : Nat) (rs : List Rv) : Prop := RR w A c 12 (rs.map revV)
theorem RV.below {w w' : World} {A : Option Addr} {c : Nat} {rs : List Rv} (h : RV w A c rs) (hb : Below w.heap.size w w') : RV w' A c rs := RR.below h hb
/-- a block's cells from a place on are a revision's -/
def At12 (w : World) (b o : Nat) (v : Rv) : Prop :=
  w.cell? ⟨b, o, none⟩ = some (.string v.path) ∧ w.cell? ⟨b, o + 1, none⟩ = some (.int .i64 v.num) ∧ w.cell? ⟨b, o + 2, none⟩ = some (.int .i64 v.chg) ∧ w.cell? ⟨b, o + 3, none⟩ = some (.int .i64 v.act) ∧
  w.cell? ⟨b, o + 4, none⟩ = some (.int .i64 v.ty.1) ∧ w.cell? ⟨b, o + 5, none⟩ = some (.bool v.ty.2.1) ∧ w.cell? ⟨b, o + 6, none⟩ = some (.bool v.ty.2.2.1) ∧ w.cell? ⟨b, o + 7, none⟩ = some (.bool v.ty.2.2.2) ∧
  w.cell? ⟨b, o + 8, none⟩ = some (.int .u64 v.cid.1) ∧ w.cell? ⟨b, o + 9, none⟩ = some (.int .i64 v.cid.2) ∧ w.cell? ⟨b, o + 10, none⟩ = some (.string v.frm) ∧ w.cell? ⟨b, o + 11, none⟩ = some (.int .i64 v.fnum)
theorem RV.at_ {w : World} {A : Option Addr} {c : Nat} {rs : List Rv} (h : RV w A c rs) {j : Nat} {v : Rv} (hj : rs[j]? = some v) : ∃ b o, A = some ⟨b, o, none⟩ ∧ b < w.heap.size ∧ At12 w b (o + j * 12) v := by
  obtain ⟨b, o, e, hb, hc⟩ := h.2.2 (by rw [List.length_map]; have := (List.getElem?_eq_some_iff.1 hj).1; omega)
  have hm : (rs.map revV)[j]? = some (revV v) := by rw [List.getElem?_map, hj]; rfl
  exact ⟨b, o, e, hb, hc j _ hm 0 _ rfl, hc j _ hm 1 _ rfl, hc j _ hm 2 _ rfl, hc j _ hm 3 _ rfl, hc j _ hm 4 _ rfl, hc j _ hm 5 _ rfl, hc j _ hm 6 _ rfl, hc j _ hm 7 _ rfl, hc j _ hm 8 _ rfl, hc j _ hm 9 _ rfl, hc j _ hm 10 _ rfl, hc j _ hm 11 _ rfl⟩
theorem BX.rev {w : World} {g : Nat} {v : Rv} (h : BX w g (revV v)) : At12 w g 0 v :=
  ⟨h.1 0 _ rfl, h.1 1 _ rfl, h.1 2 _ rfl, h.1 3 _ rfl, h.1 4 _ rfl, h.1 5 _ rfl, h.1 6 _ rfl, h.1 7 _ rfl, h.1 8 _ rfl, h.1 9 _ rfl, h.1 10 _ rfl, h.1 11 _ rfl⟩
theorem wpList_append_rev {w : World} {ops : Array Oper} {rest : List Oper} {o : Oper} {a : Act} {Q : Exit → Act → World → Prop} (hgd : o.guard = none) (s x : Operand)
    (ho : o.op = .call { callee := .builtin .append, args := #[s, x], argTypes := #[25, 25] })
    (base : Nat) (u : Value) (rs : List Rv) (v : Rv) (b c : Nat) (hs' : a.eval s = u) (hx : a.eval x = .slice (some ⟨b, 0, none⟩) 1 c) (hown : OR w base 40 12 u (rs.map revV))
    (hcells : ∀ (k : Nat) (u : Value), (revV v)[k]? = some u → w.cell? ⟨b, k, none⟩ = some u) (hlen : rs.length + 1 ≤ 1000000) (hbase : base ≤ w.heap.size)
    (h : ∀ u' w', OR w' base 40 12 u' ((rs ++ [v]).map revV) → w.grownBy w' u.ownBlock → (u'.ownBlock = u.ownBlock ∨ u'.ownBlock = some w.heap.size) → wpList Tryd.prog ops Q rest (a.put o.dst u') w') : wpList Tryd.prog ops Q (o :: rest) a w := by
  obtain ⟨i, hi, hz0, hz1, hz2⟩ := info_parts revInfo
  refine wpList_append_row Tryd.underlying25 hi hz0 hz1 hz2 rfl (by decide) (by decide) hgd s x ho base u (rs.map revV) (revV v) b c hs' hx hown rfl hcells ?_ (by rw [List.length_map]; exact hlen) hbase ?_
  · intro u hu
    unfold revV at hu
    simp only [List.mem_cons, List.not_mem_nil, or_false] at hu
    rcases hu with rfl | rfl | rfl | rfl | rfl | rfl | rfl | rfl | rfl | rfl | rfl | rfl <;> rfl
  · intro v' w' h1 h2 h3
    exact h v' w' (by rw [List.map_append]; exact h1) h2 h3
theorem str_eqb {u v : ByteArray} (h : u ≠ v) : (u.toList == v.toList) = false := by
  rw [beq_eq_false_iff_ne]
  intro e
  rw [Lib.toList_data, Lib.toList_data] at e
  apply h
  rw [← mkB_back u, ← mkB_back v, e]
theorem str_eqt {u v : ByteArray} (h : u = v) : (u.toList == v.toList) = true := by rw [h]; simp
/-- revisions come back -/
def RetV (w : World) (rs : List Rv) (e : Ending) (w' : World) : Prop := ∃ A c, e = .returned (.slice A rs.length c) ∧ RV w' A c rs ∧ Below w.heap.size w w'
/-- a revision, or none, comes back -/
def RetOR (w : World) (o : Option Rv) (e : Ending) (w' : World) : Prop := e = .returned (.tuple #[aggR (o.getD rv0), .bool o.isSome]) ∧ Below w.heap.size w w'

set_option maxHeartbeats 2000000 in
set_option maxRecDepth 100000 in
theorem log_any (A B : Option Addr) (c m d : Nat) (rs : List Rv) (p : ByteArray) (w : World) (h : RV w A c rs) (hl : rs.length ≤ 100000) :
    Calls Tryd.prog 45 #[.agg #[.slice A rs.length c, .slice B m d], .string p] w (RetV w (logR rs p)) := by
  have h1 := h.1
  have h2 := h.2.1
  rw [List.length_map] at h1
  have HR := Lib.hid h
  clear h
  go_enter Tryd.func45, Tryd.ntmps45
  go_wp2_with fail
  go_loopw [5, 11] (fun o i wr => ∃ k : Nat, k ≤ rs.length ∧ i = .int .i64 k ∧ Hid (OR wr (w.heap.size + 1) 40 12 o ((logR (rs.take k) p).map revV)) ∧ Hid (Below w.heap.size w wr) ∧ w.heap.size + 1 ≤ wr.heap.size) (fun _ i _ => rs.length - (intOf i).toNat)
  case atStart => exact ⟨0, Nat.zero_le _, rfl, Lib.hid (OR.nil _ _ _ _), Lib.hid (below_al (Below.refl _ _) _), by simp⟩
  case round =>
    obtain ⟨k, hk, rfl, HO, HB, hsz⟩ := hrel
    by_cases hlt : k < rs.length
    · obtain ⟨v, hv⟩ : ∃ v, rs[k]? = some v := ⟨_, List.getElem?_eq_getElem hlt⟩
      obtain ⟨b, o', rfl, hb1, x0, x1, x2, x3, x4, x5, x6, x7, x8, x9, x10, x11⟩ := (HR.out.below HB.out).at_ hv
      have HLS := Lib.hid (logR_snoc rs p hv)
      have HLL : Hid ((logR (rs.take k) p).length ≤ 100000) := Lib.hid (by
        have : (logR (rs.take k) p).length ≤ (rs.take k).length := List.length_filter_le _ _
        rw [List.length_take] at this
        omega)
      clear hv hb1
      by_cases e : v.path = p
      · have he := str_eqt e
        have HN : Hid (logR (rs.take (k + 1)) p = logR (rs.take k) p ++ [v]) := Lib.hid (by rw [HLS.out, if_pos e])
        clear e HLS
        generalize logR (rs.take k) p = ls at *
        go_wp2_with (at_builtin; refine wpList_append_rev rfl _ _ rfl (w.heap.size + 1) _ ls v _ 1 rfl rfl ((HO.out.below (below_alloc _ _)).below (below_alloc _ _)) (cells_new _ [_, _, _, _, _, _, _, _, _, _, _, _] _ (by simp)) (by have := HLL.out; omega) (by simp; omega) ?_; intro v1 w1 hown hg _; have HB1 := Lib.hid (((HB.out.alloc HB.out.size _).alloc (by have := HB.out.size; simp; omega) _).grown hg (by have := HB.out.size; simp; omega) (fun k hk => by have := (HO.out.own k hk).1; omega)); have HOW := Lib.hid hown; have hs1 : w.heap.size + 1 ≤ w1.heap.size := (by have := hg.size; simp at this; omega); clear hown hg)
        go_roundw
        case rel => exact ⟨k + 1, by omega, by go_num, Lib.hid (by rw [HN.out]; exact HOW.out), HB1, hs1⟩
        case measure => simp [intOf]; omega
      · have he := str_eqb e
        have HN : Hid (logR (rs.take (k + 1)) p = logR (rs.take k) p) := Lib.hid (by rw [HLS.out, if_neg e, List.append_nil])
        clear e HLS
        go_wp2_with fail
        go_roundw
        case rel => exact ⟨k + 1, by omega, by go_num, Lib.hid (by rw [HN.out]; exact HO.out.below (below_alloc _ _)), Lib.hid (HB.out.alloc HB.out.size _), by simp; omega⟩
        case measure => simp [intOf]; omega
    · obtain rfl : k = rs.length := by omega
      have hO := HO.out
      rw [List.take_length] at hO
      obtain ⟨A', c', hv, hrr⟩ := hO.read
      subst hv
      have HRR := Lib.hid hrr
      clear hO hrr HO
      simp only [List.length_map]
      go_wp2_with fail
      go_ret
      exact ⟨A', c', rfl, HRR.out, HB.out⟩
end Go.Proofs.YteagecjhpfijjaaDoor

