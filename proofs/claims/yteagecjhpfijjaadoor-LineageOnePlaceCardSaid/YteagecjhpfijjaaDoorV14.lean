/-
  Equality of types, contents, files and revisions by value.
-/
import Derived.Test.YteagecjhpfijjaaDoorV10
import Derived.Laws.StructEq
namespace Go.Proofs.YteagecjhpfijjaaDoor
set_option linter.unusedSimpArgs false
set_option linter.unusedVariables false
open Go.RowKit

theorem ty_eqd (dd : Nat) (b c : Int) (k q x l r y : Bool) (w : World) : (Op.equalIn (dd + 2) 35 (.agg #[.int .i64 b, .bool k, .bool q, .bool x]) (.agg #[.int .i64 c, .bool l, .bool r, .bool y])).run Tryd.prog w = .ok (b == c && (k == l && (q == r && x == y))) w := by
  have h := Tryd.underlying35
  rw [run_equalIn_agg w (dd + 1) 35 _ _ (by kernel_rfl) (by kernel_rfl)]
  simp [Program.fieldsOf, h, Op.eqFields, go_sem]
  by_cases e1 : b = c <;> by_cases e2 : k = l <;> by_cases e3 : q = r <;> by_cases e4 : x = y <;> simp [e1, e2, e3, e4]
theorem cid_eqd (dd : Nat) (a b c d : Int) (w : World) : (Op.equalIn (dd + 2) 38 (.agg #[.int .u64 a, .int .i64 b]) (.agg #[.int .u64 c, .int .i64 d])).run Tryd.prog w = .ok (a == c && b == d) w := by
  have h := Tryd.underlying38
  rw [run_equalIn_agg w (dd + 1) 38 _ _ (by kernel_rfl) (by kernel_rfl)]
  simp [Program.fieldsOf, h, Op.eqFields, go_sem]
  by_cases e1 : a = c <;> by_cases e2 : b = d <;> simp [e1, e2]
theorem file_eqd (dd : Nat) (p q : ByteArray) (a b : Int) (w : World) : (Op.equalIn (dd + 2) 31 (.agg #[.string p, .int .i64 a]) (.agg #[.string q, .int .i64 b])).run Tryd.prog w = .ok (p.toList == q.toList && a == b) w := by
  have h := Tryd.underlying31
  rw [run_equalIn_agg w (dd + 1) 31 _ _ (by kernel_rfl) (by kernel_rfl)]
  simp [Program.fieldsOf, h, Op.eqFields, go_sem]
  by_cases e1 : p.toList = q.toList <;> by_cases e2 : a = b <;> simp [e1, e2]
/-- two revisions are equal, field by field -/
def revB (u v : Rv) : Bool := u.path.toList == v.path.toList && (u.num == v.num && (u.chg == v.chg && (u.act == v.act && ((u.ty.1 == v.ty.1 && (u.ty.2.1 == v.ty.2.1 && (u.ty.2.2.1 == v.ty.2.2.1 && u.ty.2.2.2 == v.ty.2.2.2))) && ((u.cid.1 == v.cid.1 && u.cid.2 == v.cid.2) && (u.frm.toList == v.frm.toList && u.fnum == v.fnum))))))
theorem revPart4 (a0 a1 a2 a3 a4 a5 a6 a7 a8 a9 a10 a11 : Value) (w : World) : (_root_.Go.part 35 #[a0, a1, a2, a3, a4, a5, a6, a7, a8, a9, a10, a11] 4).run Tryd.prog w = .ok (.agg #[a4, a5, a6, a7]) w := by kernel_rfl
theorem revPart8 (a0 a1 a2 a3 a4 a5 a6 a7 a8 a9 a10 a11 : Value) (w : World) : (_root_.Go.part 38 #[a0, a1, a2, a3, a4, a5, a6, a7, a8, a9, a10, a11] 8).run Tryd.prog w = .ok (.agg #[a8, a9]) w := by kernel_rfl
theorem rev_eq (u v : Rv) (w : World) : (Op.equalIn 10000 40 (aggR u) (aggR v)).run Tryd.prog w = .ok (revB u v) w := by
  have h := Tryd.underlying40
  have ht := fun b c k q x l r y => ty_eqd 9997 b c k q x l r y
  have hc := fun a b c d => cid_eqd 9997 a b c d
  unfold aggR
  rw [run_equalIn_agg w 9999 40 _ _ (by kernel_rfl) (by kernel_rfl)]
  simp [Program.fieldsOf, h, Op.eqFields, go_sem, revPart4, revPart8, ht, hc]
  unfold revB
  by_cases ne1 : ¬ u.path.toList = v.path.toList
  · simp [ne1]
  have e1 := Decidable.not_not.1 ne1
  clear ne1
  by_cases ne2 : ¬ u.num = v.num
  · simp [e1, ne2]
  have e2 := Decidable.not_not.1 ne2
  clear ne2
  by_cases ne3 : ¬ u.chg = v.chg
  · simp [e1, e2, ne3]
  have e3 := Decidable.not_not.1 ne3
  clear ne3
  by_cases ne4 : ¬ u.act = v.act
  · simp [e1, e2, e3, ne4]
  have e4 := Decidable.not_not.1 ne4
  clear ne4
  by_cases ne5 : ¬ u.ty.1 = v.ty.1
  · simp [e1, e2, e3, e4, ne5]
  have e5 := Decidable.not_not.1 ne5
  clear ne5
  by_cases ne6 : ¬ u.ty.2.1 = v.ty.2.1
  · simp [e1, e2, e3, e4, e5, ne6]
  have e6 := Decidable.not_not.1 ne6
  clear ne6
  by_cases ne7 : ¬ u.ty.2.2.1 = v.ty.2.2.1
  · simp [e1, e2, e3, e4, e5, e6, ne7]
  have e7 := Decidable.not_not.1 ne7
  clear ne7
  by_cases ne8 : ¬ u.ty.2.2.2 = v.ty.2.2.2
  · simp [e1, e2, e3, e4, e5, e6, e7, ne8]
  have e8 := Decidable.not_not.1 ne8
  clear ne8
  by_cases ne9 : ¬ u.cid.1 = v.cid.1
  · simp [e1, e2, e3, e4, e5, e6, e7, e8, ne9]
  have e9 := Decidable.not_not.1 ne9
  clear ne9
  by_cases ne10 : ¬ u.cid.2 = v.cid.2
  · simp [e1, e2, e3, e4, e5, e6, e7, e8, e9, ne10]
  have e10 := Decidable.not_not.1 ne10
  clear ne10
  by_cases ne11 : ¬ u.frm.toList = v.frm.toList
  · simp [e1, e2, e3, e4, e5, e6, e7, e8, e9, e10, ne11]
  have e11 := Decidable.not_not.1 ne11
  clear ne11
  by_cases ne12 : ¬ u.fnum = v.fnum
  · simp [e1, e2, e3, e4, e5, e6, e7, e8, e9, e10, e11, ne12]
  have e12 := Decidable.not_not.1 ne12
  clear ne12
  simp [e1, e2, e3, e4, e5, e6, e7, e8, e9, e10, e11, e12]
theorem txt_inj {a b : ByteArray} (h : a.toList = b.toList) : a = b := by
  rw [Lib.toList_data, Lib.toList_data] at h
  rw [← mkB_back a, ← mkB_back b, h]
theorem revB_iff (u v : Rv) : revB u v = true ↔ u = v := by
  refine ⟨fun h => ?_, fun h => ?_⟩
  · unfold revB at h
    simp at h
    obtain ⟨h1, h2, h3, h4, ⟨h5, h6, h7, h8⟩, ⟨h9, h10⟩, h11, h12⟩ := h
    cases u
    cases v
    simp only [Rv.mk.injEq]
    exact ⟨txt_inj h1, h2, h3, h4, Prod.ext h5 (Prod.ext h6 (Prod.ext h7 h8)), Prod.ext h9 h10, txt_inj h11, h12⟩
  · subst h
    unfold revB
    simp
theorem revB_self (u : Rv) : revB u u = true := (revB_iff u u).2 rfl
/-- two files are equal -/
def fileB (p q : ByteArray) (a b : Int) : Bool := p.toList == q.toList && a == b
theorem fileB_iff (p q : ByteArray) (a b : Int) : fileB p q a b = true ↔ (p, a) = (q, b) := by
  unfold fileB
  refine ⟨fun h => ?_, fun h => ?_⟩
  · simp at h
    rw [txt_inj h.1, h.2]
  · cases h
    simp
theorem file_eq (p q : ByteArray) (a b : Int) (w : World) : (Op.equalIn 10000 31 (.agg #[.string p, .int .i64 a]) (.agg #[.string q, .int .i64 b])).run Tryd.prog w = .ok (fileB p q a b) w := file_eqd 9998 p q a b w
end Go.Proofs.YteagecjhpfijjaaDoor

