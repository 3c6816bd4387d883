/-
  Edits in memory; the walks of the reference's made, Check of types, and moved.
-/
import Derived.Test.YteagecjhpfijjaaDoorV7
import Derived.Test.YteagecjhpfijjaaDoorW0
namespace Go.Proofs.YteagecjhpfijjaaDoor
set_option linter.unusedSimpArgs false
set_option linter.unusedVariables false
open Go.RowKit

def edV (x : Ed) : List Value := [.string x.path, .int .i64 x.act, .int .i64 x.ty.1, .bool x.ty.2.1, .bool x.ty.2.2.1, .bool x.ty.2.2.2, .int .u64 x.cid.1, .int .i64 x.cid.2, .int .i64 x.base, .string x.frm, .int .i64 x.fnum, .int .i64 x.fence]
def aggE (x : Ed) : Value := .agg #[.string x.path, .int .i64 x.act, .int .i64 x.ty.1, .bool x.ty.2.1, .bool x.ty.2.2.1, .bool x.ty.2.2.2, .int .u64 x.cid.1, .int .i64 x.cid.2, .int .i64 x.base, .string x.frm, .int .i64 x.fnum, .int .i64 x.fence]
def EV (w : World) (A : Option Addr) (c : Nat) (es : List Ed) : Prop := RR w A c 12 (es.map edV)
theorem EV.below {w w' : World} {A : Option Addr} {c : Nat} {es : List Ed} (h : EV w A c es) (hb : Below w.heap.size w w') : EV w' A c es := RR.below h hb
def AtE (w : World) (b o : Nat) (x : Ed) : Prop :=
  w.cell? ⟨b, o, none⟩ = some (.string x.path) ∧ w.cell? ⟨b, o + 1, none⟩ = some (.int .i64 x.act) ∧ w.cell? ⟨b, o + 2, none⟩ = some (.int .i64 x.ty.1) ∧ w.cell? ⟨b, o + 3, none⟩ = some (.bool x.ty.2.1) ∧
  w.cell? ⟨b, o + 4, none⟩ = some (.bool x.ty.2.2.1) ∧ w.cell? ⟨b, o + 5, none⟩ = some (.bool x.ty.2.2.2) ∧ w.cell? ⟨b, o + 6, none⟩ = some (.int .u64 x.cid.1) ∧ w.cell? ⟨b, o + 7, none⟩ = some (.int .i64 x.cid.2) ∧
  w.cell? ⟨b, o + 8, none⟩ = some (.int .i64 x.base) ∧ w.cell? ⟨b, o + 9, none⟩ = some (.string x.frm) ∧ w.cell? ⟨b, o + 10, none⟩ = some (.int .i64 x.fnum) ∧ w.cell? ⟨b, o + 11, none⟩ = some (.int .i64 x.fence)
theorem EV.at_ {w : World} {A : Option Addr} {c : Nat} {es : List Ed} (h : EV w A c es) {j : Nat} {x : Ed} (hj : es[j]? = some x) : ∃ b o, A = some ⟨b, o, none⟩ ∧ b < w.heap.size ∧ AtE w b (o + j * 12) x := by
  obtain ⟨b, o, e, hb, hc⟩ := h.2.2 (by rw [List.length_map]; have := (List.getElem?_eq_some_iff.1 hj).1; omega)
  have hm : (es.map edV)[j]? = some (edV x) := by rw [List.getElem?_map, hj]; rfl
  exact ⟨b, o, e, hb, hc j _ hm 0 _ rfl, hc j _ hm 1 _ rfl, hc j _ hm 2 _ rfl, hc j _ hm 3 _ rfl, hc j _ hm 4 _ rfl, hc j _ hm 5 _ rfl, hc j _ hm 6 _ rfl, hc j _ hm 7 _ rfl, hc j _ hm 8 _ rfl, hc j _ hm 9 _ rfl, hc j _ hm 10 _ rfl, hc j _ hm 11 _ rfl⟩
theorem BX.ed {w : World} {g : Nat} {x : Ed} (h : BX w g (edV x)) : AtE w g 0 x :=
  ⟨h.1 0 _ rfl, h.1 1 _ rfl, h.1 2 _ rfl, h.1 3 _ rfl, h.1 4 _ rfl, h.1 5 _ rfl, h.1 6 _ rfl, h.1 7 _ rfl, h.1 8 _ rfl, h.1 9 _ rfl, h.1 10 _ rfl, h.1 11 _ rfl⟩
set_option maxHeartbeats 1000000 in
set_option maxRecDepth 100000 in
theorem made_any (n : Int) (S T : ByteArray) (A B : Option Addr) (c d m k : Nat) (x : Ed) (w : World) (hx : nearN x.base) :
    Calls Tryd.prog 40 #[.agg #[.int .i64 n, .string S, .string T, .slice A c d, .slice B m k], aggE x] w fun e w' => e = .returned (aggR (madeR n x)) ∧ Below w.heap.size w w' := by
  obtain ⟨n1, n2⟩ := hx
  unfold aggE
  go_enter Tryd.func40, Tryd.ntmps40
  go_wp2_with fail
  refine bodyPost_ret (v := aggR (madeR n x)) (by simp [results, Tryd.results40, go_sem]; rfl) rfl ?_
  exact ⟨rfl, below_three _ _ _ _⟩
/-- what is wrong with a type -/
def tyR (t : Int × Bool × Bool × Bool) : Int := if t.1 < 1 ∨ 3 < t.1 ∨ (t.2.1 = true ∧ t.1 ≠ 1) ∨ (t.2.2.2 = true ∧ t.1 = 3) then 90 else 0
set_option maxHeartbeats 2000000 in
theorem tycheck_any (b : Int) (k q x : Bool) (w : World) :
    Calls Tryd.prog 57 #[.agg #[.int .i64 b, .bool k, .bool q, .bool x]] w fun e w' => e = .returned (.int .i64 (tyR (b, k, q, x))) ∧ Below w.heap.size w w' := by
  have HE : Hid (tyR (b, k, q, x) = if b < 1 ∨ 3 < b ∨ (k = true ∧ b ≠ 1) ∨ (x = true ∧ b = 3) then 90 else 0) := Lib.hid rfl
  by_cases h1 : b < 1
  · have HN : Hid (tyR (b, k, q, x) = 90) := Lib.hid (by rw [HE.out, if_pos (.inl h1)])
    clear HE
    go_enter Tryd.func57, Tryd.ntmps57
    go_wp2_with fail
    go_ret
    exact ⟨ret_int HN.out.symm, below_alloc _ _⟩
  · by_cases h2 : 3 < b
    · have HN : Hid (tyR (b, k, q, x) = 90) := Lib.hid (by rw [HE.out, if_pos (.inr (.inl h2))])
      clear HE
      go_enter Tryd.func57, Tryd.ntmps57
      go_wp2_with fail
      go_ret
      exact ⟨ret_int HN.out.symm, below_alloc _ _⟩
    · by_cases e1 : b = 1
      · subst e1
        have HN : Hid (tyR (1, k, q, x) = 0) := Lib.hid (by rw [HE.out, if_neg (by simp)])
        clear HE h1 h2
        cases k <;> cases x
        all_goals
          go_enter Tryd.func57, Tryd.ntmps57
          go_wp2_with fail
          go_ret
          exact ⟨ret_int HN.out.symm, below_alloc _ _⟩
      · have b1 : (b != 1) = true := by simpa using e1
        cases k with
        | true =>
          have HN : Hid (tyR (b, true, q, x) = 90) := Lib.hid (by rw [HE.out, if_pos (.inr (.inr (.inl ⟨rfl, e1⟩)))])
          clear HE e1
          go_enter Tryd.func57, Tryd.ntmps57
          go_wp2_with fail
          go_ret
          exact ⟨ret_int HN.out.symm, below_alloc _ _⟩
        | false =>
          by_cases e3 : b = 3
          · subst e3
            cases x with
            | true =>
              have HN : Hid (tyR (3, false, q, true) = 90) := Lib.hid (by rw [HE.out, if_pos (.inr (.inr (.inr ⟨rfl, rfl⟩)))])
              clear HE e1 b1 h1 h2
              go_enter Tryd.func57, Tryd.ntmps57
              go_wp2_with fail
              go_ret
              exact ⟨ret_int HN.out.symm, below_alloc _ _⟩
            | false =>
              have HN : Hid (tyR (3, false, q, false) = 0) := Lib.hid (by rw [HE.out, if_neg (by simp)])
              clear HE e1 b1 h1 h2
              go_enter Tryd.func57, Tryd.ntmps57
              go_wp2_with fail
              go_ret
              exact ⟨ret_int HN.out.symm, below_alloc _ _⟩
          · have b3 : (b == 3) = false := by simpa using e3
            have HN : Hid (tyR (b, false, q, x) = 0) := Lib.hid (by rw [HE.out, if_neg (by simp; exact ⟨by omega, by omega, fun _ => e3⟩)])
            clear HE e1 e3
            cases x
            all_goals
              go_enter Tryd.func57, Tryd.ntmps57
              go_wp2_with fail
              go_ret
              exact ⟨ret_int HN.out.symm, below_alloc _ _⟩
end Go.Proofs.YteagecjhpfijjaaDoor

