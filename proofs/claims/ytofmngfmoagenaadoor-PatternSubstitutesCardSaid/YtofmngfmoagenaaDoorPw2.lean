/-
  The walks of cmp.Compare at bytes and of Compare on paths; long.
-/
import Derived.Test.YtofmngfmoagenaaDoorPw1
import Derived.Below
import Derived.Deep.Draws
namespace Go.Proofs.YtofmngfmoagenaaDoor
set_option linter.unusedSimpArgs false
set_option linter.unusedVariables false
open Go.RowKit
open Pm

/-- the bytes from k on, where the first k are equal -/
theorem pc_drop (a b : List UInt8) (k : Nat) (x y : UInt8) (ha : a[k]? = some x) (hb : b[k]? = some y) (h : pcmp a b = pcmp (a.drop k) (b.drop k)) :
    (x = y → pcmp a b = pcmp (a.drop (k + 1)) (b.drop (k + 1))) ∧
    (x ≠ y → pcmp a b = if x = 47 then -1 else if y = 47 then 1 else if x < y then -1 else 1) := by
  obtain ⟨ha1, rfl⟩ := List.getElem?_eq_some_iff.1 ha
  obtain ⟨hb1, rfl⟩ := List.getElem?_eq_some_iff.1 hb
  rw [List.drop_eq_getElem_cons ha1, List.drop_eq_getElem_cons hb1] at h
  constructor
  · intro e
    rw [h, pcmp, if_pos e]
  · intro e
    rw [h, pcmp, if_neg e]
theorem pc_end (a b : List UInt8) (k : Nat) (h : pcmp a b = pcmp (a.drop k) (b.drop k)) (hk : k = a.length ∨ k = b.length) (hka : k ≤ a.length) (hkb : k ≤ b.length) :
    pcmp a b = Lib.compareInt (a.length : Int) (b.length : Int) := by
  rw [h]
  unfold Lib.compareInt
  by_cases ea : k = a.length
  · have : a.drop k = [] := List.drop_of_length_le (by omega)
    rw [this]
    by_cases eb : k = b.length
    · have : b.drop k = [] := List.drop_of_length_le (by omega)
      rw [this, if_neg (by omega), if_neg (by omega)]
      rfl
    · rw [List.drop_eq_getElem_cons (show k < b.length by omega), if_pos (by omega)]
      rfl
  · have eb : k = b.length := by omega
    have : b.drop k = [] := List.drop_of_length_le (by omega)
    rw [this, List.drop_eq_getElem_cons (show k < a.length by omega), if_neg (by omega), if_pos (by omega)]
    rfl

theorem byte_eqB {x y : UInt8} (h : x = y) : ((x.toNat : Int) == (y.toNat : Int)) = true := by rw [h]; simp
theorem byte_neB {x y : UInt8} (h : x ≠ y) : ((x.toNat : Int) == (y.toNat : Int)) = false := by
  rw [beq_eq_false_iff_ne]
  intro e
  exact h (UInt8.toNat_inj.1 (by omega))
theorem byte_47 {x : UInt8} (h : x = 47) : ((x.toNat : Int) == 47) = true := by rw [h]; rfl
theorem byte_n47 {x : UInt8} (h : x ≠ 47) : ((x.toNat : Int) == 47) = false := by
  rw [beq_eq_false_iff_ne]
  intro e
  exact h (UInt8.toNat_inj.1 (by show x.toNat = 47; omega))

theorem byte_cmp {x y : UInt8} (h : x ≠ y) : (if x < y then -1 else 1 : Int) = Lib.compareInt (x.toNat : Int) (y.toNat : Int) := by
  unfold Lib.compareInt
  have hne : ¬ x.toNat = y.toNat := fun e => h (UInt8.toNat_inj.1 e)
  by_cases hlt : x < y
  · have := UInt8.lt_iff_toNat_lt.1 hlt
    rw [if_pos hlt, if_pos (by omega)]
  · have : ¬ x.toNat < y.toNat := fun e => hlt (UInt8.lt_iff_toNat_lt.2 e)
    rw [if_neg hlt, if_neg (by omega), if_pos (by omega)]

theorem ret_ii {k l : IntKind} {a b c d : Int} (h : a = c) (h2 : b = d) : Ending.returned (.tuple #[.int k a, .int l b]) = .returned (.tuple #[.int k c, .int l d]) := by rw [h, h2]
theorem below_drewN {B : Nat} {a w : World} (h : Below B a w) (n : Nat) : Below B a (w.drewN n) := ⟨h.os, h.tape, h.output, h.size, h.block⟩
theorem quiet_left {P : Program} {f : FuncId} {args : Array Value} {w : World} {n : Nat} {v : Value}
    (h : Calls P f args (w.drewN n) fun e w' => e = .returned v ∧ w.drewN n = w') : Calls P f args (w.drewN n) fun e w'' => e = .returned v ∧ ∃ m, w'' = w.drewN m :=
  h.mono fun _ _ ⟨he, hm⟩ => ⟨he, n, hm.symm⟩
theorem quiet_add_left {P : Program} {f : FuncId} {args : Array Value} {w : World} {a n : Nat} {v : Value}
    (h : Calls P f args (w.drewN (a + n)) fun e w' => e = .returned v ∧ w.drewN (a + n) = w') :
    Calls P f args (w.drewN (a + n)) fun e w'' => e = .returned v ∧ ∃ m, w'' = w.drewN (a + m) :=
  h.mono fun _ _ ⟨he, hm⟩ => ⟨he, n, hm.symm⟩

end Go.Proofs.YtofmngfmoagenaaDoor

