/-
  Maps from names to revisions; the walks of the program's members.
-/
import Derived.Test.YteagecjhpfijjaaDoorV25
import Derived.Test.YteagecjhpfijjaaDoorV27
import Derived.Test.YteagecjhpfijjaaDoorV20
import Derived.Test.YteagecjhpfijjaaDoorO1
import Derived.Maps.OwnSet
import Derived.DeepKeys4
import Derived.Carry
namespace Go.Proofs.YteagecjhpfijjaaDoor
set_option linter.unusedSimpArgs false
set_option linter.unusedVariables false
open Go.RowKit Go.WideShapes

theorem fileKeyed : Maps.Keyed Tryd.prog 31 :=
  Maps.Keyed.of_law (deep_law_laid (m := 5) (by kernel_rfl) (by decide) (of_decide_eq_true (by kernel_rfl)) (by kernel_rfl) (by kernel_rfl))
def fileA (f : ByteArray × Int) : Value := .agg #[.string f.1, .int .i64 f.2]
/-- a name that a map takes -/
def okF (f : ByteArray × Int) : Prop := f.1.size ≤ 9223372036854775807 ∧ (Lit.int .i64 f.2).wf = true
def KL (f : ByteArray × Int) : Lit := .string (keyBytes [.string f.1.data.toList, .int .i64 f.2])
theorem keyOf_file {f : ByteArray × Int} (h : okF f) : keyOf Tryd.prog 31 (fileA f) = some (KL f) := by
  obtain ⟨h1, h2⟩ := h
  have hk : Tryd.prog.keyType 31 = true := by kernel_rfl
  have hc : Tryd.prog.cellsOf 31 = 2 := by kernel_rfl
  have hcs : Tryd.prog.cellsOf 9 = 1 := by kernel_rfl
  have hci : Tryd.prog.cellsOf 3 = 1 := by kernel_rfl
  obtain ⟨n, hn⟩ : ∃ n, Tryd.prog.types.size + 1 = n + 2 := ⟨Tryd.prog.types.size - 1, by have : 1 ≤ Tryd.prog.types.size := of_decide_eq_true (by kernel_rfl); omega⟩
  unfold keyOf
  rw [Tryd.underlying31, hn]
  simp only [hk, Value.formed, fileA, Tryd.underlying31, hc]
  have hs : f.1.size ≤ maxLen := h1
  simp [Program.keyLits, Tryd.underlying31, Tryd.underlying9, Tryd.underlying3, hc, hcs, hci, Value.cells, hs, h2, KL]
theorem KL_inj {f g : ByteArray × Int} (hf : okF f) (hg : okF g) (h : KL f = KL g) : f = g := by
  have := fileKeyed.inj (keyOf_file hf) (h ▸ keyOf_file hg)
  unfold fileA at this
  simp at this
  exact Prod.ext this.1 this.2
theorem KL_key {f : ByteArray × Int} (hf : okF f) : WideAt.IsKeyLit (KL f) := fileKeyed.key (keyOf_file hf)
/-- a value is held as it is -/
def RH (v : Value) : Option (DataW Value × List MemPlace) := some (.held v, [])
/-- block b is a map from names to values that reads as M, with so many entries -/
def MPv (w : World) (b : Nat) (M : ByteArray × Int → Option Value) (cnt : Nat) : Prop :=
  ∃ (n : Nat) (D : DataW Value), w.ownsMap Tryd.prog 31 RH b n D ∧ n ≤ 100000 ∧ Maps.size D = cnt ∧
    ∀ f, okF f → Maps.has D (KL f) = (M f).isSome ∧ ∀ z, D.atKey (KL f) z = match M f with | some v => .held v | none => z
theorem MPv.grown {w w' : World} {b : Nat} {M : ByteArray × Int → Option Value} {cnt : Nat} {row : Option Nat} (h : MPv w b M cnt) (hg : w.grownBy w' row) (hne : some b ≠ row) : MPv w' b M cnt := by
  obtain ⟨n, D, h1, h2⟩ := h
  exact ⟨n, D, h1.kept hg hne, h2⟩
theorem MPv.lt {w : World} {b : Nat} {M : ByteArray × Int → Option Value} {cnt : Nat} (h : MPv w b M cnt) : b < w.heap.size := by
  obtain ⟨n, D, h1, _⟩ := h
  exact h1.lt
theorem grown_below {w w' : World} (hb : Below w.heap.size w w') : w.grownBy w' none := ⟨hb.os, hb.tape, hb.output, hb.size, fun i hi _ => hb.block i hi⟩
theorem MPv.below {w w' : World} {b : Nat} {M : ByteArray × Int → Option Value} {cnt : Nat} (h : MPv w b M cnt) (hb : Below w.heap.size w w') : MPv w' b M cnt := h.grown (grown_below hb) (by simp)
theorem MPv.made (w : World) : MPv (w.alloc (.map #[] 0)) w.heap.size (fun _ => none) 0 :=
  ⟨0, .map [], World.ownsMap_made _ _ _ _, by omega, rfl, fun f hf => ⟨rfl, fun z => rfl⟩⟩
theorem zeroRev (w : World) : (zeroValue 40).run Tryd.prog w = .ok (aggR rv0) w := by kernel_rfl
section
variable {w : World} {ops : Array Oper} {rest : List Oper} {o : Oper} {a : Act} {Q : Exit → Act → World → Prop}
/-- a store at the operation -/
theorem MPv.put {e t : TypeId} {b : Nat} {M : ByteArray × Int → Option Value} {cnt : Nat} (h : MPv w b M cnt) (ht : Tryd.prog.underlying t = some (.map 31 e)) {f : ByteArray × Int} (hf : okF f) (val : Value) (hn : cnt < 1000) :
    ∃ w', (Instr.mapUpdate t (.map (some b)) (fileA f) val).run Tryd.prog w = .ok () w' ∧ MPv w' b (fun g => if g = f then some val else M g) (if (M f).isSome then cnt else cnt + 1) ∧ w.grownBy w' (some b) := by
  obtain ⟨n, D, h1, h2, h3, h4⟩ := h
  obtain ⟨es, clock, hb, F, hs, hD⟩ := h1
  have hes : es.size ≤ 1000 := by
    have : Maps.size D = es.size := by rw [hD]; simp [Maps.size, length_sorted]
    omega
  have h1' : w.ownsMap Tryd.prog 31 RH b 1000 D := ⟨es, clock, hb, F, hes, hD⟩
  obtain ⟨w', hrun, hown, hg⟩ := h1'.update fileKeyed ht (by simp [maxLen]) (keyOf_file hf) (show RH val = some (.held val, []) from rfl)
  have hT : Maps.Tidy D := h1'.tidy fileKeyed
  refine ⟨w', hrun, ⟨_, _, hown, by omega, ?_, fun g hg' => ?_⟩, hg⟩
  · rw [Maps.size_put hT, (h4 f hf).1, h3]
  · by_cases e : g = f
    · subst e
      dsimp only
      rw [if_pos rfl]
      exact ⟨by rw [Maps.has_put_same hT.isMap (KL_key hg')]; rfl, fun z => by rw [Maps.atKey_put_same hT.isMap (KL_key hg')]⟩
    · dsimp only
      rw [if_neg e]
      have hne : KL g ≠ KL f := fun h => e (KL_inj hg' hf h)
      rw [Maps.has_put_other hne]
      refine ⟨(h4 g hg').1, fun z => ?_⟩
      rw [Maps.atKey_put_other hne]
      exact (h4 g hg').2 z
/-- a look-up -/
theorem MPv.look {e t : TypeId} {b : Nat} {M : ByteArray × Int → Option Value} {cnt : Nat} (h : MPv w b M cnt) (ht : Tryd.prog.underlying t = some (.map 31 e)) {z : Value} (hz : (zeroValue e).run Tryd.prog w = .ok z w) {f : ByteArray × Int} (hf : okF f) :
    (Instr.lookup t (.map (some b)) (fileA f) true).run Tryd.prog w = .ok (.tuple #[(M f).getD z, .bool (M f).isSome]) w := by
  obtain ⟨n, D, h1, h2, h3, h4⟩ := h
  obtain ⟨v, ps, hrun, hv⟩ := h1.look_ok fileKeyed ht hz (show RH z = some (.held z, []) from rfl) (keyOf_file hf)
  rw [hrun, (h4 f hf).1]
  have hat := (h4 f hf).2 (.held z)
  unfold RH at hv
  rw [hat] at hv
  have hv := congrArg Prod.fst (Option.some.inj hv)
  cases hM : M f with
  | none => rw [hM] at hv; simp only at hv; cases hv; rfl
  | some u => rw [hM] at hv; simp only at hv; cases hv; rfl
theorem MPv.look0 {e t : TypeId} {b : Nat} {M : ByteArray × Int → Option Value} {cnt : Nat} (h : MPv w b M cnt) (ht : Tryd.prog.underlying t = some (.map 31 e)) {z : Value} (hz : (zeroValue e).run Tryd.prog w = .ok z w) {f : ByteArray × Int} (hf : okF f) :
    (Instr.lookup t (.map (some b)) (fileA f) false).run Tryd.prog w = .ok ((M f).getD z) w := by
  obtain ⟨n, D, h1, h2, h3, h4⟩ := h
  obtain ⟨v, ps, hrun, hv⟩ := h1.lookup fileKeyed ht hz (show RH z = some (.held z, []) from rfl) (keyOf_file hf)
  rw [hrun]
  have hat := (h4 f hf).2 (.held z)
  unfold RH at hv
  rw [hat] at hv
  have hv := congrArg Prod.fst (Option.some.inj hv)
  cases hM : M f with
  | none => rw [hM] at hv; simp only at hv; cases hv; rfl
  | some u => rw [hM] at hv; simp only at hv; cases hv; rfl
theorem MPv.len {e t : TypeId} {b : Nat} {M : ByteArray × Int → Option Value} {cnt : Nat} (h : MPv w b M cnt) (ht : Tryd.prog.underlying t = some (.map 31 e)) (ty : TypeId) : (Builtin.len_ #[t] ty #[.map (some b)]).run Tryd.prog w = .ok (.int .i64 cnt) w := by
  obtain ⟨n, D, h1, h2, h3, h4⟩ := h
  rw [h1.len ht ty, h3]
end
/-- the members of a list of revisions, as the program's map has them -/
def MM_ (rs : List Rv) (f : ByteArray × Int) : Option Value := (mapR rs f).map aggR
def cntM (rs : List Rv) : Nat := (rs.filter (fun v => v.act != 5)).length
end Go.Proofs.YteagecjhpfijjaaDoor

