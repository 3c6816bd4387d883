/-
  Several texts in one: Fr, Ft, Fp.
-/
import Derived.Test.YtidjmbmnfnnleaaDoorRows
import Derived.WalkKit
import Derived.ProofKit
import Derived.OpenShut
import Derived.ShutString
import Derived.ChangeOld
import Derived.Below
import Derived.Lay
import Derived.LaidMore
import Derived.SevenTiedAt
import Derived.SliceStrings
import Derived.Deep.DeepHandedRow
import Derived.Test.YtidjmbmnfnnleaaDoorMA
import Derived.SizedLaws

/-
  The base of the frames: closed facts of the program, the witness at a world that lays the listed variables.
-/
namespace Go.Proofs.YtidjmbmnfnnleaaDoor
set_option linter.unusedSimpArgs false
set_option linter.unusedVariables false
open Go.ChangeShapes Go.WideShapes Go.ChangeAt Go.RowKit

theorem own : ownKnob Tryd.prog.godebug = none := by kernel_rfl
theorem laidOut : laidOutB Tryd.prog = true := by kernel_rfl

theorem witness_row_shaped {H : Type} {enc : TypeId × Value → H} {C : Checked} {os : Os} {f : FuncId} {fn : Func} {s : OpenSpec} {conds : List PathCond} {apart : Bool} {laid : List (String × DataW Unit)} (modest : Bool) (w0 : World) (args : Array Value) (hos : w0.os = os)
    (hsh : (w0.forCall (fun _ _ => 0) ⟨#[], args, []⟩).Shaped C.prog)
    (hok : Input.okWideB C.prog (w0.forCall (fun _ _ => 0) ⟨#[], args, []⟩) f ⟨#[], args, []⟩ = true)
    (hrow : s.preRow enc C.prog fn conds apart laid (w0.forCall (fun _ _ => 0) ⟨#[], args, []⟩).memory args) :
    ∃ (w : World) (tape : Tape) (i : Input), w.os = os ∧ (w.forCall tape i).Shaped C.prog ∧ i.vars = [] ∧ Input.okWide C.prog (w.forCall tape i) .any w.heap.size f i ∧
      s.preRow enc C.prog fn conds apart laid (w.forCall tape i).memory i.args ∧ ({ modest := modest } : Assume).holds C.prog (lone (Frame.enter C.prog f i.args .normal) [] (w.forCall tape i)) :=
  ⟨w0, fun _ _ => 0, ⟨#[], args, []⟩, hos, hsh, (Input.okWide_of_okWideB (base := 0) hok).1, (Input.okWide_of_okWideB hok).2, hrow, by
    simp only [Assume.holds]
    exact ⟨by simp, by simp, fun _ => Modest.zero, by simp, by simp⟩⟩
end Go.Proofs.YtidjmbmnfnnleaaDoor

/-
  A parameter that is a list of texts, opened.
-/
namespace Go.Proofs.YtidjmbmnfnnleaaDoor
set_option linter.unusedSimpArgs false
set_option linter.unusedVariables false
open Go.ChangeShapes Go.WideShapes Go.ChangeAt Go.RowKit

theorem open_texts {H : Type} {enc : TypeId × Value → H} {P : Program} {W : World} {base : Nat} {t e : TypeId} {v : Value} {d : DataW H} {p : List MemPlace} {r : Reach} {b0 : Nat}
    (ht : P.underlying t = some (.slice e)) (he : P.underlying e = some .string) (hc : P.cellsOf e = 1) (hv : Value.okWide P W r b0 t v)
    (h : DataW.Trod enc P W base (fun _ => true) true t v d p) (hlt : ∀ x ∈ p, x.block < W.heap.size) :
    ∃ xs : List ByteArray, ∃ A c, v = .slice A xs.length c ∧ RT W A c xs ∧ ∀ x ∈ xs, x.size ≤ maxLen := by
  obtain ⟨a0, len, cap, rfl⟩ := okWide_slice ht hv
  obtain ⟨fuel, hf⟩ := h
  rcases open_strings ht he hc hf with ⟨hcs, _⟩ | ⟨a, l, c, ss, hcs, _, hl, hm, hz, hx, hcell, hws⟩
  · simp [Value.cells] at hcs
    obtain ⟨rfl, rfl, rfl⟩ := hcs
    exact ⟨[], none, 0, rfl, RT.nil W none 0 (by omega), fun x hx => by cases hx⟩
  · simp [Value.cells] at hcs
    obtain ⟨rfl, rfl, rfl⟩ := hcs
    simp only [Prod.mk.injEq] at hx
    have hz' : ss.length = cap := by simpa using hz
    have hlen : (ss.take len).length = len := by rw [List.length_take]; omega
    refine ⟨ss.take len, some a, cap, by rw [hlen], ⟨by omega, by simpa [maxLen] using hm, fun h0 => ?_⟩, fun x hx => hws x (List.mem_of_mem_take hx)⟩
    rw [hlen] at h0
    have h1 : 0 < ss.length := by omega
    obtain ⟨b, off, spot⟩ := a
    have hspot : spot = none := by simpa [Addr.add] using World.cell?_spot (hcell 0 h1)
    subst hspot
    have hin : MemPlace.cell b off ∈ p := by
      rw [hx.2]
      exact MemPlace.mem_row.2 ⟨0, h1, by simp [Addr.add]⟩
    refine ⟨b, off, rfl, hlt _ hin, fun j x hj => ?_⟩
    rw [List.getElem?_take] at hj
    split at hj
    · have hjl : j < ss.length := (List.getElem?_eq_some_iff.1 hj).1
      have := hcell j hjl
      rw [add_plain] at this
      rw [this, List.getD, hj]
      rfl
    · cases hj
end Go.Proofs.YtidjmbmnfnnleaaDoor

/-
  A parameter that is a pattern, opened.
-/
namespace Go.Proofs.YtidjmbmnfnnleaaDoor
set_option linter.unusedSimpArgs false
set_option linter.unusedVariables false
open Go.ChangeShapes Go.WideShapes Go.ChangeAt Go.RowKit

theorem strs_reach {H : Type} {P : Program} {e : TypeId} {zs : List ByteArray} (h : (DataW.weightsAll P e (strs zs : List (DataW H))).all (· ≤ reachBytes) = true) : ∀ y ∈ zs, y.size ≤ reachBytes := by
  induction zs with
  | nil => intro y hy; cases hy
  | cons z zs ih =>
    simp only [strs, List.map_cons, DataW.weightsAll, DataW.weights, List.cons_append, List.nil_append, List.all_cons, Bool.and_eq_true, decide_eq_true_eq] at h
    intro y hy
    rcases List.mem_cons.1 hy with rfl | hy
    · rw [Lib.size_eq]; exact h.1
    · exact ih h.2 y hy

theorem open_texts_of {H : Type} {enc : TypeId × Value → H} {P : Program} {W : World} {base : Nat} {t e : TypeId} {u : Value} {fuel : Nat} {x : DataW H × List MemPlace}
    (ht : P.underlying t = some (.slice e)) (he : P.underlying e = some .string) (hc : P.cellsOf e = 1)
    (hf : DataW.trod enc P W base (fun _ => true) true fuel t [u] = some x) (hlt : ∀ y ∈ x.2, y.block < W.heap.size) :
    ∃ xs : List ByteArray, ∃ A c, u = .slice A xs.length c ∧ RT W A c xs ∧ (∀ y ∈ xs, y.size ≤ maxLen) ∧ ((x.1.weights P t).all (· ≤ reachBytes) = true → ∀ y ∈ xs, y.size ≤ reachBytes) := by
  rcases open_strings ht he hc hf with ⟨hcs, _⟩ | ⟨a, l, c, ss, hcs, _, hl, hm, hz, hx, hcell, hws⟩
  · obtain rfl : u = .slice none 0 0 := by simpa using hcs
    exact ⟨[], none, 0, rfl, RT.nil W none 0 (by omega), fun x hx => (by cases hx), fun _ x hx => (by cases hx)⟩
  · obtain rfl : u = .slice (some a) l c := by simpa using hcs
    have hz' : ss.length = c := by simpa using hz
    have hlen : (ss.take l).length = l := by rw [List.length_take]; omega
    refine ⟨ss.take l, some a, c, by rw [hlen], ⟨by omega, by simpa [maxLen] using hm, fun h0 => ?_⟩, fun x hx => hws x (List.mem_of_mem_take hx), fun hwt y hy => ?_⟩
    · rw [hlen] at h0
      have h1 : 0 < ss.length := by omega
      obtain ⟨b, off, spot⟩ := a
      have hspot : spot = none := by simpa [Addr.add] using World.cell?_spot (hcell 0 h1)
      subst hspot
      have hin : MemPlace.cell b off ∈ x.2 := by
        rw [hx]
        exact MemPlace.mem_row.2 ⟨0, h1, by simp [Addr.add]⟩
      refine ⟨b, off, rfl, hlt _ hin, fun j x hj => ?_⟩
      rw [List.getElem?_take] at hj
      split at hj
      · have hjl : j < ss.length := (List.getElem?_eq_some_iff.1 hj).1
        have := hcell j hjl
        rw [add_plain] at this
        rw [this, List.getD, hj]
        rfl
      · cases hj
    · rw [hx] at hwt
      simp only [DataW.weights, ht] at hwt
      rw [List.all_cons, Bool.and_eq_true, List.all_append, Bool.and_eq_true] at hwt
      exact strs_reach hwt.2.1 y hy

theorem open_pattern {H : Type} {enc : TypeId × Value → H} {P : Program} {W : World} {base : Nat} {t ts tb e : TypeId} {f0 f1 : Field} {v : Value} {d : DataW H} {p : List MemPlace} {r : Reach} {b0 : Nat}
    (ht : P.underlying t = some (.struct #[f0, f1])) (h0 : f0.type = ts) (o0 : f0.offset = 0) (h1 : f1.type = tb) (o1 : f1.offset = 1)
    (hs : P.underlying ts = some (.slice e)) (he : P.underlying e = some .string) (hb : P.underlying tb = some .bool)
    (c0 : P.cellsOf ts = 1) (c1 : P.cellsOf tb = 1) (ct : P.cellsOf t = 2) (ce : P.cellsOf e = 1) (hv : Value.okWide P W r b0 t v)
    (h : DataW.Trod enc P W base (fun _ => true) true t v d p) (hlt : ∀ x ∈ p, x.block < W.heap.size) :
    ∃ xs : List ByteArray, ∃ A c q, v = .agg #[.slice A xs.length c, .bool q] ∧ RT W A c xs ∧ (∀ x ∈ xs, x.size ≤ maxLen) ∧ ((d.weights P t).all (· ≤ reachBytes) = true → ∀ x ∈ xs, x.size ≤ reachBytes) := by
  obtain ⟨cs, rfl, hcs⟩ := okWide_struct ht hv
  rw [ct] at hcs
  obtain ⟨u0, u1, rfl⟩ : ∃ u0 u1, cs = #[u0, u1] := by
    obtain ⟨l⟩ := cs
    match l, hcs with
    | [a, b], _ => exact ⟨a, b, rfl⟩
  obtain ⟨fuel, hf⟩ := h
  obtain ⟨y0, y1, n, hx, _, g0, g1⟩ := trod_struct2 ht hf
  rw [h0, o0, c0] at g0
  rw [h1, o1, c1] at g1
  simp only [Prod.mk.injEq] at hx
  obtain ⟨rfl, rfl⟩ := hx
  have g0' : DataW.trod enc P W base (fun _ => true) true n ts [u0] = some y0 := g0
  have g1' : DataW.trod enc P W base (fun _ => true) true n tb [u1] = some y1 := g1
  obtain ⟨xs, A, c, rfl, hr, hz, hw⟩ := open_texts_of hs he ce g0' (fun y hy => hlt y (List.mem_append_left _ hy))
  obtain ⟨q, hq, _⟩ := DataW.trod_bool hb g1'
  obtain rfl : u1 = .bool q := by simpa using hq
  refine ⟨xs, A, c, q, rfl, hr, hz, fun hwt => hw ?_⟩
  simp only [DataW.weights, ht] at hwt
  simp only [List.map_cons, DataW.weightsEach, h0] at hwt
  rw [List.all_append, Bool.and_eq_true] at hwt
  exact hwt.1
end Go.Proofs.YtidjmbmnfnnleaaDoor
