/-
  A parameter that is a list of texts, opened.
-/
import Derived.Test.YtofmngfmoagenaaDoorFr
import Derived.Test.YtofmngfmoagenaaDoorPl
namespace Go.Proofs.YtofmngfmoagenaaDoor
set_option linter.unusedSimpArgs false
set_option linter.unusedVariables false
open Go.ChangeShapes Go.WideShapes Go.ChangeAt Go.RowKit

theorem open_texts {H : Type} {enc : TypeId × Value → H} {P : Program} {W : World} {base : Nat} {t e : TypeId} {v : Value} {d : DataW H} {p : List MemPlace} {r : Reach} {b0 : Nat}
    (ht : P.underlying t = some (.slice e)) (he : P.underlying e = some .string) (hc : P.cellsOf e = 1) (hv : Value.okWide P W r b0 t v)
    (h : DataW.Trod enc P W base (fun _ => true) true t v d p) (hlt : ∀ x ∈ p, x.block < W.heap.size) :
    ∃ xs : List ByteArray, ∃ A c, v = .slice A xs.length c ∧ RT W A c xs ∧ ∀ x ∈ xs, x.size ≤ maxLen := by
  obtain ⟨a0, len, cap, rfl⟩ := okWide_slice ht hv
  obtain ⟨fuel, hf⟩ := h
  rcases open_strings ht he hc hf with ⟨hcs, _⟩ | ⟨a, l, c, ss, hcs, _, hl, hm, hz, hx, hcell, hws⟩
  · simp [Value.cells] at hcs
    obtain ⟨rfl, rfl, rfl⟩ := hcs
    exact ⟨[], none, 0, rfl, RT.nil W none 0 (by omega), fun x hx => by cases hx⟩
  · simp [Value.cells] at hcs
    obtain ⟨rfl, rfl, rfl⟩ := hcs
    simp only [Prod.mk.injEq] at hx
    have hz' : ss.length = cap := by simpa using hz
    have hlen : (ss.take len).length = len := by rw [List.length_take]; omega
    refine ⟨ss.take len, some a, cap, by rw [hlen], ⟨by omega, by simpa [maxLen] using hm, fun h0 => ?_⟩, fun x hx => hws x (List.mem_of_mem_take hx)⟩
    rw [hlen] at h0
    have h1 : 0 < ss.length := by omega
    obtain ⟨b, off, spot⟩ := a
    have hspot : spot = none := by simpa [Addr.add] using World.cell?_spot (hcell 0 h1)
    subst hspot
    have hin : MemPlace.cell b off ∈ p := by
      rw [hx.2]
      exact MemPlace.mem_row.2 ⟨0, h1, by simp [Addr.add]⟩
    refine ⟨b, off, rfl, hlt _ hin, fun j x hj => ?_⟩
    rw [List.getElem?_take] at hj
    split at hj
    · have hjl : j < ss.length := (List.getElem?_eq_some_iff.1 hj).1
      have := hcell j hjl
      rw [add_plain] at this
      rw [this, List.getD, hj]
      rfl
    · cases hj
end Go.Proofs.YtofmngfmoagenaaDoor

