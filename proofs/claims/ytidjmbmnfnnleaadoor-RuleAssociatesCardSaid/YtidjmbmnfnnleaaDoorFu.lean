/-
  A parameter that is a rule, opened.
-/
import Derived.Test.YtidjmbmnfnnleaaDoorMF
import Derived.Deep.Strs
namespace Go.Proofs.YtidjmbmnfnnleaaDoor
set_option linter.unusedSimpArgs false
set_option linter.unusedVariables false
open Go.ChangeShapes Go.WideShapes Go.ChangeAt Go.RowKit

theorem open_pattern_of {H : Type} {enc : TypeId × Value → H} {P : Program} {W : World} {base : Nat} {t ts tb e : TypeId} {f0 f1 : Field} {u0 u1 : Value} {fuel : Nat} {x : DataW H × List MemPlace}
    (ht : P.underlying t = some (.struct #[f0, f1])) (h0 : f0.type = ts) (o0 : f0.offset = 0) (h1 : f1.type = tb) (o1 : f1.offset = 1)
    (hs : P.underlying ts = some (.slice e)) (he : P.underlying e = some .string) (hb : P.underlying tb = some .bool)
    (c0 : P.cellsOf ts = 1) (c1 : P.cellsOf tb = 1) (ce : P.cellsOf e = 1)
    (hf : DataW.trod enc P W base (fun _ => true) true fuel t [u0, u1] = some x) (hlt : ∀ y ∈ x.2, y.block < W.heap.size) :
    ∃ xs : List ByteArray, ∃ A c q, u0 = .slice A xs.length c ∧ u1 = .bool q ∧ RT W A c xs ∧ (∀ x ∈ xs, x.size ≤ maxLen) ∧ ((x.1.weights P t).all (· ≤ reachBytes) = true → ∀ x ∈ xs, x.size ≤ reachBytes) := by
  obtain ⟨y0, y1, n, rfl, _, g0, g1⟩ := trod_struct2 ht hf
  rw [h0, o0, c0] at g0
  rw [h1, o1, c1] at g1
  have g0' : DataW.trod enc P W base (fun _ => true) true n ts [u0] = some y0 := g0
  have g1' : DataW.trod enc P W base (fun _ => true) true n tb [u1] = some y1 := g1
  obtain ⟨xs, A, c, rfl, hr, hz, hw⟩ := open_texts_of hs he ce g0' (fun y hy => hlt y (List.mem_append_left _ hy))
  obtain ⟨q, hq, _⟩ := DataW.trod_bool hb g1'
  obtain rfl : u1 = .bool q := by simpa using hq
  refine ⟨xs, A, c, q, rfl, rfl, hr, hz, fun hwt => hw ?_⟩
  simp only [DataW.weights, ht] at hwt
  simp only [List.map_cons, DataW.weightsEach, h0] at hwt
  rw [List.all_append, Bool.and_eq_true] at hwt
  exact hwt.1

theorem open_rule {H : Type} {enc : TypeId × Value → H} {P : Program} {W : World} {base : Nat} {t tp ts tb e : TypeId} {f0 f1 f2 g0 g1 : Field} {v : Value} {d : DataW H} {p : List MemPlace} {r : Reach} {b0 : Nat}
    (ht : P.underlying t = some (.struct #[f0, f1, f2])) (k0 : f0.type = tb) (p0 : f0.offset = 0) (k1 : f1.type = tp) (p1 : f1.offset = 1) (k2 : f2.type = tp) (p2 : f2.offset = 3)
    (hp : P.underlying tp = some (.struct #[g0, g1])) (h0 : g0.type = ts) (o0 : g0.offset = 0) (h1 : g1.type = tb) (o1 : g1.offset = 1)
    (hs : P.underlying ts = some (.slice e)) (he : P.underlying e = some .string) (hb : P.underlying tb = some .bool)
    (c0 : P.cellsOf ts = 1) (c1 : P.cellsOf tb = 1) (cp : P.cellsOf tp = 2) (ct : P.cellsOf t = 5) (ce : P.cellsOf e = 1) (hv : Value.okWide P W r b0 t v)
    (h : DataW.Trod enc P W base (fun _ => true) true t v d p) (hlt : ∀ x ∈ p, x.block < W.heap.size) :
    ∃ (ex : Bool) (xs : List ByteArray) (A : Option Addr) (c : Nat) (q : Bool) (ys : List ByteArray) (B : Option Addr) (m : Nat) (s : Bool), v = .agg #[.bool ex, .slice A xs.length c, .bool q, .slice B ys.length m, .bool s] ∧
      RT W A c xs ∧ (∀ x ∈ xs, x.size ≤ maxLen) ∧ RT W B m ys ∧ (∀ x ∈ ys, x.size ≤ maxLen) ∧ ((d.weights P t).all (· ≤ reachBytes) = true → (∀ x ∈ xs, x.size ≤ reachBytes) ∧ (∀ x ∈ ys, x.size ≤ reachBytes)) := by
  obtain ⟨cs, rfl, hcs⟩ := okWide_struct ht hv
  rw [ct] at hcs
  obtain ⟨u0, u1, u2, u3, u4, rfl⟩ : ∃ u0 u1 u2 u3 u4, cs = #[u0, u1, u2, u3, u4] := by
    obtain ⟨l⟩ := cs
    match l, hcs with
    | [a, b, c, d, e], _ => exact ⟨a, b, c, d, e, rfl⟩
  obtain ⟨fuel, hf⟩ := h
  obtain ⟨y0, y1, y2, n, hx, _, t0, t1, t2⟩ := Go.Deep.trod_struct3 ht hf
  rw [k0, p0, c1] at t0
  rw [k1, p1, cp] at t1
  rw [k2, p2, cp] at t2
  simp only [Prod.mk.injEq] at hx
  obtain ⟨rfl, rfl⟩ := hx
  have t0' : DataW.trod enc P W base (fun _ => true) true n tb [u0] = some y0 := t0
  have t1' : DataW.trod enc P W base (fun _ => true) true n tp [u1, u2] = some y1 := t1
  have t2' : DataW.trod enc P W base (fun _ => true) true n tp [u3, u4] = some y2 := t2
  obtain ⟨ex, hq, _⟩ := DataW.trod_bool hb t0'
  obtain rfl : u0 = .bool ex := by simpa using hq
  obtain ⟨xs, A, c, q, rfl, rfl, hr, hz, hw⟩ := open_pattern_of hp h0 o0 h1 o1 hs he hb c0 c1 ce t1' (fun y hy => hlt y (List.mem_append_right _ (List.mem_append_left _ hy)))
  obtain ⟨ys, B, m, s, rfl, rfl, kr, kz, kw⟩ := open_pattern_of hp h0 o0 h1 o1 hs he hb c0 c1 ce t2' (fun y hy => hlt y (List.mem_append_right _ (List.mem_append_right _ hy)))
  refine ⟨ex, xs, A, c, q, ys, B, m, s, rfl, hr, hz, kr, kz, fun hwt => ?_⟩
  simp only [DataW.weights, ht] at hwt
  simp only [List.map_cons, DataW.weightsEach, k0, k1, k2] at hwt
  rw [List.all_append, Bool.and_eq_true, List.all_append, Bool.and_eq_true, List.all_append, Bool.and_eq_true] at hwt
  exact ⟨hw hwt.2.1, kw hwt.2.2.1⟩
end Go.Proofs.YtidjmbmnfnnleaaDoor

