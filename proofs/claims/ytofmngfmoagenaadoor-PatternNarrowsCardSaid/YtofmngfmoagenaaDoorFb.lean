/-
  A parameter that is a list of bindings, opened.
-/
import Derived.Test.YtofmngfmoagenaaDoorMF
import Derived.Test.YtofmngfmoagenaaDoorQ25
import Derived.Deep.Slices
namespace Go.Proofs.YtofmngfmoagenaaDoor
set_option linter.unusedSimpArgs false
set_option linter.unusedVariables false
open Go.ChangeShapes Go.WideShapes Go.ChangeAt Go.RowKit

theorem weights_of_mem {H : Type} {P : Program} {e : TypeId} {ds : List (DataW H)} (h : (DataW.weightsAll P e ds).all (· ≤ reachBytes) = true) {d : DataW H} (hd : d ∈ ds) : (d.weights P e).all (· ≤ reachBytes) = true := by
  induction ds with
  | nil => cases hd
  | cons a ds ih =>
    simp only [DataW.weightsAll] at h
    rw [List.all_append, Bool.and_eq_true] at h
    rcases List.mem_cons.1 hd with rfl | hd
    · exact h.1
    · exact ih h.2 hd

theorem list_of {α : Type} (n : Nat) (Q : Nat → α → Prop) (h : ∀ i, i < n → ∃ x, Q i x) : ∃ xs : List α, xs.length = n ∧ ∀ i x, xs[i]? = some x → Q i x := by
  induction n with
  | zero => exact ⟨[], rfl, fun i x hx => by simp at hx⟩
  | succ n ih =>
    obtain ⟨xs, hl, hx⟩ := ih (fun i hi => h i (by omega))
    obtain ⟨x, hq⟩ := h n (by omega)
    refine ⟨xs ++ [x], by simp [hl], fun i y hy => ?_⟩
    rcases Nat.lt_or_ge i xs.length with hi | hi
    · rw [List.getElem?_append_left hi] at hy
      exact hx i y hy
    · rw [List.getElem?_append_right hi] at hy
      have : i - xs.length = 0 := by
        have := (List.getElem?_eq_some_iff.1 hy).1
        simp at this
        omega
      rw [this] at hy
      obtain rfl : x = y := by simpa using hy
      have : i = n := by omega
      subst this
      exact hq

theorem open_bindings {H : Type} {enc : TypeId × Value → H} {P : Program} {W : World} {base : Nat} {t e ts tb es : TypeId} {f0 f1 : Field} {v : Value} {d : DataW H} {p : List MemPlace} {r : Reach} {b0 : Nat}
    (ht : P.underlying t = some (.slice e)) (he : P.underlying e = some (.struct #[f0, f1])) (h0 : f0.type = ts) (o0 : f0.offset = 0) (h1 : f1.type = tb) (o1 : f1.offset = 1)
    (hs : P.underlying ts = some (.slice es)) (hes : P.underlying es = some .string) (hb : P.underlying tb = some .bool)
    (c0 : P.cellsOf ts = 1) (c1 : P.cellsOf tb = 1) (ce : P.cellsOf e = 2) (ces : P.cellsOf es = 1) (hv : Value.okWide P W r b0 t v)
    (h : DataW.Trod enc P W base (fun _ => true) true t v d p) (hlt : ∀ x ∈ p, x.block < W.heap.size) :
    ∃ bs : List (List ByteArray × Bool), ∃ A c, v = .slice A bs.length c ∧ BT W A c bs ∧ (∀ b ∈ bs, ∀ x ∈ b.1, x.size ≤ maxLen) ∧ ((d.weights P t).all (· ≤ reachBytes) = true → ∀ b ∈ bs, ∀ x ∈ b.1, x.size ≤ reachBytes) := by
  obtain ⟨a0, len, cap, rfl⟩ := okWide_slice ht hv
  obtain ⟨fuel, hf⟩ := h
  rcases Go.Deep.open_slice ht hf with ⟨hcs, _⟩ | ⟨a, l, c, m, n, D, Pl, hcs, hba, hl, hm, hmm, hx, hi⟩
  · simp [Value.cells] at hcs
    obtain ⟨rfl, rfl, rfl⟩ := hcs
    exact ⟨[], none, 0, rfl, ⟨Nat.le_refl _, by omega, fun h => absurd h (Nat.lt_irrefl 0)⟩, fun b hb => (by cases hb), fun _ b hb => (by cases hb)⟩
  · simp [Value.cells] at hcs
    obtain ⟨rfl, rfl, rfl⟩ := hcs
    simp only [Prod.mk.injEq] at hx
    obtain ⟨hd, hp⟩ := hx
    rw [ce] at hi hp
    have hlm : len ≤ m := by rw [hmm]; simp; omega
    obtain ⟨b, off, spot⟩ := a
    have one : ∀ i, i < len → ∃ q : List ByteArray × Bool, spot = none ∧ MemPlace.cell b (off + i * 2) ∈ p ∧ (∃ C k, W.cell? ⟨b, off + i * 2, none⟩ = some (.slice C q.1.length k) ∧ W.cell? ⟨b, off + i * 2 + 1, none⟩ = some (.bool q.2) ∧ RT W C k q.1) ∧ (∀ x ∈ q.1, x.size ≤ maxLen) ∧ (((D i).weights P e).all (· ≤ reachBytes) = true → ∀ x ∈ q.1, x.size ≤ reachBytes) := by
      intro i hil
      have hspot : spot = none := by
        obtain ⟨cs', hc, _⟩ := hi 0 (by omega)
        obtain ⟨_, hcl, hat⟩ := World.cells?_some hc
        simpa [Addr.add] using World.cell?_spot ((hat 0 (by omega)).trans (List.getElem?_eq_getElem (by omega)))
      subst hspot
      obtain ⟨cs', hc, ht'⟩ := hi i (by omega)
      obtain ⟨_, hcl, hat⟩ := World.cells?_some hc
      obtain ⟨u0, u1, rfl⟩ : ∃ u0 u1, cs' = [u0, u1] := by
        match cs', hcl with
        | [a, b], _ => exact ⟨a, b, rfl⟩
      obtain ⟨y0, y1, n', hy, _, g0, g1⟩ := trod_struct2 he ht'
      rw [h0, o0, c0] at g0
      rw [h1, o1, c1] at g1
      simp only [Prod.mk.injEq] at hy
      obtain ⟨hy1, hy2⟩ := hy
      have g0' : DataW.trod enc P W base (fun _ => true) true n' ts [u0] = some y0 := g0
      have g1' : DataW.trod enc P W base (fun _ => true) true n' tb [u1] = some y1 := g1
      have hin : ∀ y ∈ y0.2, y ∈ p := fun y hy => by
        rw [hp]
        refine List.mem_append_right _ (List.mem_flatMap.2 ⟨i, List.mem_range.2 (by omega), ?_⟩)
        rw [hy2]
        exact List.mem_append_left _ hy
      obtain ⟨xs, A, k, rfl, hr, hz, hw⟩ := open_texts_of hs hes ces g0' (fun y hy => hlt y (hin y hy))
      obtain ⟨q, hq, _⟩ := DataW.trod_bool hb g1'
      obtain rfl : u1 = .bool q := by simpa using hq
      have k0 := hat 0 (by simp)
      have k1 := hat 1 (by simp)
      rw [add_plain, add_plain] at k0 k1
      refine ⟨(xs, q), rfl, ?_, ⟨A, k, k0, k1, hr⟩, hz, fun hwt => hw ?_⟩
      · rw [hp]
        refine List.mem_append_left _ (MemPlace.mem_row.2 ⟨i * 2, by omega, by simp [Addr.add]⟩)
      · rw [hy1] at hwt
        simp only [DataW.weights, he] at hwt
        simp only [List.map_cons, DataW.weightsEach, h0] at hwt
        rw [List.all_append, Bool.and_eq_true] at hwt
        exact hwt.1
    obtain ⟨bs, hbl, hbs⟩ := list_of len _ one
    refine ⟨bs, some ⟨b, off, spot⟩, cap, by rw [hbl], ⟨by omega, by simpa [maxLen] using hm, fun hn => ?_⟩, fun q hq => ?_, fun hwt q hq => ?_⟩
    · obtain ⟨q, hq⟩ : ∃ q, bs[0]? = some q := ⟨_, List.getElem?_eq_getElem hn⟩
      obtain ⟨rfl, hin, _⟩ := hbs 0 q hq
      exact ⟨b, off, rfl, hlt _ hin, fun j p hj => (hbs j p hj).2.2.1⟩
    · obtain ⟨i, hq⟩ := List.getElem?_of_mem hq
      exact (hbs i q hq).2.2.2.1
    · obtain ⟨i, hq⟩ := List.getElem?_of_mem hq
      have hil := (List.getElem?_eq_some_iff.1 hq).1
      refine (hbs i q hq).2.2.2.2 (weights_of_mem (ds := (List.range len).map D) ?_ (List.mem_map.2 ⟨i, List.mem_range.2 (by omega), rfl⟩))
      rw [hd] at hwt
      simp only [DataW.weights, ht] at hwt
      rw [List.all_cons, Bool.and_eq_true, List.all_append, Bool.and_eq_true] at hwt
      exact hwt.2.1
end Go.Proofs.YtofmngfmoagenaaDoor

