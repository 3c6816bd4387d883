/-
  Parameters that are lists of structs, opened: hunks, pieces.
-/
import Derived.Test.YtfhkmmicdbblnaaDoorFr
import Derived.Test.YtfhkmmicdbblnaaDoorL8
import Derived.Deep.Slices
import Derived.Deep.Strs
import Derived.Lib.SmallJoins
namespace Go.Proofs.YtfhkmmicdbblnaaDoor
set_option linter.unusedSimpArgs false
set_option linter.unusedVariables false
open Go.ChangeShapes Go.WideShapes Go.ChangeAt Go.RowKit

theorem open_texts_of {H : Type} {enc : TypeId × Value → H} {P : Program} {W : World} {base : Nat} {t e : TypeId} {u : Value} {fuel : Nat} {x : DataW H × List MemPlace}
    (ht : P.underlying t = some (.slice e)) (he : P.underlying e = some .string) (hc : P.cellsOf e = 1)
    (hf : DataW.trod enc P W base (fun _ => true) true fuel t [u] = some x) (hlt : ∀ y ∈ x.2, y.block < W.heap.size) :
    ∃ xs : List ByteArray, ∃ A c, u = .slice A xs.length c ∧ RT W A c xs ∧ (∀ y ∈ xs, y.size ≤ maxLen) := by
  rcases open_strings ht he hc hf with ⟨hcs, _⟩ | ⟨a, l, c, ss, hcs, _, hl, hm, hz, hx, hcell, hws⟩
  · obtain rfl : u = .slice none 0 0 := by simpa using hcs
    exact ⟨[], none, 0, rfl, RT.nil W none 0 (by omega), fun x hx => (by cases hx)⟩
  · obtain rfl : u = .slice (some a) l c := by simpa using hcs
    have hz' : ss.length = c := by simpa using hz
    have hlen : (ss.take l).length = l := by rw [List.length_take]; omega
    refine ⟨ss.take l, some a, c, by rw [hlen], ⟨by omega, by simpa [maxLen] using hm, fun h0 => ?_⟩, fun x hx => hws x (List.mem_of_mem_take hx)⟩
    rw [hlen] at h0
    have h1 : 0 < ss.length := by omega
    obtain ⟨b, off, spot⟩ := a
    have hspot : spot = none := by simpa [Addr.add] using World.cell?_spot (hcell 0 h1)
    subst hspot
    have hin : MemPlace.cell b off ∈ x.2 := by
      rw [hx]
      exact MemPlace.mem_row.2 ⟨0, h1, by simp [Addr.add]⟩
    refine ⟨b, off, rfl, hlt _ hin, fun j x hj => ?_⟩
    rw [List.getElem?_take] at hj
    split at hj
    · have hjl : j < ss.length := (List.getElem?_eq_some_iff.1 hj).1
      have := hcell j hjl
      rw [add_plain] at this
      rw [this, List.getD, hj]
      rfl
    · cases hj
theorem list_of {α : Type} (n : Nat) (Q : Nat → α → Prop) (h : ∀ i, i < n → ∃ x, Q i x) : ∃ xs : List α, xs.length = n ∧ ∀ i x, xs[i]? = some x → Q i x := by
  induction n with
  | zero => exact ⟨[], rfl, fun i x hx => by simp at hx⟩
  | succ n ih =>
    obtain ⟨xs, hl, hx⟩ := ih (fun i hi => h i (by omega))
    obtain ⟨x, hq⟩ := h n (by omega)
    refine ⟨xs ++ [x], by simp [hl], fun i y hy => ?_⟩
    rcases Nat.lt_or_ge i xs.length with hi | hi
    · rw [List.getElem?_append_left hi] at hy
      exact hx i y hy
    · rw [List.getElem?_append_right hi] at hy
      have : i - xs.length = 0 := by
        have := (List.getElem?_eq_some_iff.1 hy).1
        simp at this
        omega
      rw [this] at hy
      obtain rfl : x = y := by simpa using hy
      have : i = n := by omega
      subst this
      exact hq

/-- a list of structs comes in, each of which reads ms an α -/
theorem open_rows {α H : Type} {enc : TypeId × Value → H} {P : Program} {W : World} {base : Nat} {t e : TypeId} {v : Value} {d : DataW H} {p : List MemPlace} {r : Reach} {b0 size : Nat} (rd : α → List Fld) (Q : α → Prop)
    (ht : P.underlying t = some (.slice e)) (ce : P.cellsOf e = size) (hsz : 0 < size) (hv : Value.okWide P W r b0 t v)
    (h : DataW.Trod enc P W base (fun _ => true) true t v d p) (hlt : ∀ x ∈ p, x.block < W.heap.size)
    (one : ∀ (n : Nat) (cs : List Value) (y : DataW H × List MemPlace), DataW.trod enc P W base (fun _ => true) true n e cs = some y → cs.length = size → (∀ z ∈ y.2, z.block < W.heap.size) →
      ∃ a : α, (∀ (i : Nat) (g : Fld), (rd a)[i]? = some g → ∃ u, cs[i]? = some u ∧ g.is W none u) ∧ Q a) :
    ∃ ms : List α, ∃ A c, v = .slice A ms.length c ∧ RF W A c size (ms.map rd) ∧ ∀ a ∈ ms, Q a := by
  obtain ⟨a0, len, cap, rfl⟩ := okWide_slice ht hv
  obtain ⟨fuel, hf⟩ := h
  rcases Go.Deep.open_slice ht hf with ⟨hcs, _⟩ | ⟨a, l, c, m, n, D, Pl, hcs, hba, hl, hm, hmm, hx, hi⟩
  · simp [Value.cells] at hcs
    obtain ⟨rfl, rfl, rfl⟩ := hcs
    exact ⟨[], none, 0, rfl, RF.nil _ _ _ _ (by omega), fun b hb => (by cases hb)⟩
  · simp [Value.cells] at hcs
    obtain ⟨rfl, rfl, rfl⟩ := hcs
    simp only [Prod.mk.injEq] at hx
    obtain ⟨hd, hp⟩ := hx
    rw [ce] at hi hp
    have hlm : len ≤ m := by rw [hmm]; simp; omega
    obtain ⟨b, off, spot⟩ := a
    have one' : ∀ i, i < len → ∃ q : α, spot = none ∧ MemPlace.cell b (off + i * size) ∈ p ∧ (∀ (j : Nat) (g : Fld), (rd q)[j]? = some g → ∃ u, W.cell? ⟨b, off + i * size + j, none⟩ = some u ∧ g.is W none u) ∧ Q q := by
      intro i hil
      have hspot : spot = none := by
        obtain ⟨cs', hc, _⟩ := hi 0 (by omega)
        obtain ⟨_, hcl, hat⟩ := World.cells?_some hc
        simpa [Addr.add] using World.cell?_spot ((hat 0 (by omega)).trans (List.getElem?_eq_getElem (by omega)))
      subst hspot
      obtain ⟨cs', hc, ht'⟩ := hi i (by omega)
      obtain ⟨_, hcl, hat⟩ := World.cells?_some hc
      have hin : ∀ y ∈ Pl i, y ∈ p := fun y hy => by
        rw [hp]
        exact List.mem_append_right _ (List.mem_flatMap.2 ⟨i, List.mem_range.2 (by omega), hy⟩)
      obtain ⟨q, hq, hQ⟩ := one _ cs' (D i, Pl i) ht' (by rw [hcl]) (fun z hz => hlt z (hin z hz))
      refine ⟨q, rfl, ?_, fun j g hj => ?_, hQ⟩
      · rw [hp]
        refine List.mem_append_left _ (MemPlace.mem_row.2 ⟨i * size, ?_, by simp [Addr.add]⟩)
        exact Nat.mul_lt_mul_of_pos_right (by omega) hsz
      · obtain ⟨u, hu, hg⟩ := hq j g hj
        have hjl : j < cs'.length := (List.getElem?_eq_some_iff.1 hu).1
        have k0 := hat j (by omega)
        rw [add_plain, add_plain] at k0
        exact ⟨u, k0.trans hu, hg⟩
    obtain ⟨ms, hal, has⟩ := list_of len _ one'
    refine ⟨ms, some ⟨b, off, spot⟩, cap, by rw [hal], ⟨by rw [List.length_map]; omega, by simpa [maxLen] using hm, fun hn => ?_⟩, fun q hq => ?_⟩
    · rw [List.length_map] at hn
      obtain ⟨q, hq⟩ : ∃ q, ms[0]? = some q := ⟨_, List.getElem?_eq_getElem hn⟩
      obtain ⟨rfl, hin, _⟩ := has 0 q hq
      refine ⟨b, off, rfl, hlt _ hin, fun j f hj => ?_⟩
      rw [List.getElem?_map] at hj
      obtain ⟨a, ha, rfl⟩ := Option.map_eq_some_iff.1 hj
      exact (has j a ha).2.2.1
    · obtain ⟨i, hq⟩ := List.getElem?_of_mem hq
      exact (has i q hq).2.2.2
theorem open_hunks {H : Type} {enc : TypeId × Value → H} {P : Program} {W : World} {base : Nat} {t e ti ts es : TypeId} {f0 f1 f2 : Field} {v : Value} {d : DataW H} {p : List MemPlace} {r : Reach} {b0 : Nat}
    (ht : P.underlying t = some (.slice e)) (he : P.underlying e = some (.struct #[f0, f1, f2])) (h0 : f0.type = ti) (o0 : f0.offset = 0) (h1 : f1.type = ti) (o1 : f1.offset = 1) (h2 : f2.type = ts) (o2 : f2.offset = 2)
    (hi : P.underlying ti = some (.int .i64)) (hs : P.underlying ts = some (.slice es)) (hes : P.underlying es = some .string)
    (c0 : P.cellsOf ti = 1) (c1 : P.cellsOf ts = 1) (ces : P.cellsOf es = 1) (ce : P.cellsOf e = 3) (hv : Value.okWide P W r b0 t v)
    (h : DataW.Trod enc P W base (fun _ => true) true t v d p) (hlt : ∀ x ∈ p, x.block < W.heap.size) :
    ∃ hs : List (Int × Int × List ByteArray), ∃ A c, v = .slice A hs.length c ∧ RF W A c 3 (hs.map hkI) ∧ ∀ h ∈ hs, ∀ x ∈ h.2.2, x.size ≤ maxLen := by
  refine open_rows hkI (fun h => ∀ x ∈ h.2.2, x.size ≤ maxLen) ht ce (by decide) hv h hlt fun n cs y hy hl hz => ?_
  obtain ⟨y0, y1, y2, m, hx, _, g0, g1, g2⟩ := Go.Deep.trod_struct3 he hy
  rw [h0, o0, c0] at g0
  rw [h1, o1, c0] at g1
  rw [h2, o2, c1] at g2
  match cs, hl with
  | [u0, u1, u2], _ =>
    have g0' : DataW.trod enc P W base (fun _ => true) true m ti [u0] = some y0 := g0
    have g1' : DataW.trod enc P W base (fun _ => true) true m ti [u1] = some y1 := g1
    have g2' : DataW.trod enc P W base (fun _ => true) true m ts [u2] = some y2 := g2
    obtain ⟨a, ha, _⟩ := DataW.trod_int hi g0'
    obtain ⟨b, hb, _⟩ := DataW.trod_int hi g1'
    obtain ⟨xs, A, k, rfl, hr, hz2⟩ := open_texts_of hs hes ces g2' (fun z hz' => hz z (by rw [hx]; exact List.mem_append_right _ (List.mem_append_right _ hz')))
    obtain rfl : u0 = .int .i64 a := by simpa using ha
    obtain rfl : u1 = .int .i64 b := by simpa using hb
    refine ⟨(a, b, xs), fun i g hg => ?_, hz2⟩
    match i, hg with
    | 0, hg => cases hg; exact ⟨_, rfl, rfl⟩
    | 1, hg => cases hg; exact ⟨_, rfl, rfl⟩
    | 2, hg => cases hg; exact ⟨_, rfl, Fld.txt hr (fun _ _ _ e => by cases e)⟩
    | i + 3, hg => simp [hkI] at hg
end Go.Proofs.YtfhkmmicdbblnaaDoor

