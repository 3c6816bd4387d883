/-
  Partners rise; the partners of the numbers are the lines' own; the loop over partners, step by step: plain facts, no program in sight.
-/
import Derived.Test.YtfhkmmicdbblnaaDoorD10
import Derived.Test.YtfhkmmicdbblnaaDoorD9
namespace Go.Proofs.YtfhkmmicdbblnaaDoor
set_option linter.unusedSimpArgs false
set_option linter.unusedVariables false

/-- partners rise, from t on, and none is beyond m -/
def Asc (m : Nat) : List (Option Nat) → Nat → Prop
  | [], _ => True
  | none :: l, t => Asc m l t
  | some j :: l, t => t ≤ j ∧ j ≤ m ∧ Asc m l (j + 1)
theorem comm_asc {α : Type} [DecidableEq α] (B : List α) : ∀ (a b : List α) (j : Nat), b = B.drop j → j ≤ B.length → Asc B.length (comm a b j ++ [some B.length]) j
  | [], b, j, _, hj => ⟨hj, Nat.le_refl _, trivial⟩
  | x :: a, b, j, hb, hj => by
    rcases comm_cons x a b j with ⟨k, h1, _, h3⟩ | ⟨_, _, h3⟩
    · obtain ⟨g1, _⟩ := idx_some h1
      have hk := (List.getElem?_eq_some_iff.1 g1).1
      rw [hb, List.length_drop] at hk
      rw [h3]
      refine ⟨by omega, by omega, ?_⟩
      exact comm_asc B a (b.drop (k + 1)) (j + k + 1) (by rw [hb, List.drop_drop]; congr 1) (by omega)
    · rw [h3]
      exact comm_asc B a b j hb hj
theorem keys_nil {α : Type} [DecidableEq α] (ks : List α) : keys ks [] = ks := rfl
theorem cast_inj {x y : Nat} (h : ((x : Nat) : Int) = ((y : Nat) : Int)) : x = y := Int.ofNat.inj h
def nI (ns : List Nat) : List Int := ns.map (fun n : Nat => (n : Int))
/-- what the loop over partners has made; f, t: the lines behind the last pair -/
def DI {α : Type} [DecidableEq α] (a b : List α) (P : List (Option Nat)) (k f t : Nat) (hs : List (Nat × Nat × List α)) : Prop :=
  diffL a b = hs ++ dlp b (P.drop k) k f t ∧ Asc b.length (P.drop k) t ∧ f ≤ k
theorem DI.start {α : Type} [DecidableEq α] (a b : List α) : DI a b (comm a b 0 ++ [some b.length]) 0 0 0 [] :=
  ⟨by rw [List.drop_zero, dlp_diff]; rfl, comm_asc b a b 0 rfl (Nat.zero_le _), Nat.le_refl _⟩
theorem DI.none_ {α : Type} [DecidableEq α] {a b : List α} {P : List (Option Nat)} {k f t : Nat} {hs : List (Nat × Nat × List α)} (h : DI a b P k f t hs) (hp : P[k]? = some none) : DI a b P (k + 1) f t hs := by
  obtain ⟨h1, h2, h3⟩ := h
  obtain ⟨hl, he⟩ := List.getElem?_eq_some_iff.1 hp
  rw [List.drop_eq_getElem_cons hl, he] at h1 h2
  exact ⟨h1, h2, by omega⟩
theorem DI.some_ {α : Type} [DecidableEq α] {a b : List α} {P : List (Option Nat)} {k f t : Nat} {hs : List (Nat × Nat × List α)} (h : DI a b P k f t hs) {j : Nat} (hp : P[k]? = some (some j)) :
    t ≤ j ∧ j ≤ b.length ∧ ((f < k ∨ t < j) → DI a b P (k + 1) (k + 1) (j + 1) (hs ++ [(f, k, (b.drop t).take (j - t))])) ∧ (¬ (f < k ∨ t < j) → DI a b P (k + 1) (k + 1) (j + 1) hs) := by
  obtain ⟨h1, h2, h3⟩ := h
  obtain ⟨hl, he⟩ := List.getElem?_eq_some_iff.1 hp
  rw [List.drop_eq_getElem_cons hl, he] at h1 h2
  obtain ⟨g1, g2, g3⟩ := h2
  refine ⟨g1, g2, fun hc => ⟨?_, g3, Nat.le_refl _⟩, fun hc => ⟨?_, g3, Nat.le_refl _⟩⟩
  · rw [h1]
    show hs ++ ((if f < k ∨ t < j then _ else _) ++ _) = _
    rw [if_pos hc, List.append_assoc]
  · rw [h1]
    show hs ++ ((if f < k ∨ t < j then _ else _) ++ _) = _
    rw [if_neg hc, List.nil_append]
theorem DI.done {α : Type} [DecidableEq α] {a b : List α} {P : List (Option Nat)} {k f t : Nat} {hs : List (Nat × Nat × List α)} (h : DI a b P k f t hs) (hk : P.length ≤ k) : hs = diffL a b := by
  rw [h.1, List.drop_eq_nil_of_le hk]
  exact (List.append_nil _).symm
end Go.Proofs.YtfhkmmicdbblnaaDoor

