/-
  What the pieces of a merge are: the three lists, part by part; their kinds; the sides exchanged; merging with an unchanged side: plain facts.
-/
import Derived.Test.YtfhkmmicdbblnaaD5
namespace Go.Proofs.Ytfhkmmicdbblnaa
set_option linter.unusedSimpArgs false
set_option linter.unusedVariables false

section
variable {α : Type}
/-- no two pieces that are not stable stand side by side -/
def apartP : List (Pc α) → Prop
  | [] => True
  | [_] => True
  | p :: q :: l => (p.kind = 1 ∨ q.kind = 1) ∧ apartP (q :: l)
theorem apart_snoc : ∀ {l : List (Pc α)} {p : Pc α}, apartP l → (∀ q ∈ l.getLast?, q.kind = 1 ∨ p.kind = 1) → apartP (l ++ [p])
  | [], p, _, _ => trivial
  | [q], p, _, h => ⟨h q (by simp), trivial⟩
  | q :: r :: l, p, h, hl => ⟨h.1, apart_snoc (l := r :: l) h.2 (fun x hx => hl x (by simpa using hx))⟩
theorem seg_len {A : List α} {i j : Nat} (h : j ≤ A.length) : (seg A i j).length = j - i := by
  unfold seg
  rw [List.length_take, List.length_drop]
  omega
theorem flat_join : ∀ (l : List (Pc α)) (x y z : α), l ≠ [] → (joinP l x y z).flatMap (·.o) = l.flatMap (·.o) ++ [x] ∧ (joinP l x y z).flatMap (·.a) = l.flatMap (·.a) ++ [y] ∧ (joinP l x y z).flatMap (·.b) = l.flatMap (·.b) ++ [z]
  | [], x, y, z, h => absurd rfl h
  | [p], x, y, z, _ => ⟨by simp [joinP], by simp [joinP], by simp [joinP]⟩
  | p :: q :: l, x, y, z, _ => by
    obtain ⟨h1, h2, h3⟩ := flat_join (q :: l) x y z (by simp)
    refine ⟨?_, ?_, ?_⟩
    · show (p :: joinP (q :: l) x y z).flatMap (·.o) = _
      rw [List.flatMap_cons, h1]
      simp [List.flatMap_cons]
    · show (p :: joinP (q :: l) x y z).flatMap (·.a) = _
      rw [List.flatMap_cons, h2]
      simp [List.flatMap_cons]
    · show (p :: joinP (q :: l) x y z).flatMap (·.b) = _
      rw [List.flatMap_cons, h3]
      simp [List.flatMap_cons]
/-- the sides exchanged -/
def turnK (k : Int) : Int := if k = 2 then 3 else if k = 3 then 2 else k
def swapP (p : Pc α) : Pc α := ⟨turnK p.kind, p.o, p.b, p.a⟩
theorem joinP_swap : ∀ (l : List (Pc α)) (x y z : α), joinP (l.map swapP) x z y = (joinP l x y z).map swapP
  | [], x, y, z => rfl
  | [p], x, y, z => rfl
  | p :: q :: l, x, y, z => by
    show swapP p :: joinP ((q :: l).map swapP) x z y = _
    rw [joinP_swap (q :: l) x y z]
    rfl
end
section
variable {α : Type} [DecidableEq α]
/-- a piece is what its kind says -/
def pcOk (p : Pc α) : Prop := (p.kind = 1 ∧ p.o = p.a ∧ p.o = p.b ∧ p.o ≠ []) ∨ (p.kind = kindOf p.o p.a p.b ∧ ¬ (p.o = p.a ∧ p.o = p.b))
theorem kind_ne1 (o a b : List α) : kindOf o a b ≠ 1 := by
  unfold kindOf
  split
  · decide
  · split
    · decide
    · split <;> decide
/-- the state of the pieces: f is what has been told -/
def MI (O A B : List α) (f : Nat × Nat × Nat) (ps : List (Pc α)) : Prop :=
  (ps.flatMap (·.o) = O.take f.1 ∧ ps.flatMap (·.a) = A.take f.2.1 ∧ ps.flatMap (·.b) = B.take f.2.2) ∧ (∀ p ∈ ps, pcOk p) ∧ apartP ps ∧ (∀ p ∈ ps.getLast?, p.kind = 1) ∧ (0 < f.1 → ps ≠ [])
theorem diffP_o (O A B : List α) (f t : Nat × Nat × Nat) : (diffP O A B f t).flatMap (·.o) = seg O f.1 t.1 ∧ (diffP O A B f t).flatMap (·.a) = seg A f.2.1 t.2.1 ∧ (diffP O A B f t).flatMap (·.b) = seg B f.2.2 t.2.2 := by
  unfold diffP
  by_cases h : f = t
  · rw [if_pos h]
    subst h
    exact ⟨(seg_nil _ _).symm, (seg_nil _ _).symm, (seg_nil _ _).symm⟩
  · rw [if_neg h]
    exact ⟨by simp, by simp, by simp⟩
theorem MI.differ {O A B : List α} {f t : Nat × Nat × Nat} {ps : List (Pc α)} (h : MI O A B f ps) (h1 : f.1 ≤ t.1) (h2 : f.2.1 ≤ t.2.1) (h3 : f.2.2 ≤ t.2.2)
    (hn : f ≠ t → ¬ (seg O f.1 t.1 = seg A f.2.1 t.2.1 ∧ seg O f.1 t.1 = seg B f.2.2 t.2.2)) :
    ((ps ++ diffP O A B f t).flatMap (·.o) = O.take t.1 ∧ (ps ++ diffP O A B f t).flatMap (·.a) = A.take t.2.1 ∧ (ps ++ diffP O A B f t).flatMap (·.b) = B.take t.2.2) ∧ (∀ p ∈ ps ++ diffP O A B f t, pcOk p) ∧ apartP (ps ++ diffP O A B f t) := by
  obtain ⟨⟨i1, i2, i3⟩, i4, i5, i6, _⟩ := h
  obtain ⟨d1, d2, d3⟩ := diffP_o O A B f t
  refine ⟨⟨?_, ?_, ?_⟩, ?_, ?_⟩
  · rw [List.flatMap_append, i1, d1, seg_app O h1]
  · rw [List.flatMap_append, i2, d2, seg_app A h2]
  · rw [List.flatMap_append, i3, d3, seg_app B h3]
  · intro p hp
    rcases List.mem_append.1 hp with hp | hp
    · exact i4 p hp
    · unfold diffP at hp
      by_cases hft : f = t
      · rw [if_pos hft] at hp; cases hp
      · rw [if_neg hft] at hp
        rw [List.mem_singleton.1 hp]
        exact .inr ⟨rfl, hn hft⟩
  · unfold diffP
    by_cases hft : f = t
    · rw [if_pos hft, List.append_nil]; exact i5
    · rw [if_neg hft]
      exact apart_snoc i5 (fun q hq => .inl (i6 q hq))
theorem MI.joined {O A B : List α} {f : Nat × Nat × Nat} {ps : List (Pc α)} {u : α} (h : MI O A B f ps) (hf : 0 < f.1) (h1 : O[f.1]? = some u) (h2 : A[f.2.1]? = some u) (h3 : B[f.2.2]? = some u) :
    MI O A B (f.1 + 1, f.2.1 + 1, f.2.2 + 1) (joinP ps u u u) := by
  obtain ⟨⟨i1, i2, i3⟩, i4, i5, i6, i7⟩ := h
  have hne := i7 hf
  obtain ⟨f1, f2, f3⟩ := flat_join ps u u u hne
  obtain ⟨init, last, rfl⟩ : ∃ init last, ps = init ++ [last] := ⟨ps.dropLast, ps.getLast hne, (List.dropLast_concat_getLast hne).symm⟩
  have hk : last.kind = 1 := i6 last (by simp)
  have hlo : last.o = last.a ∧ last.o = last.b ∧ last.o ≠ [] := by
    rcases i4 last (by simp) with h | h
    · exact h.2
    · rw [hk] at h
      exact absurd h.1.symm (kind_ne1 _ _ _)
  rw [joinP_app] at f1 f2 f3 ⊢
  refine ⟨⟨by rw [f1, i1, seg_one h1], by rw [f2, i2, seg_one h2], by rw [f3, i3, seg_one h3]⟩, ?_, ?_, ?_, fun _ => by simp⟩
  · intro p hp
    rcases List.mem_append.1 hp with hp | hp
    · exact i4 p (by simp [hp])
    · rw [List.mem_singleton.1 hp]
      exact .inl ⟨hk, by rw [hlo.1], by rw [hlo.2.1], by simp⟩
  · have hh : ∀ (l : List (Pc α)) (p q : Pc α), p.kind = q.kind → apartP (l ++ [p]) → apartP (l ++ [q]) := by
      intro l
      induction l with
      | nil => intro p q _ _; trivial
      | cons x l ih =>
        intro p q e h
        cases l with
        | nil => exact ⟨by rw [← e]; exact h.1, trivial⟩
        | cons y l => exact ⟨h.1, ih p q e h.2⟩
    exact hh init last _ rfl i5
  · intro p hp
    have : p = ⟨last.kind, last.o ++ [u], last.a ++ [u], last.b ++ [u]⟩ := by simpa using hp.symm
    rw [this]
    exact hk
theorem MI.fresh {O A B : List α} {f s : Nat × Nat × Nat} {ps : List (Pc α)} {u : α} (h : MI O A B f ps) (h1 : f.1 ≤ s.1) (h2 : f.2.1 ≤ s.2.1) (h3 : f.2.2 ≤ s.2.2)
    (hn : f ≠ s → ¬ (seg O f.1 s.1 = seg A f.2.1 s.2.1 ∧ seg O f.1 s.1 = seg B f.2.2 s.2.2)) (g1 : O[s.1]? = some u) (g2 : A[s.2.1]? = some u) (g3 : B[s.2.2]? = some u) :
    MI O A B (s.1 + 1, s.2.1 + 1, s.2.2 + 1) (ps ++ diffP O A B f s ++ [sameP u u u]) := by
  obtain ⟨⟨d1, d2, d3⟩, d4, d5⟩ := h.differ h1 h2 h3 hn
  refine ⟨⟨?_, ?_, ?_⟩, ?_, ?_, ?_, fun _ => by simp⟩
  · rw [List.flatMap_append, d1]; simp only [sameP, List.flatMap_cons, List.flatMap_nil, List.append_nil]; exact seg_one g1
  · rw [List.flatMap_append, d2]; simp only [sameP, List.flatMap_cons, List.flatMap_nil, List.append_nil]; exact seg_one g2
  · rw [List.flatMap_append, d3]; simp only [sameP, List.flatMap_cons, List.flatMap_nil, List.append_nil]; exact seg_one g3
  · intro p hp
    rcases List.mem_append.1 hp with hp | hp
    · exact d4 p hp
    · rw [List.mem_singleton.1 hp]
      exact .inl ⟨rfl, rfl, rfl, by simp [sameP]⟩
  · exact apart_snoc d5 (fun q _ => .inr rfl)
  · intro p hp
    have : p = sameP u u u := by simpa using hp.symm
    rw [this]
    rfl
theorem mrgF_ok [Inhabited α] (O A B : List α) : ∀ (l : List (Nat × Nat × Nat)) (f : Nat × Nat × Nat) (ps : List (Pc α)), Stb O A B f l → MI O A B f ps →
    ((mrgF O A B l f ps).flatMap (·.o) = O ∧ (mrgF O A B l f ps).flatMap (·.a) = A ∧ (mrgF O A B l f ps).flatMap (·.b) = B) ∧ (∀ p ∈ mrgF O A B l f ps, pcOk p) ∧ apartP (mrgF O A B l f ps)
  | [], f, ps, hs, hm => by
    obtain ⟨h1, h2, h3, h4⟩ := hs
    have := hm.differ (t := (O.length, A.length, B.length)) h1 h2 h3 (fun hne hh => h4 hne (by
      have e : ∀ (X : List α) (i : Nat), seg X i X.length = X.drop i := fun X i => by unfold seg; exact List.take_of_length_le (by rw [List.length_drop]; exact Nat.le_refl _)
      simp only [e] at hh
      exact hh))
    simp only [List.take_length] at this
    exact this
  | s :: l, f, ps, hs, hm => by
    obtain ⟨h1, h2, h3, ⟨u, g1, g2, g3⟩, h4, h5⟩ := hs
    unfold mrgF
    rw [g1, g2, g3]
    simp only [Option.getD_some]
    by_cases hj : 0 < s.1 ∧ f = s
    · rw [if_pos hj]
      obtain ⟨hp, rfl⟩ := hj
      exact mrgF_ok O A B l _ _ h5 (hm.joined hp g1 g2 g3)
    · rw [if_neg hj]
      exact mrgF_ok O A B l _ _ h5 (hm.fresh h1 h2 h3 h4 g1 g2 g3)
/-- the pieces are the three lists, part by part, each of its kind -/
theorem mrg_ok [Inhabited α] (O A B : List α) : ((mrg O A B).flatMap (·.o) = O ∧ (mrg O A B).flatMap (·.a) = A ∧ (mrg O A B).flatMap (·.b) = B) ∧ (∀ p ∈ mrg O A B, pcOk p) ∧ apartP (mrg O A B) :=
  mrgF_ok O A B _ _ [] (mrg_stb O A B) ⟨⟨rfl, rfl, rfl⟩, fun p hp => (by cases hp), trivial, fun p hp => (by cases hp), fun h => absurd h (Nat.lt_irrefl 0)⟩

theorem kind_swap {o a b : List α} (h : ¬ (o = a ∧ o = b)) : kindOf o b a = turnK (kindOf o a b) := by
  unfold kindOf turnK
  by_cases h1 : b = o
  · have h2 : ¬ a = o := fun h2 => h ⟨h2.symm, h1.symm⟩
    rw [if_neg h2, if_pos h1, if_pos h1]
    rfl
  · by_cases h2 : a = o
    · rw [if_pos h2, if_neg h1, if_pos h2]
      rfl
    · rw [if_neg h2, if_neg h1, if_neg h1, if_neg h2]
      by_cases h3 : a = b
      · rw [if_pos h3, if_pos h3.symm]
        rfl
      · rw [if_neg h3, if_neg (fun h => h3 h.symm)]
        rfl
theorem diffP_swap {O A B : List α} {f t : Nat × Nat × Nat} (hn : f ≠ t → ¬ (seg O f.1 t.1 = seg A f.2.1 t.2.1 ∧ seg O f.1 t.1 = seg B f.2.2 t.2.2)) :
    diffP O B A (f.1, f.2.2, f.2.1) (t.1, t.2.2, t.2.1) = (diffP O A B f t).map swapP := by
  unfold diffP
  by_cases h : f = t
  · subst h
    rw [if_pos rfl, if_pos rfl]
    rfl
  · have h2 : (f.1, f.2.2, f.2.1) ≠ (t.1, t.2.2, t.2.1) := fun e => h (by
      simp only [Prod.mk.injEq] at e
      exact Prod.ext e.1 (Prod.ext e.2.2 e.2.1))
    rw [if_neg h, if_neg h2]
    show [_] = [swapP _]
    unfold swapP
    rw [← kind_swap (hn h)]
theorem mrgF_swap [Inhabited α] (O A B : List α) : ∀ (l : List (Nat × Nat × Nat)) (f : Nat × Nat × Nat) (ps : List (Pc α)), Stb O A B f l →
    mrgF O B A (l.map (fun s => (s.1, s.2.2, s.2.1))) (f.1, f.2.2, f.2.1) (ps.map swapP) = (mrgF O A B l f ps).map swapP
  | [], f, ps, hs => by
    obtain ⟨h1, h2, h3, h4⟩ := hs
    show ps.map swapP ++ diffP O B A (f.1, f.2.2, f.2.1) (O.length, B.length, A.length) = (ps ++ diffP O A B f (O.length, A.length, B.length)).map swapP
    rw [List.map_append, ← diffP_swap (t := (O.length, A.length, B.length)) (fun hne hh => h4 hne (by
      have e : ∀ (X : List α) (i : Nat), seg X i X.length = X.drop i := fun X i => by unfold seg; exact List.take_of_length_le (by rw [List.length_drop]; exact Nat.le_refl _)
      simp only [e] at hh
      exact hh))]
  | s :: l, f, ps, hs => by
    obtain ⟨h1, h2, h3, ⟨u, g1, g2, g3⟩, h4, h5⟩ := hs
    rw [List.map_cons]
    unfold mrgF
    rw [g1, g2, g3]
    simp only [Option.getD_some]
    have hiff : (0 < s.1 ∧ (f.1, f.2.2, f.2.1) = (s.1, s.2.2, s.2.1)) ↔ (0 < s.1 ∧ f = s) := by
      constructor
      · rintro ⟨a, b⟩
        simp only [Prod.mk.injEq] at b
        exact ⟨a, Prod.ext b.1 (Prod.ext b.2.2 b.2.1)⟩
      · rintro ⟨a, rfl⟩
        exact ⟨a, rfl⟩
    by_cases hj : 0 < s.1 ∧ f = s
    · rw [if_pos hj, if_pos (hiff.2 hj), joinP_swap]
      exact mrgF_swap O A B l _ _ h5
    · rw [if_neg hj, if_neg (fun h => hj (hiff.1 h)), diffP_swap h4]
      have e : ps.map swapP ++ (diffP O A B f s).map swapP ++ [sameP u u u] = (ps ++ diffP O A B f s ++ [sameP u u u]).map swapP := by
        rw [List.map_append, List.map_append]
        rfl
      rw [e]
      exact mrgF_swap O A B l _ _ h5
theorem mrg_swap [Inhabited α] (O A B : List α) : mrg O B A = (mrg O A B).map swapP := by
  unfold mrg
  rw [stab_swap]
  exact mrgF_swap O A B _ (0, 0, 0) [] (mrg_stb O A B)

/-- the lines of pieces without conflict -/
def lineP (p : Pc α) : List α := if p.kind = 3 then p.b else p.a
def freeP (ps : List (Pc α)) : Bool := ps.all (fun p => decide (p.kind = 1 ∨ p.kind = 2 ∨ p.kind = 3 ∨ p.kind = 4))
end
end Go.Proofs.Ytfhkmmicdbblnaa

