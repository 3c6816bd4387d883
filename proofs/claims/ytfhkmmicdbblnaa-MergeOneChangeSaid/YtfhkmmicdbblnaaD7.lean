/-
  Merging with an unchanged side, and merging equal sides: plain facts, no program in sight.
-/
import Derived.Test.YtfhkmmicdbblnaaD6
namespace Go.Proofs.Ytfhkmmicdbblnaa
set_option linter.unusedSimpArgs false
set_option linter.unusedVariables false

section
variable {α : Type}
theorem joinP_all {P : Pc α → Prop} {u : α} (hj : ∀ p, P p → P ⟨p.kind, p.o ++ [u], p.a ++ [u], p.b ++ [u]⟩) : ∀ (l : List (Pc α)), (∀ p ∈ l, P p) → ∀ p ∈ joinP l u u u, P p
  | [], _, p, h => by cases h
  | [q], hl, p, h => by
    have e : p = ⟨q.kind, q.o ++ [u], q.a ++ [u], q.b ++ [u]⟩ := List.mem_singleton.1 h
    rw [e]
    exact hj q (hl q (by simp))
  | q :: r :: l, hl, p, h => by
    have h' : p ∈ q :: joinP (r :: l) u u u := h
    rcases List.mem_cons.1 h' with rfl | h'
    · exact hl p (by simp)
    · exact joinP_all hj (r :: l) (fun x hx => hl x (by simp [hx])) p h'
theorem flat_of {f g : Pc α → List α} {l : List (Pc α)} (h : ∀ p ∈ l, f p = g p) : l.flatMap f = l.flatMap g := by
  induction l with
  | nil => rfl
  | cons p l ih => rw [List.flatMap_cons, List.flatMap_cons, h p (by simp), ih (fun q hq => h q (by simp [hq]))]
end
section
variable {α : Type} [DecidableEq α]
theorem mrgF_all [Inhabited α] {O A B : List α} {P : Pc α → Prop} {F : Nat × Nat × Nat → Prop} (hd : ∀ f t, F f → F t → ∀ p ∈ diffP O A B f t, P p) (hs : ∀ u, P (sameP u u u)) (hj : ∀ p u, P p → P ⟨p.kind, p.o ++ [u], p.a ++ [u], p.b ++ [u]⟩)
    (he : F (O.length, A.length, B.length)) : ∀ (l : List (Nat × Nat × Nat)) (f : Nat × Nat × Nat) (ps : List (Pc α)), Stb O A B f l → (∀ s ∈ l, F s ∧ F (s.1 + 1, s.2.1 + 1, s.2.2 + 1)) → F f → (∀ p ∈ ps, P p) → ∀ p ∈ mrgF O A B l f ps, P p
  | [], f, ps, _, _, hf, hp, p, h => by
    rcases List.mem_append.1 h with h | h
    · exact hp p h
    · exact hd _ _ hf he p h
  | s :: l, f, ps, hS, hl, hf, hp, p, h => by
    obtain ⟨_, _, _, ⟨u, g1, g2, g3⟩, _, h5⟩ := hS
    unfold mrgF at h
    rw [g1, g2, g3] at h
    simp only [Option.getD_some] at h
    obtain ⟨s1, s2⟩ := hl s (by simp)
    refine mrgF_all hd hs hj he l _ _ h5 (fun x hx => hl x (by simp [hx])) s2 ?_ p h
    intro q hq
    by_cases hjj : 0 < s.1 ∧ f = s
    · rw [if_pos hjj] at hq
      exact joinP_all (hj · u) ps hp q hq
    · rw [if_neg hjj] at hq
      rcases List.mem_append.1 hq with hq | hq
      · rcases List.mem_append.1 hq with hq | hq
        · exact hp q hq
        · exact hd _ _ hf s1 q hq
      · rw [List.mem_singleton.1 hq]
        exact hs u
theorem stab_left : ∀ (n i : Nat) (r : List (Option Nat)), ∀ s ∈ stab ((List.range n).map (fun k => some (i + k))) r i, s.1 = s.2.1
  | 0, i, r, s, h => by cases h
  | n + 1, i, r, s, h => by
    rw [List.range_succ_eq_map, List.map_cons, List.map_map] at h
    have e : (fun k => some (i + k)) ∘ Nat.succ = fun k => some (i + 1 + k) := by
      funext k
      show some (i + (k + 1)) = some (i + 1 + k)
      congr 1
      omega
    rw [e] at h
    cases r with
    | nil => cases h
    | cons y r =>
      cases y with
      | none => exact stab_left n (i + 1) r s h
      | some y =>
        rcases List.mem_cons.1 h with rfl | h
        · rfl
        · exact stab_left n (i + 1) r s h
theorem stab_same : ∀ (l : List (Option Nat)) (i : Nat), ∀ s ∈ stab l l i, s.2.1 = s.2.2
  | [], i, s, h => by cases h
  | none :: l, i, s, h => stab_same l (i + 1) s h
  | some x :: l, i, s, h => by
    rcases List.mem_cons.1 h with rfl | h
    · rfl
    · exact stab_same l (i + 1) s h
/-- our side unchanged -/
theorem mrg_ours [Inhabited α] (O B : List α) : ∀ p ∈ mrg O O B, p.o = p.a := by
  refine mrgF_all (P := fun p => p.o = p.a) (F := fun f => f.1 = f.2.1) ?_ (fun u => rfl) (fun p u h => by show p.o ++ [u] = p.a ++ [u]; rw [h]) rfl _ _ [] (mrg_stb O O B) ?_ rfl (fun p hp => by cases hp)
  · intro f t hf ht p hp
    unfold diffP at hp
    split at hp
    · cases hp
    · rw [List.mem_singleton.1 hp]
      show seg O f.1 t.1 = seg O f.2.1 t.2.1
      have h1 : f.1 = f.2.1 := hf
      have h2 : t.1 = t.2.1 := ht
      rw [h1, h2]
  · intro s hs
    rw [comm_self] at hs
    have h := stab_left O.length 0 (comm O B 0) s hs
    exact ⟨h, by show s.1 + 1 = s.2.1 + 1; rw [h]⟩
/-- both sides alike -/
theorem mrg_both [Inhabited α] (O B : List α) : ∀ p ∈ mrg O B B, p.a = p.b := by
  refine mrgF_all (P := fun p => p.a = p.b) (F := fun f => f.2.1 = f.2.2) ?_ (fun u => rfl) (fun p u h => by show p.a ++ [u] = p.b ++ [u]; rw [h]) rfl _ _ [] (mrg_stb O B B) ?_ rfl (fun p hp => by cases hp)
  · intro f t hf ht p hp
    unfold diffP at hp
    split at hp
    · cases hp
    · rw [List.mem_singleton.1 hp]
      show seg B f.2.1 t.2.1 = seg B f.2.2 t.2.2
      have h1 : f.2.1 = f.2.2 := hf
      have h2 : t.2.1 = t.2.2 := ht
      rw [h1, h2]
  · intro s hs
    have h := stab_same (comm O B 0) 0 s hs
    exact ⟨h, by show s.2.1 + 1 = s.2.2 + 1; rw [h]⟩

theorem text_ours [Inhabited α] (O B : List α) : freeP (mrg O O B) = true ∧ (mrg O O B).flatMap lineP = B := by
  have h := mrg_ok O O B
  have key : ∀ p ∈ mrg O O B, (p.kind = 1 ∨ p.kind = 2 ∨ p.kind = 3 ∨ p.kind = 4) ∧ lineP p = p.b := by
    intro p hp
    have ho := mrg_ours O B p hp
    rcases h.2.1 p hp with ⟨k, h1, h2, _⟩ | ⟨k, hne⟩
    · refine ⟨.inl k, ?_⟩
      unfold lineP
      rw [if_neg (by rw [k]; decide), ← h1, h2]
    · unfold kindOf at k
      by_cases hb : p.b = p.o
      · exact absurd ⟨ho, hb.symm⟩ hne
      · rw [if_neg hb, if_pos ho.symm] at k
        refine ⟨.inr (.inr (.inl k)), ?_⟩
        unfold lineP
        rw [if_pos k]
  exact ⟨List.all_eq_true.2 fun p hp => decide_eq_true (key p hp).1, by rw [flat_of (fun p hp => (key p hp).2), h.1.2.2]⟩
theorem text_theirs [Inhabited α] (O B : List α) : freeP (mrg O B O) = true ∧ (mrg O B O).flatMap lineP = B := by
  have h := mrg_ok O O B
  have key : ∀ p ∈ mrg O O B, ((swapP p).kind = 1 ∨ (swapP p).kind = 2 ∨ (swapP p).kind = 3 ∨ (swapP p).kind = 4) ∧ lineP (swapP p) = p.b := by
    intro p hp
    have ho := mrg_ours O B p hp
    rcases h.2.1 p hp with ⟨k, h1, h2, _⟩ | ⟨k, hne⟩
    · have e : (swapP p).kind = 1 := by
        show turnK p.kind = 1
        rw [k]
        rfl
      refine ⟨.inl e, ?_⟩
      unfold lineP
      rw [if_neg (by rw [e]; decide)]
      rfl
    · unfold kindOf at k
      by_cases hb : p.b = p.o
      · exact absurd ⟨ho, hb.symm⟩ hne
      · rw [if_neg hb, if_pos ho.symm] at k
        have e : (swapP p).kind = 2 := by
          show turnK p.kind = 2
          rw [k]
          rfl
        refine ⟨.inr (.inl e), ?_⟩
        unfold lineP
        rw [if_neg (by rw [e]; decide)]
        rfl
  rw [mrg_swap O O B]
  refine ⟨List.all_eq_true.2 fun p hp => ?_, ?_⟩
  · obtain ⟨q, hq, rfl⟩ := List.mem_map.1 hp
    exact decide_eq_true (key q hq).1
  · rw [List.flatMap_map, flat_of (fun p hp => (key p hp).2), h.1.2.2]
theorem text_both [Inhabited α] (O B : List α) : freeP (mrg O B B) = true ∧ (mrg O B B).flatMap lineP = B := by
  have h := mrg_ok O B B
  have key : ∀ p ∈ mrg O B B, (p.kind = 1 ∨ p.kind = 2 ∨ p.kind = 3 ∨ p.kind = 4) ∧ lineP p = p.b := by
    intro p hp
    have ho := mrg_both O B p hp
    rcases h.2.1 p hp with ⟨k, h1, h2, _⟩ | ⟨k, hne⟩
    · refine ⟨.inl k, ?_⟩
      unfold lineP
      rw [if_neg (by rw [k]; decide), ho]
    · unfold kindOf at k
      by_cases hb : p.b = p.o
      · rw [if_pos hb] at k
        refine ⟨.inr (.inl k), ?_⟩
        unfold lineP
        rw [if_neg (by rw [k]; decide), ho]
      · rw [if_neg hb, if_neg (by rw [ho]; exact hb), if_pos ho] at k
        refine ⟨.inr (.inr (.inr k)), ?_⟩
        unfold lineP
        rw [if_neg (by rw [k]; decide), ho]
  exact ⟨List.all_eq_true.2 fun p hp => decide_eq_true (key p hp).1, by rw [flat_of (fun p hp => (key p hp).2), h.1.2.2]⟩
end
end Go.Proofs.Ytfhkmmicdbblnaa

