/-
  Lines told by numbers: the numbering is one to one, and so the partners are the lines' own: plain facts, no program in sight.
-/
import Derived.Test.YtfhkmmicdbblnaaDoorD1
namespace Go.Proofs.YtfhkmmicdbblnaaDoor
set_option linter.unusedSimpArgs false
set_option linter.unusedVariables false

section
variable {α : Type} [DecidableEq α] {β : Type} [DecidableEq β]

theorem idx_map {f : α → β} {x : α} : ∀ {b : List α}, (∀ y ∈ b, f y = f x → y = x) → idx (f x) (b.map f) = idx x b
  | [], _ => rfl
  | y :: b, h => by
    rw [List.map_cons]
    unfold idx
    by_cases e : y = x
    · rw [if_pos e, if_pos (by rw [e])]
    · rw [if_neg e, if_neg (fun e2 => e (h y List.mem_cons_self e2)), idx_map (fun z hz => h z (List.mem_cons_of_mem _ hz))]
theorem lcs_map {f : α → β} : ∀ {a b : List α}, (∀ x ∈ a, ∀ y ∈ b, f x = f y → x = y) → lcs (a.map f) (b.map f) = lcs a b := by
  suffices h : ∀ (n : Nat) (a b : List α), a.length + b.length ≤ n → (∀ x ∈ a, ∀ y ∈ b, f x = f y → x = y) → lcs (a.map f) (b.map f) = lcs a b from
    fun {a b} hf => h _ a b (Nat.le_refl _) hf
  intro n
  induction n with
  | zero =>
    intro a b h hf
    have ha : a = [] := List.eq_nil_of_length_eq_zero (by omega)
    subst ha
    rfl
  | succ n ih =>
    intro a b h hf
    cases a with
    | nil => rfl
    | cons x a =>
      cases b with
      | nil => rw [List.map_nil, lcs_nil2, lcs_nil2]
      | cons y b =>
        simp only [List.length_cons] at h
        have i1 := ih a b (by omega) (fun u hu v hv => hf u (List.mem_cons_of_mem _ hu) v (List.mem_cons_of_mem _ hv))
        have i2 := ih a (y :: b) (by simp only [List.length_cons]; omega) (fun u hu v hv => hf u (List.mem_cons_of_mem _ hu) v hv)
        have i3 := ih (x :: a) b (by simp only [List.length_cons]; omega) (fun u hu v hv => hf u hu v (List.mem_cons_of_mem _ hv))
        rw [List.map_cons] at i2 i3
        rw [List.map_cons, List.map_cons, lcs_cons, lcs_cons, i1, i2, i3]
        by_cases e : x = y
        · rw [if_pos e, if_pos (by rw [e])]
        · rw [if_neg e, if_neg (fun e2 => e (hf x List.mem_cons_self y List.mem_cons_self e2))]
theorem comm_map {f : α → β} : ∀ {a b : List α} {j : Nat}, (∀ x ∈ a, ∀ y ∈ b, f x = f y → x = y) → comm (a.map f) (b.map f) j = comm a b j
  | [], _, _, _ => rfl
  | x :: a, b, j, hf => by
    have hd : ∀ k, ∀ u ∈ a, ∀ v ∈ b.drop k, f u = f v → u = v := fun k u hu v hv => hf u (List.mem_cons_of_mem _ hu) v (List.mem_of_mem_drop hv)
    have hi : idx (f x) (b.map f) = idx x b := idx_map (fun y hy e => (hf x List.mem_cons_self y hy e.symm).symm)
    have hl : lcs (f x :: a.map f) (b.map f) = lcs (x :: a) b := lcs_map (a := x :: a) hf
    rw [List.map_cons]
    unfold comm
    rw [hi]
    cases idx x b with
    | none => 
      show none :: comm (a.map f) (b.map f) j = none :: comm a b j
      rw [comm_map (fun u hu v hv => hf u (List.mem_cons_of_mem _ hu) v hv)]
    | some k =>
      show (if 1 + lcs (a.map f) ((b.map f).drop (k + 1)) = lcs (f x :: a.map f) (b.map f) then some (j + k) :: comm (a.map f) ((b.map f).drop (k + 1)) (j + k + 1) else none :: comm (a.map f) (b.map f) j) = (if 1 + lcs a (b.drop (k + 1)) = lcs (x :: a) b then some (j + k) :: comm a (b.drop (k + 1)) (j + k + 1) else none :: comm a b j)
      rw [hl, ← List.map_drop, lcs_map (hd (k + 1)), comm_map (hd (k + 1)), comm_map (fun u hu v hv => hf u (List.mem_cons_of_mem _ hu) v hv)]

/-- the keys of a numbering, in the order of their coming; a line's number is its key's place -/
def key (ks : List α) (x : α) : List α := match idx x ks with | some _ => ks | none => ks ++ [x]
def num (ks : List α) (x : α) : Nat := (idx x ks).getD ks.length
theorem idx_app {x : α} : ∀ {ks : List α} {n : Nat} (r : List α), idx x ks = some n → idx x (ks ++ r) = some n
  | [], n, r, h => by cases h
  | y :: ks, n, r, h => by
    rw [List.cons_append]
    unfold idx at h ⊢
    by_cases e : y = x
    · rw [if_pos e] at h ⊢
      exact h
    · rw [if_neg e] at h ⊢
      obtain ⟨m, hm, rfl⟩ := Option.map_eq_some_iff.1 h
      rw [idx_app r hm]
      rfl
theorem idx_new {x : α} : ∀ {ks : List α}, idx x ks = none → idx x (ks ++ [x]) = some ks.length
  | [], _ => by simp [idx]
  | y :: ks, h => by
    rw [List.cons_append]
    unfold idx at h ⊢
    by_cases e : y = x
    · rw [if_pos e] at h; cases h
    · rw [if_neg e] at h ⊢
      rw [idx_new (by simpa using h)]
      rfl
theorem key_idx (ks : List α) (x : α) : idx x (key ks x) = some (num ks x) := by
  unfold key num
  cases h : idx x ks with
  | none => exact idx_new h
  | some n => exact h
theorem key_app (ks : List α) (x : α) : ∃ r, key ks x = ks ++ r := by
  unfold key
  cases h : idx x ks with
  | none => exact ⟨[x], rfl⟩
  | some n => exact ⟨[], by simp⟩
/-- the numbers of a list, and the keys behind it -/
def nums (ks : List α) : List α → List Nat
  | [] => []
  | x :: l => num ks x :: nums (key ks x) l
def keys (ks : List α) (l : List α) : List α := l.foldl key ks
theorem keys_app : ∀ (l ks : List α), ∃ r, keys ks l = ks ++ r
  | [], ks => ⟨[], by simp [keys]⟩
  | x :: l, ks => by
    obtain ⟨r, hr⟩ := key_app ks x
    obtain ⟨r2, hr2⟩ := keys_app l (key ks x)
    refine ⟨r ++ r2, ?_⟩
    show keys (key ks x) l = _
    rw [hr2, hr, List.append_assoc]
/-- every number is the place among the last keys, whatever keys follow -/
theorem nums_map : ∀ (l ks r : List α), nums ks l = l.map (num (keys ks l ++ r)) ∧ ∀ x ∈ l, (idx x (keys ks l ++ r)).isSome
  | [], ks, r => ⟨rfl, fun x hx => by cases hx⟩
  | x :: l, ks, r => by
    obtain ⟨i1, i2⟩ := nums_map l (key ks x) r
    obtain ⟨q, hq⟩ := keys_app l (key ks x)
    have hx : idx x (keys (key ks x) l ++ r) = some (num ks x) := by
      rw [hq, List.append_assoc]
      exact idx_app _ (key_idx ks x)
    refine ⟨?_, ?_⟩
    · show num ks x :: nums (key ks x) l = num (keys (key ks x) l ++ r) x :: l.map (num (keys (key ks x) l ++ r))
      rw [i1]
      congr 1
      unfold num at hx ⊢
      rw [hx]
      rfl
    · intro y hy
      show (idx y (keys (key ks x) l ++ r)).isSome
      rcases List.mem_cons.1 hy with rfl | hy
      · rw [hx]; rfl
      · exact i2 y hy
theorem num_inj {ks : List α} {x y : α} (hx : (idx x ks).isSome) (hy : (idx y ks).isSome) (h : num ks x = num ks y) : x = y := by
  obtain ⟨n, hn⟩ := Option.isSome_iff_exists.1 hx
  obtain ⟨m, hm⟩ := Option.isSome_iff_exists.1 hy
  have e : n = m := by
    unfold num at h
    rw [hn, hm] at h
    exact h
  subst e
  exact Option.some.inj ((idx_some hn).1.symm.trans (idx_some hm).1)
/-- two lists numbered one after the other, with others between and behind: the partners are the lines' own -/
theorem comm_nums (a b ks m : List α) (j : Nat) : comm (nums ks a) (nums (keys (keys ks a) m) b) j = comm a b j := by
  obtain ⟨q, hq⟩ := keys_app m (keys ks a)
  obtain ⟨p, hp⟩ := keys_app b (keys (keys ks a) m)
  obtain ⟨b1, b2⟩ := nums_map b (keys (keys ks a) m) []
  obtain ⟨a1, a2⟩ := nums_map a ks (q ++ p)
  rw [List.append_nil] at b1 b2
  have e : keys ks a ++ (q ++ p) = keys (keys (keys ks a) m) b := by rw [hp, hq, List.append_assoc]
  rw [e] at a1 a2
  rw [a1, b1]
  exact comm_map (fun x hx y hy h => num_inj (a2 x hx) (b2 y hy) h)
end
end Go.Proofs.YtfhkmmicdbblnaaDoor

