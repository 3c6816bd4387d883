/-
  Scripts: what they make of a list, the script between two lists, and that it is the shortest: plain facts, no program in sight.
-/
import Derived.Test.YtfhkmmicdbblnaaDoorD1
namespace Go.Proofs.YtfhkmmicdbblnaaDoor
set_option linter.unusedSimpArgs false
set_option linter.unusedVariables false

section
variable {α : Type}

/-- the hunks between pairs: from, to, what stands there -/
def scr (b : List α) : List (Nat × Nat) → Nat → Nat → List (Nat × Nat × List α)
  | [], _, _ => []
  | p :: l, f, t => (if f < p.1 ∨ t < p.2 then [(f, p.1, (b.drop t).take (p.2 - t))] else []) ++ scr b l (p.1 + 1) (p.2 + 1)
def diffL [DecidableEq α] (a b : List α) : List (Nat × Nat × List α) := scr b (pairs a b 0 0 ++ [(a.length, b.length)]) 0 0
/-- what hunks make of a list, from a place on -/
def apl (a : List α) : List (Nat × Nat × List α) → Nat → List α
  | [], t => a.drop t
  | h :: l, t => (a.drop t).take (h.1 - t) ++ (h.2.2 ++ apl a l h.2.1)
/-- hunks that are a script: last is the number of the first line that a hunk may begin at -/
def scrOk (n : Nat) : List (Nat × Nat × List α) → Nat → Bool
  | [], _ => true
  | h :: l, s => decide (s ≤ h.1 ∧ h.1 ≤ h.2.1 ∧ h.2.1 ≤ n ∧ (h.1 = h.2.1 → h.2.2 ≠ [])) && scrOk n l (h.2.1 + 1)
/-- how many lines are left -/
def left (n : Nat) : List (Nat × Nat × List α) → Nat → Nat
  | [], t => n - t
  | h :: l, t => (h.1 - t) + left n l h.2.1

/-- one line ahead of the hunks -/
theorem apl_step {a : List α} {x : α} {t : Nat} (hx : a[t]? = some x) : ∀ (l : List (Nat × Nat × List α)), (∀ h ∈ l.head?, t + 1 ≤ h.1) → apl a l t = x :: apl a l (t + 1)
  | [], _ => by
    obtain ⟨hl, he⟩ := List.getElem?_eq_some_iff.1 hx
    show a.drop t = x :: a.drop (t + 1)
    rw [List.drop_eq_getElem_cons hl, he]
  | h :: l, hh => by
    have h1 : t + 1 ≤ h.1 := hh h (by simp)
    obtain ⟨hl, he⟩ := List.getElem?_eq_some_iff.1 hx
    show (a.drop t).take (h.1 - t) ++ _ = x :: ((a.drop (t + 1)).take (h.1 - (t + 1)) ++ _)
    rw [List.drop_eq_getElem_cons hl, he, show h.1 - t = (h.1 - (t + 1)) + 1 by omega, List.take_succ_cons, List.cons_append]

/-- the script between two lists makes the one of the other -/
theorem scr_back (A B : List α) : ∀ (l : List (Nat × Nat)) (i j : Nat), Prs A B i j l → i ≤ A.length → j ≤ B.length →
    apl A (scr B (l ++ [(A.length, B.length)]) i j) i = B.drop j ∧ scrOk A.length (scr B (l ++ [(A.length, B.length)]) i j) i = true ∧
    (∀ h ∈ scr B (l ++ [(A.length, B.length)]) i j, i ≤ h.1) ∧ left A.length (scr B (l ++ [(A.length, B.length)]) i j) i = l.length
  | [], i, j, _, hi, hj => by
    rw [List.nil_append]
    unfold scr
    by_cases c : i < A.length ∨ j < B.length
    · rw [if_pos c]
      have e : (B.drop j).take (B.length - j) = B.drop j := List.take_of_length_le (by rw [List.length_drop]; exact Nat.le_refl _)
      rw [e]
      refine ⟨?_, ?_, ?_, ?_⟩
      · show (A.drop i).take (i - i) ++ (B.drop j ++ A.drop A.length) = B.drop j
        rw [Nat.sub_self, List.take_zero, List.nil_append, List.drop_length, List.append_nil]
      · show (decide _ && true) = true
        rw [Bool.and_true, decide_eq_true_eq]
        refine ⟨Nat.le_refl _, hi, Nat.le_refl _, fun he hn => ?_⟩
        have : (B.drop j).length = 0 := by
          have hn' : B.drop j = [] := hn
          rw [hn']; rfl
        rw [List.length_drop] at this
        simp only at he
        omega
      · intro h hh
        have : h = (i, A.length, B.drop j) := by simpa [scr] using hh
        rw [this]
        exact Nat.le_refl _
      · show (i - i) + (A.length - A.length) = 0
        omega
    · rw [if_neg c]
      have e1 : i = A.length := by omega
      have e2 : j = B.length := by omega
      subst e1 e2
      refine ⟨?_, rfl, fun h hh => (by cases hh), ?_⟩
      · show A.drop A.length = B.drop B.length
        rw [List.drop_length, List.drop_length]
      · show A.length - A.length = 0
        omega
  | p :: l, i, j, h, hi, hj => by
    obtain ⟨h1, h2, ⟨u, h3, h4⟩, h5⟩ := h
    have l3 := (List.getElem?_eq_some_iff.1 h3).1
    have l4 := (List.getElem?_eq_some_iff.1 h4).1
    obtain ⟨i1, i2, i3, i4⟩ := scr_back A B l (p.1 + 1) (p.2 + 1) h5 (by omega) (by omega)
    rw [List.cons_append]
    unfold scr
    generalize scr B (l ++ [(A.length, B.length)]) (p.1 + 1) (p.2 + 1) = hs at *
    have hstep : apl A hs p.1 = u :: apl A hs (p.1 + 1) := apl_step h3 hs (fun h hh => i3 h (List.mem_of_mem_head? hh))
    have hB : B.drop p.2 = u :: B.drop (p.2 + 1) := by
      obtain ⟨hl, he⟩ := List.getElem?_eq_some_iff.1 h4
      rw [List.drop_eq_getElem_cons hl, he]
    have hleft : left A.length hs p.1 = left A.length hs (p.1 + 1) + 1 := by
      cases hs with
      | nil => show A.length - p.1 = A.length - (p.1 + 1) + 1; omega
      | cons h hs =>
        have := i3 h (by simp)
        show (h.1 - p.1) + _ = (h.1 - (p.1 + 1)) + _ + 1
        omega
    by_cases c : i < p.1 ∨ j < p.2
    · rw [if_pos c, List.singleton_append]
      refine ⟨?_, ?_, ?_, ?_⟩
      · show (A.drop i).take (i - i) ++ ((B.drop j).take (p.2 - j) ++ apl A hs p.1) = B.drop j
        rw [Nat.sub_self, List.take_zero, List.nil_append, hstep, i1, ← hB]
        have e : B.drop p.2 = (B.drop j).drop (p.2 - j) := by rw [List.drop_drop]; congr 1; omega
        rw [e, List.take_append_drop]
      · show (decide _ && scrOk A.length hs (p.1 + 1)) = true
        rw [i2, Bool.and_true, decide_eq_true_eq]
        refine ⟨Nat.le_refl _, h1, by simp only; omega, fun he hn => ?_⟩
        have : ((B.drop j).take (p.2 - j)).length = 0 := by
          have hn' : (B.drop j).take (p.2 - j) = [] := hn
          rw [hn']; rfl
        rw [List.length_take, List.length_drop] at this
        simp only at he
        omega
      · intro h hh
        rcases List.mem_cons.1 hh with rfl | hh
        · exact Nat.le_refl _
        · have := i3 h hh; omega
      · show (i - i) + left A.length hs p.1 = l.length + 1
        rw [hleft, i4]
        omega
    · rw [if_neg c, List.nil_append]
      have e1 : i = p.1 := by omega
      have e2 : j = p.2 := by omega
      subst e1 e2
      refine ⟨by rw [hstep, i1, ← hB], ?_, fun h hh => by have := i3 h hh; omega, by rw [hleft, i4]; rfl⟩
      cases hs with
      | nil => rfl
      | cons h hs =>
        unfold scrOk at i2 ⊢
        rw [Bool.and_eq_true, decide_eq_true_eq] at i2 ⊢
        exact ⟨⟨by omega, i2.1.2⟩, i2.2⟩
theorem scr_diag (b : List α) : ∀ (n i : Nat), scr b ((List.range n).map (fun k => (i + k, i + k)) ++ [(i + n, i + n)]) i i = []
  | 0, i => by
    show (if i < i + 0 ∨ i < i + 0 then _ else []) ++ [] = []
    rw [if_neg (by omega)]
    rfl
  | n + 1, i => by
    rw [List.range_succ_eq_map, List.map_cons, List.map_map, List.cons_append]
    unfold scr
    rw [if_neg (by simp)]
    have e : (fun k => (i + k, i + k)) ∘ Nat.succ = fun k => (i + 1 + k, i + 1 + k) := by
      funext k
      show (i + (k + 1), i + (k + 1)) = (i + 1 + k, i + 1 + k)
      congr 1 <;> omega
    rw [e, List.nil_append]
    have := scr_diag b n (i + 1)
    rw [show i + 1 + n = i + (n + 1) by omega] at this
    exact this
end
section
variable {α : Type} [DecidableEq α]
theorem diff_back (a b : List α) : apl a (diffL a b) 0 = b ∧ scrOk a.length (diffL a b) 0 = true ∧ left a.length (diffL a b) 0 = lcs a b := by
  obtain ⟨h1, h2⟩ := comm_prs a b a b 0 0 rfl rfl
  obtain ⟨i1, i2, _, i4⟩ := scr_back a b _ 0 0 h1 (Nat.zero_le _) (Nat.zero_le _)
  exact ⟨i1, i2, by rw [← h2]; exact i4⟩

/-- a text's script to itself is empty -/
theorem comm_self : ∀ (a : List α) (j : Nat), comm a a j = (List.range a.length).map (fun i => some (j + i))
  | [], j => rfl
  | x :: a, j => by
    conv => lhs; unfold comm
    have e : idx x (x :: a) = some 0 := by unfold idx; rw [if_pos rfl]
    rw [e]
    simp only
    rw [if_pos (by rw [lcs_cons, if_pos rfl]; rfl)]
    show some (j + 0) :: comm a a (j + 0 + 1) = _
    rw [comm_self a, List.length_cons, List.range_succ_eq_map, List.map_cons, List.map_map]
    congr 1
    apply List.map_congr_left
    intro i _
    show some (j + 0 + 1 + i) = some (j + (i + 1))
    congr 1
    omega
theorem prs_range (n i j : Nat) : prs ((List.range n).map (fun k => some (j + k))) i = (List.range n).map (fun k => (i + k, j + k)) := by
  induction n generalizing i j with
  | zero => rfl
  | succ n ih =>
    rw [List.range_succ_eq_map, List.map_cons, List.map_cons, List.map_map, List.map_map]
    show (i, j + 0) :: prs _ (i + 1) = _
    have e : (fun k => some (j + k)) ∘ Nat.succ = fun k => some (j + 1 + k) := by
      funext k
      show some (j + (k + 1)) = some (j + 1 + k)
      congr 1
      omega
    rw [e, ih (i + 1) (j + 1)]
    congr 1
    apply List.map_congr_left
    intro k _
    show (i + 1 + k, j + 1 + k) = (i + (k + 1), j + (k + 1))
    congr 1 <;> omega
theorem diff_self (a : List α) : diffL a a = [] := by
  unfold diffL pairs
  rw [comm_self, prs_range]
  have := scr_diag a a.length 0
  simpa using this
theorem diff_nil {a b : List α} : diffL a b = [] ↔ a = b := by
  constructor
  · intro h
    have := (diff_back a b).1
    rw [h] at this
    exact this
  · rintro rfl
    exact diff_self a

/-- no script leaves more -/
theorem lcs_app (u v w : List α) : u.length + lcs v w ≤ lcs (u ++ v) (u ++ w) := by
  induction u with
  | nil => simp
  | cons x u ih =>
    rw [List.cons_append, List.cons_append, lcs_cons, if_pos rfl, List.length_cons]
    omega
theorem lcs_app2 (v ls w : List α) : lcs v w ≤ lcs v (ls ++ w) := by
  induction ls with
  | nil => exact Nat.le_refl _
  | cons x ls ih => exact Nat.le_trans ih (lcs_mono v (ls ++ w) x x).2.1
theorem lcs_dropA (a b : List α) (m : Nat) : lcs (a.drop m) b ≤ lcs a b := by
  induction m generalizing a with
  | zero => exact Nat.le_refl _
  | succ m ih =>
    cases a with
    | nil => exact Nat.le_refl _
    | cons x a => exact Nat.le_trans (ih a) (lcs_mono a b x x).1
theorem left_le (a : List α) : ∀ (l : List (Nat × Nat × List α)) (s t : Nat), scrOk a.length l s = true → t ≤ s → t ≤ a.length → left a.length l t ≤ lcs (a.drop t) (apl a l t)
  | [], s, t, _, _, h => by
    show a.length - t ≤ lcs (a.drop t) (a.drop t)
    have := lcs_app (a.drop t) ([] : List α) []
    simp at this
    omega
  | h :: l, s, t, hs, hst, ht => by
    unfold scrOk at hs
    rw [Bool.and_eq_true, decide_eq_true_eq] at hs
    obtain ⟨⟨h1, h2, h3, _⟩, h5⟩ := hs
    have ih := left_le a l (h.2.1 + 1) h.2.1 h5 (by omega) h3
    show (h.1 - t) + left a.length l h.2.1 ≤ lcs (a.drop t) ((a.drop t).take (h.1 - t) ++ (h.2.2 ++ apl a l h.2.1))
    have e : a.drop t = (a.drop t).take (h.1 - t) ++ a.drop h.1 := by
      have e2 : a.drop h.1 = (a.drop t).drop (h.1 - t) := by rw [List.drop_drop]; congr 1; omega
      rw [e2, List.take_append_drop]
    have k1 := lcs_app ((a.drop t).take (h.1 - t)) (a.drop h.1) (h.2.2 ++ apl a l h.2.1)
    rw [← e] at k1
    have k2 := lcs_app2 (a.drop h.1) h.2.2 (apl a l h.2.1)
    have k3 : lcs (a.drop h.2.1) (apl a l h.2.1) ≤ lcs (a.drop h.1) (apl a l h.2.1) := by
      have e2 : a.drop h.2.1 = (a.drop h.1).drop (h.2.1 - h.1) := by rw [List.drop_drop]; congr 1; omega
      rw [e2]
      exact lcs_dropA _ _ _
    have k4 : ((a.drop t).take (h.1 - t)).length = h.1 - t := by rw [List.length_take, List.length_drop]; omega
    omega
theorem shortest (a : List α) (l : List (Nat × Nat × List α)) (h : scrOk a.length l 0 = true) : left a.length l 0 ≤ left a.length (diffL a (apl a l 0)) 0 := by
  rw [(diff_back a (apl a l 0)).2.2]
  exact left_le a l 0 0 h (Nat.le_refl _) (Nat.zero_le _)
end
end Go.Proofs.YtfhkmmicdbblnaaDoor

