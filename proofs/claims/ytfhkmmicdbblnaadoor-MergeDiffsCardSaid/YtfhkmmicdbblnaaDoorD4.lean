/-
  The lines of a text, as the library splits it: plain facts, no program in sight.
-/
import Derived.Test.YtfhkmmicdbblnaaDoorD3
import Derived.Lib.Split
namespace Go.Proofs.YtfhkmmicdbblnaaDoor
set_option linter.unusedSimpArgs false
set_option linter.unusedVariables false

theorem index_one (c : UInt8) : ∀ l : List UInt8, Lib.index l [c] = Lib.indexByte l c
  | [] => rfl
  | b :: l => by
    unfold Lib.index Lib.indexByte
    rw [index_one c l]
    by_cases e : b = c
    · subst e
      rw [if_pos (by simp), if_pos (by simp)]
    · have h1 : ¬ [c].isPrefixOf (b :: l) = true := by simp; exact fun h => e h.symm
      have h2 : ¬ (b == c) = true := by simpa using e
      rw [if_neg h1, if_neg h2]
/-- a list without its last member, if that is empty -/
def cutEnd (xs : List (List UInt8)) : List (List UInt8) := if xs.getLast? = some [] then xs.dropLast else xs
theorem cutEnd_cons (x : List UInt8) {xs : List (List UInt8)} (h : xs ≠ []) : cutEnd (x :: xs) = x :: cutEnd xs := by
  cases xs with
  | nil => exact absurd rfl h
  | cons y ys =>
    unfold cutEnd
    rw [List.getLast?_cons_cons]
    split
    · rfl
    · rfl
theorem splitK_ne (sep : List UInt8) (sv : Nat) : ∀ (k : Nat) (l : List UInt8), Lib.splitK sep sv k l ≠ []
  | 0, l => by simp [Lib.splitK]
  | k + 1, l => by
    unfold Lib.splitK
    split <;> simp
theorem lns_split : ∀ (k : Nat) (l : List UInt8), l.count 10 = k → cutEnd (Lib.splitK [10] 1 k l) = lns l := by
  intro k
  induction k with
  | zero =>
    intro l h
    show cutEnd [l] = lns l
    cases l with
    | nil => rfl
    | cons c l =>
      have hno : (10 : UInt8) ∉ (c :: l) := List.count_eq_zero.1 h
      have hline : isLn (c :: l) = true := by
        unfold isLn
        rw [Bool.and_eq_true]
        refine ⟨rfl, List.all_eq_true.2 fun x hx => ?_⟩
        have := List.dropLast_subset _ hx
        rw [bne_iff_ne]
        rintro rfl
        exact hno this
      rw [lns_one _ hline]
      rfl
  | succ k ih =>
    intro l h
    have hmem : (10 : UInt8) ∈ l := List.count_pos_iff.1 (by omega)
    have hne : l ≠ [] := by rintro rfl; cases hmem
    obtain ⟨e, h1, h2, h3, h4, h5⟩ := lns_cut l hne
    have hi : Lib.indexByte l 10 ≠ -1 := by
      intro hn
      have : ∀ l : List UInt8, Lib.indexByte l 10 = -1 → (10 : UInt8) ∉ l := by
        intro l
        induction l with
        | nil => intro _; simp
        | cons b l ihl =>
          intro hb
          unfold Lib.indexByte at hb
          by_cases e : b = 10
          · subst e
            rw [if_pos (by decide)] at hb
            cases hb
          · rw [if_neg (by simpa using e)] at hb
            by_cases hk : Lib.indexByte l 10 = -1
            · simp only [List.mem_cons, not_or]
              exact ⟨fun h => e h.symm, ihl hk⟩
            · have := Lib.indexByte_ge l 10
              rw [if_neg (by simpa using hk)] at hb
              omega
      exact this l hn hmem
    have he := h5 hi
    unfold Lib.splitK
    rw [index_one, if_neg (by simpa using hi)]
    have e1 : (Lib.indexByte l 10).toNat + 1 = e := by omega
    have e2 : (Lib.indexByte l 10).toNat + [(10 : UInt8)].length = e := by simpa using e1
    rw [e1, e2, cutEnd_cons _ (splitK_ne _ _ _ _), h3]
    congr 1
    refine ih _ ?_
    have hc : l.count 10 = (l.take e).count 10 + (l.drop e).count 10 := by rw [← List.count_append, List.take_append_drop]
    have hl1 : (l.take e).count 10 = 1 := by
      have hln : isLn (l.take e) = true := lns_line l _ (by rw [h3]; simp)
      have hlast : (l.take e).getLast? = some 10 := by
        have hg : l[e - 1]? = some 10 := by
          have : ∀ (l : List UInt8) (i : Nat), Lib.indexByte l 10 = (i : Int) → l[i]? = some 10 := by
            intro l
            induction l with
            | nil => intro i h; simp [Lib.indexByte] at h
            | cons b l ihl =>
              intro i hb
              unfold Lib.indexByte at hb
              by_cases e : b = 10
              · subst e
                rw [if_pos (by decide)] at hb
                have : i = 0 := by omega
                subst this
                rfl
              · rw [if_neg (by simpa using e)] at hb
                by_cases hk : Lib.indexByte l 10 = -1
                · rw [if_pos (by simpa using hk)] at hb; omega
                · rw [if_neg (by simpa using hk)] at hb
                  have hge := Lib.indexByte_ge l 10
                  cases i with
                  | zero => omega
                  | succ i => simpa using ihl i (by omega)
          exact this l (e - 1) (by omega)
        rw [List.getLast?_take]
        rw [if_neg (by omega), hg]
        rfl
      have hsplit : l.take e = (l.take e).dropLast ++ [10] := by
        have hne2 : l.take e ≠ [] := by
          intro hn
          rw [hn] at hlast
          cases hlast
        have := List.dropLast_concat_getLast hne2
        rw [List.getLast?_eq_some_getLast hne2] at hlast
        rw [Option.some.inj hlast] at this
        exact this.symm
      rw [hsplit, List.count_append]
      unfold isLn at hln
      rw [Bool.and_eq_true] at hln
      have hz : (l.take e).dropLast.count 10 = 0 := List.count_eq_zero.2 (fun hm => by
        have := List.all_eq_true.1 hln.2 10 hm
        simp at this)
      rw [hz]
      rfl
    omega
end Go.Proofs.YtfhkmmicdbblnaaDoor

