/-
  The lines of a text: plain facts, no program in sight.
-/
import Derived.Lib.SplitLaws
import Derived.Lib.Small
import Derived.Lib.Strings
import Derived.Lib.Bytealg
namespace Go.Proofs.YtfhkmmicdbblnaaDoor
set_option linter.unusedSimpArgs false
set_option linter.unusedVariables false

/-- the lines of a text -/
def lns : List UInt8 → List (List UInt8)
  | [] => []
  | c :: l => if c = 10 then [c] :: lns l else match lns l with
    | [] => [[c]]
    | x :: xs => (c :: x) :: xs
theorem lns_nl (l : List UInt8) : lns (10 :: l) = [10] :: lns l := by
  conv => lhs; unfold lns
  rw [if_pos rfl]
theorem lns_cons {c : UInt8} (h : c ≠ 10) (l : List UInt8) : lns (c :: l) = match lns l with
    | [] => [[c]]
    | x :: xs => (c :: x) :: xs := by
  conv => lhs; unfold lns
  rw [if_neg h]
theorem lns_nil {l : List UInt8} : lns l = [] ↔ l = [] := by
  constructor
  · intro h
    cases l with
    | nil => rfl
    | cons c l =>
      by_cases e : c = 10
      · subst e; rw [lns_nl] at h; cases h
      · rw [lns_cons e] at h
        cases hl : lns l with
        | nil => rw [hl] at h; cases h
        | cons x xs => rw [hl] at h; cases h
  · rintro rfl; rfl
theorem lns_flat : ∀ l : List UInt8, (lns l).flatten = l
  | [] => rfl
  | c :: l => by
    by_cases e : c = 10
    · subst e; rw [lns_nl, List.flatten_cons, lns_flat l]; rfl
    · have ih := lns_flat l
      rw [lns_cons e]
      cases hl : lns l with
      | nil =>
        have : l = [] := lns_nil.1 hl
        subst this
        rfl
      | cons x xs =>
        rw [hl] at ih
        simp only [List.flatten_cons] at ih ⊢
        rw [List.cons_append, ih]
/-- a text that is one line -/
def isLn (x : List UInt8) : Bool := !x.isEmpty && (x.dropLast.all (· != 10))
theorem isLn_cons {c : UInt8} {x : List UInt8} (h : c ≠ 10) (hx : isLn x = true) : isLn (c :: x) = true := by
  cases x with
  | nil => cases hx
  | cons d y =>
    unfold isLn at hx ⊢
    rw [Bool.and_eq_true] at hx
    rw [List.dropLast_cons_cons, List.all_cons, hx.2]
    simp [h]
theorem lns_line : ∀ (l : List UInt8) (x : List UInt8), x ∈ lns l → isLn x = true
  | [], x, h => by cases h
  | c :: l, x, h => by
    by_cases e : c = 10
    · subst e
      rw [lns_nl] at h
      rcases List.mem_cons.1 h with rfl | h
      · rfl
      · exact lns_line l x h
    · rw [lns_cons e] at h
      cases hl : lns l with
      | nil =>
        rw [hl] at h
        simp only [List.mem_singleton] at h
        subst h
        rfl
      | cons y ys =>
        rw [hl] at h
        rcases List.mem_cons.1 h with rfl | h
        · exact isLn_cons e (lns_line l y (by rw [hl]; simp))
        · exact lns_line l x (by rw [hl]; simp [h])
/-- whether a line ends with a newline -/
def endNl (x : List UInt8) : Bool := x.getLast? == some 10
theorem lns_app : ∀ (x l : List UInt8), isLn x = true → endNl x = true → lns (x ++ l) = x :: lns l
  | [], l, h, _ => by cases h
  | [c], l, _, h => by
    have : c = 10 := by simpa [endNl] using h
    subst this
    exact lns_nl l
  | c :: d :: y, l, h, k => by
    have hc : c ≠ 10 := by
      unfold isLn at h
      rw [Bool.and_eq_true, List.dropLast_cons_cons, List.all_cons, Bool.and_eq_true] at h
      simpa using h.2.1
    have h2 : isLn (d :: y) = true := by
      unfold isLn at h ⊢
      rw [Bool.and_eq_true, List.dropLast_cons_cons, List.all_cons, Bool.and_eq_true] at h
      rw [h.2.2]
      rfl
    have k2 : endNl (d :: y) = true := by
      unfold endNl at k ⊢
      rw [List.getLast?_cons_cons] at k
      exact k
    rw [List.cons_append, lns_cons hc, lns_app (d :: y) l h2 k2]
theorem lns_one : ∀ (x : List UInt8), isLn x = true → lns x = [x]
  | [], h => by cases h
  | [c], h => by
    by_cases e : c = 10
    · subst e; rfl
    · rw [lns_cons e]; rfl
  | c :: d :: y, h => by
    have hc : c ≠ 10 := by
      unfold isLn at h
      rw [Bool.and_eq_true, List.dropLast_cons_cons, List.all_cons, Bool.and_eq_true] at h
      simpa using h.2.1
    have h2 : isLn (d :: y) = true := by
      unfold isLn at h ⊢
      rw [Bool.and_eq_true, List.dropLast_cons_cons, List.all_cons, Bool.and_eq_true] at h
      rw [h.2.2]
      rfl
    rw [lns_cons hc, lns_one (d :: y) h2]
theorem lns_single {x : List UInt8} : (lns x).length = 1 ↔ isLn x = true := by
  constructor
  · intro h
    obtain ⟨y, hy⟩ := List.length_eq_one_iff.1 h
    have hf := lns_flat x
    rw [hy] at hf
    have : y = x := by simpa using hf
    subst this
    exact lns_line y y (by rw [hy]; simp)
  · intro h
    rw [lns_one x h]
    rfl
/-- lines, all but the last ending with a newline, are the lines of their text -/
def linesOk : List (List UInt8) → Bool
  | [] => true
  | [x] => isLn x
  | x :: xs => isLn x && (endNl x && linesOk xs)
theorem lns_join : ∀ (xs : List (List UInt8)), linesOk xs = true → lns xs.flatten = xs
  | [], _ => rfl
  | [x], h => by
    rw [List.flatten_cons, List.flatten_nil, List.append_nil]
    exact lns_one x h
  | x :: y :: xs, h => by
    unfold linesOk at h
    rw [Bool.and_eq_true, Bool.and_eq_true] at h
    rw [List.flatten_cons, lns_app x _ h.1 h.2.1, lns_join (y :: xs) h.2.2]
theorem endNl_cons (c : UInt8) {x : List UInt8} (h : x ≠ []) : endNl (c :: x) = endNl x := by
  cases x with
  | nil => exact absurd rfl h
  | cons d y =>
    unfold endNl
    rw [List.getLast?_cons_cons]
theorem lns_ok : ∀ l : List UInt8, linesOk (lns l) = true
  | [] => rfl
  | c :: l => by
    have ih := lns_ok l
    by_cases e : c = 10
    · subst e
      rw [lns_nl]
      cases hl : lns l with
      | nil => rfl
      | cons x xs =>
        rw [hl] at ih
        show (isLn [10] && (endNl [10] && linesOk (x :: xs))) = true
        rw [ih]
        rfl
    · rw [lns_cons e]
      cases hl : lns l with
      | nil => rfl
      | cons x xs =>
        rw [hl] at ih
        have hx : isLn x = true := lns_line l x (by rw [hl]; simp)
        have hne : x ≠ [] := by rintro rfl; cases hx
        cases xs with
        | nil => exact isLn_cons e hx
        | cons y ys =>
          unfold linesOk at ih ⊢
          rw [Bool.and_eq_true, Bool.and_eq_true] at ih
          rw [isLn_cons e hx, endNl_cons c hne, ih.2.1, ih.2.2]
          rfl
theorem lns_inj {a b : List UInt8} (h : lns a = lns b) : a = b := by rw [← lns_flat a, ← lns_flat b, h]
/-- the first line ends behind the first newline -/
theorem lns_cut : ∀ (l : List UInt8), l ≠ [] → ∃ e, 0 < e ∧ e ≤ l.length ∧ lns l = l.take e :: lns (l.drop e) ∧ (Lib.indexByte l 10 = -1 → e = l.length) ∧ (Lib.indexByte l 10 ≠ -1 → (e : Int) = Lib.indexByte l 10 + 1)
  | [], h => absurd rfl h
  | c :: l, _ => by
    by_cases e : c = 10
    · subst e
      refine ⟨1, by omega, by simp, by rw [lns_nl]; rfl, fun h => ?_, fun h => ?_⟩
      · unfold Lib.indexByte at h
        rw [if_pos (by decide)] at h
        cases h
      · unfold Lib.indexByte
        rw [if_pos (by decide)]
        rfl
    · have hg := Lib.indexByte_ge l 10
      have hstep : Lib.indexByte (c :: l) 10 = if Lib.indexByte l 10 = -1 then -1 else Lib.indexByte l 10 + 1 := by
        conv => lhs; unfold Lib.indexByte
        rw [if_neg (by simpa using e)]
        by_cases hk : Lib.indexByte l 10 = -1
        · rw [if_pos (by simpa using hk), if_pos hk]
        · rw [if_neg (by simpa using hk), if_neg hk]
      cases l with
      | nil =>
        refine ⟨1, by omega, by simp, by rw [lns_cons e]; rfl, fun _ => rfl, fun h => ?_⟩
        rw [hstep] at h
        exact absurd rfl h
      | cons d l =>
        obtain ⟨n, h1, h2, h3, h4, h5⟩ := lns_cut (d :: l) (by simp)
        refine ⟨n + 1, by omega, by simp only [List.length_cons] at h2 ⊢; omega, ?_, fun h => ?_, fun h => ?_⟩
        · rw [lns_cons e, h3]
          rfl
        · rw [hstep] at h
          by_cases hk : Lib.indexByte (d :: l) 10 = -1
          · rw [h4 hk]; rfl
          · rw [if_neg hk] at h; omega
        · rw [hstep] at h ⊢
          by_cases hk : Lib.indexByte (d :: l) 10 = -1
          · rw [if_pos hk] at h; exact absurd rfl h
          · rw [if_neg hk] at h ⊢
            have := h5 hk
            omega
theorem lns_len : ∀ l : List UInt8, (lns l).length ≤ l.length
  | [] => Nat.le_refl _
  | c :: l => by
    have ih := lns_len l
    by_cases e : c = 10
    · subst e; rw [lns_nl]; simp; omega
    · rw [lns_cons e]
      cases hl : lns l with
      | nil => simp
      | cons x xs => rw [hl] at ih; simp at ih ⊢; omega
end Go.Proofs.YtfhkmmicdbblnaaDoor

