/-
  Revisions of a depot: what is read of them, the line of a revision: plain facts, no program in sight.
-/
import Derived.Lib.Small
namespace Go.Proofs.YteagecjhpfijjaaDoor
set_option linter.unusedSimpArgs false
set_option linter.unusedVariables false

/-- a revision -/
structure Rv where
  path : ByteArray
  num : Int
  chg : Int
  act : Int
  ty : Int × Bool × Bool × Bool
  cid : Int × Int
  frm : ByteArray
  fnum : Int
def rv0 : Rv := ⟨⟨#[]⟩, 0, 0, 0, (0, false, false, false), (0, 0), ⟨#[]⟩, 0⟩
/-- a revision's name -/
def nameR (v : Rv) : ByteArray × Int := (v.path, v.num)
def logR (rs : List Rv) (p : ByteArray) : List Rv := rs.filter (fun v => decide (v.path = p))
def getR (rs : List Rv) (p : ByteArray) (n : Int) : Option Rv := (logR rs p).find? (fun v => v.num == n)
def lastR (rs : List Rv) (p : ByteArray) : Option Rv := (logR rs p).getLast?
def goneR (v : Rv) : Bool := v.act == 3 || v.act == 5
def liveR (rs : List Rv) (p : ByteArray) : Bool := match lastR rs p with
  | some v => !goneR v
  | none => false
def lastN (rs : List Rv) (p : ByteArray) : Int := ((lastR rs p).getD rv0).num
def prevR (rs : List Rv) (v : Rv) : Option Rv := if v.act = 1 then none else if v.act = 4 then getR rs v.frm v.fnum else getR rs v.path (v.num - 1)
theorem getR_mem {rs : List Rv} {p : ByteArray} {n : Int} {u : Rv} (h : getR rs p n = some u) : u ∈ rs ∧ u.path = p ∧ u.num = n := by
  unfold getR at h
  have h1 := List.find?_some h
  have h2 := List.mem_of_find?_eq_some h
  unfold logR at h2
  obtain ⟨h3, h4⟩ := List.mem_filter.1 h2
  exact ⟨h3, by simpa using h4, by simpa using h1⟩
theorem prevR_mem {rs : List Rv} {v u : Rv} (h : prevR rs v = some u) : u ∈ rs := by
  unfold prevR at h
  split at h
  · cases h
  · split at h
    · exact (getR_mem h).1
    · exact (getR_mem h).1
/-- the first member of a revision's line, in so many steps -/
def fstF (rs : List Rv) : Nat → Rv → Rv
  | 0, v => v
  | n + 1, v => match prevR rs v with
    | none => v
    | some u => if v.chg ≤ u.chg then v else fstF rs n u
/-- how many revisions have a lesser change -/
def belowR (rs : List Rv) (v : Rv) : Nat := (rs.filter (fun x => decide (x.chg < v.chg))).length
theorem filter_lt {α : Type} {p q : α → Bool} : ∀ {l : List α} {a : α}, (∀ x, p x = true → q x = true) → a ∈ l → p a = false → q a = true → (l.filter p).length < (l.filter q).length
  | [], a, _, h, _, _ => by cases h
  | b :: l, a, hpq, h, h1, h2 => by
    have hle : ∀ l : List α, (l.filter p).length ≤ (l.filter q).length := by
      intro l
      induction l with
      | nil => exact Nat.le_refl _
      | cons c l ih =>
        rw [List.filter_cons, List.filter_cons]
        cases hc : p c with
        | true => rw [if_pos rfl, if_pos (hpq c hc), List.length_cons, List.length_cons]; omega
        | false =>
          rw [if_neg (by simp)]
          split
          · rw [List.length_cons]; omega
          · exact ih
    rw [List.filter_cons, List.filter_cons]
    rcases List.mem_cons.1 h with rfl | h
    · rw [h1, h2, if_neg (by simp), if_pos rfl, List.length_cons]
      have := hle l
      omega
    · have ih := filter_lt hpq h h1 h2
      cases hc : p b with
      | true => rw [if_pos rfl, if_pos (hpq b hc), List.length_cons, List.length_cons]; omega
      | false =>
        rw [if_neg (by simp)]
        split
        · rw [List.length_cons]; omega
        · exact ih
theorem belowR_lt {rs : List Rv} {v u : Rv} (h : u ∈ rs) (hc : u.chg < v.chg) : belowR rs u < belowR rs v :=
  filter_lt (a := u) (fun x hx => by have : x.chg < u.chg := by simpa using hx
                                     simp; omega) h (by simp) (by simpa using hc)
theorem belowR_le (rs : List Rv) (v : Rv) : belowR rs v ≤ rs.length := List.length_filter_le _ _
theorem fstF_more {rs : List Rv} : ∀ {n m : Nat} {v : Rv}, belowR rs v < n → belowR rs v < m → fstF rs n v = fstF rs m v
  | 0, m, v, h, _ => by omega
  | n + 1, 0, v, _, h => by omega
  | n + 1, m + 1, v, h1, h2 => by
    unfold fstF
    cases hp : prevR rs v with
    | none => rfl
    | some u =>
      simp only
      split
      · rfl
      · have := belowR_lt (v := v) (prevR_mem hp) (by omega)
        exact fstF_more (by omega) (by omega)
/-- the first member of a revision's line -/
def firstR (rs : List Rv) (v : Rv) : Rv := fstF rs (rs.length + 1) v
theorem firstR_end {rs : List Rv} {v : Rv} (h : ∀ u, prevR rs v = some u → v.chg ≤ u.chg) : firstR rs v = v := by
  unfold firstR fstF
  cases hp : prevR rs v with
  | none => rfl
  | some u => simp only; rw [if_pos (h u hp)]
theorem firstR_step {rs : List Rv} {v u : Rv} (h : prevR rs v = some u) (hc : u.chg < v.chg) : firstR rs v = firstR rs u := by
  have h1 := belowR_lt (v := v) (prevR_mem h) hc
  have h2 := belowR_le rs v
  unfold firstR
  conv => lhs; unfold fstF
  rw [h]
  simp only
  rw [if_neg (by omega)]
  exact fstF_more (by omega) (by omega)
theorem logR_snoc (rs : List Rv) (p : ByteArray) {k : Nat} {v : Rv} (h : rs[k]? = some v) : logR (rs.take (k + 1)) p = logR (rs.take k) p ++ (if v.path = p then [v] else []) := by
  unfold logR
  rw [List.take_add_one, h, List.filter_append]
  by_cases e : v.path = p <;> simp [List.filter_cons, e]
end Go.Proofs.YteagecjhpfijjaaDoor

