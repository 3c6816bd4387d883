/-
  Plain facts on paths, no program in sight: components, splitting at the slash, the order of paths, and how the order of the bytes of two paths is the order of their components.
-/
import Derived.Lib.SplitLaws
import Derived.Lib.Join
import Derived.Lib.Strings
import Derived.Lib.Small
import Derived.Lib.Bytealg
namespace Go.Proofs.YteagecjhpfijjaaDoor.Pm
set_option linter.unusedSimpArgs false
set_option linter.unusedVariables false
open Go

/-- the bytes of components, by their numbers -/
def isBI (n : Int) : Bool := decide ((65 ≤ n ∧ n ≤ 90) ∨ (97 ≤ n ∧ n ≤ 122) ∨ (48 ≤ n ∧ n ≤ 57) ∨ n = 95 ∨ n = 46 ∨ n = 43 ∨ n = 45)
def isB (c : UInt8) : Bool := isBI (c.toNat : Int)

/-- a component -/
def comp : List UInt8 → Bool
  | [] => false
  | c :: r => !(c == 46) && (c :: r).all isB

/-- the pieces between the slashes -/
def sp : List UInt8 → List (List UInt8)
  | [] => [[]]
  | c :: l => if c = 47 then [] :: sp l else match sp l with
    | [] => [[c]]
    | x :: xs => (c :: x) :: xs

theorem sp_ne (l : List UInt8) : sp l ≠ [] := by
  cases l with
  | nil => simp [sp]
  | cons c l =>
    simp only [sp]
    split
    · simp
    · split <;> simp

theorem sp_slash (l : List UInt8) : sp (47 :: l) = [] :: sp l := by simp [sp]

theorem sp_cons (c : UInt8) (l : List UInt8) (h : c ≠ 47) : ∃ x xs, sp l = x :: xs ∧ sp (c :: l) = (c :: x) :: xs := by
  cases e : sp l with
  | nil => exact absurd e (sp_ne l)
  | cons x xs => exact ⟨x, xs, rfl, by simp [sp, h, e]⟩

/-- a piece without a slash, then a slash: the piece and the rest's pieces -/
theorem sp_piece : ∀ (a b : List UInt8), (47 : UInt8) ∉ a → sp (a ++ 47 :: b) = a :: sp b
  | [], b, _ => by simp [sp]
  | c :: a, b, h => by
    have hc : c ≠ 47 := fun e => h (by simp [e])
    have ih := sp_piece a b (fun e => h (by simp [e]))
    simp [sp, hc, ih]

theorem sp_last : ∀ (a : List UInt8), (47 : UInt8) ∉ a → sp a = [a]
  | [], _ => rfl
  | c :: a, h => by
    have hc : c ≠ 47 := fun e => h (by simp [e])
    have ih := sp_last a (fun e => h (by simp [e]))
    simp [sp, hc, ih]

/-- the library's split at a slash is this one -/
theorem split_eq (l : List UInt8) : Lib.split l [47] = sp l := by
  unfold Lib.split
  generalize hk : Lib.count l [47] = k
  induction k generalizing l with
  | zero =>
    have hc : l.count 47 = 0 := by rw [← Lib.count_one]; exact hk
    have : (47 : UInt8) ∉ l := fun h => by
      have := List.count_pos_iff.2 h
      omega
    rw [sp_last l this]
    rfl
  | succ k ih =>
    have hc : l.count 47 = k + 1 := by rw [← Lib.count_one]; exact hk
    have hmem : (47 : UInt8) ∈ l := List.count_pos_iff.1 (by omega)
    obtain ⟨a, b, rfl, hna⟩ : ∃ a b, l = a ++ 47 :: b ∧ (47 : UInt8) ∉ a := by
      clear hk hc ih
      induction l with
      | nil => cases hmem
      | cons c l ih2 =>
        by_cases e : c = 47
        · exact ⟨[], l, by simp [e], by simp⟩
        · have : (47 : UInt8) ∈ l := by
            rcases List.mem_cons.1 hmem with h | h
            · exact absurd h.symm e
            · exact h
          obtain ⟨a, b, rfl, hn⟩ := ih2 this
          exact ⟨c :: a, b, rfl, fun h => by
            rcases List.mem_cons.1 h with h | h
            · exact e h.symm
            · exact hn h⟩
    have hi : Lib.index (a ++ 47 :: b) [47] = (a.length : Int) := by
      rw [Lib.index_one]
      clear hk hc ih hmem
      induction a with
      | nil => simp [Lib.indexByte]
      | cons c a ih3 =>
        have hc : ¬ c = 47 := fun e => hna (by simp [e])
        have := ih3 (fun e => hna (by simp [e]))
        simp only [List.cons_append, Lib.indexByte, this]
        simp [hc]
    have hd : (a ++ 47 :: b).drop (a.length + 1) = b := by
      rw [← List.drop_drop]
      simp
    have hcb : Lib.count b [47] = k := by
      rw [Lib.count_one]
      have h0 : a.count 47 = 0 := List.count_eq_zero.2 hna
      rw [List.count_append, List.count_cons] at hc
      simp at hc
      omega
    have hm : ¬ ((a.length : Int) == -1) = true := by
      intro e
      have := beq_iff_eq.1 e
      omega
    rw [sp_piece a b hna, Lib.splitK, hi, if_neg hm]
    simp only [Int.toNat_natCast, List.length_cons, List.length_nil, Nat.zero_add, Nat.add_zero, hd, ih b hcb]
    simp

/-- a component holds no slash -/
theorem comp_no_slash {l : List UInt8} (h : comp l = true) : (47 : UInt8) ∉ l := by
  cases l with
  | nil => simp
  | cons c r =>
    simp only [comp, Bool.and_eq_true, List.all_eq_true] at h
    intro hm
    have := h.2 47 hm
    revert this
    decide

theorem sp_no_slash (l : List UInt8) : ∀ x ∈ sp l, (47 : UInt8) ∉ x := by
  induction l with
  | nil => simp [sp]
  | cons c l ih =>
    by_cases hc : c = 47
    · subst hc
      rw [sp_slash]
      intro x hx
      rcases List.mem_cons.1 hx with rfl | hx
      · simp
      · exact ih x hx
    · obtain ⟨x, xs, h1, h2⟩ := sp_cons c l hc
      rw [h2]
      rw [h1] at ih
      intro y hy
      rcases List.mem_cons.1 hy with rfl | hy
      · intro hm
        rcases List.mem_cons.1 hm with e | hm
        · exact hc e.symm
        · exact ih x (by simp) hm
      · exact ih y (by simp [hy])

/-- splitting and joining again -/
theorem join_sp (l : List UInt8) : Lib.join (sp l) [47] = l := by
  induction l with
  | nil => rfl
  | cons c l ih =>
    by_cases hc : c = 47
    · subst hc
      rw [sp_slash, Lib.join_cons]
      cases e : sp l with
      | nil => exact absurd e (sp_ne l)
      | cons x xs =>
        rw [e, Lib.join_cons] at ih
        simp only [Lib.joinTail, List.map_cons, List.flatten_cons] at ih ⊢
        simpa using ih
    · obtain ⟨x, xs, h1, h2⟩ := sp_cons c l hc
      rw [h1, Lib.join_cons] at ih
      rw [h2, Lib.join_cons, List.cons_append, ih]

/-- joining and splitting again -/
theorem sp_join : ∀ (xs : List (List UInt8)), xs ≠ [] → (∀ x ∈ xs, (47 : UInt8) ∉ x) → sp (Lib.join xs [47]) = xs
  | [], h, _ => absurd rfl h
  | [x], _, hx => by rw [Lib.join_one, sp_last x (hx x (by simp))]
  | x :: y :: r, _, hx => by
    have ih := sp_join (y :: r) (by simp) (fun z hz => hx z (by simp [hz]))
    rw [Lib.join_cons]
    rw [Lib.join_cons] at ih
    have e : Lib.joinTail [47] (y :: r) = 47 :: (y ++ Lib.joinTail [47] r) := by simp [Lib.joinTail]
    rw [e, sp_piece x _ (hx x (by simp)), ih]

/-- the texts of directories and paths -/
def dirOk (l : List UInt8) : Bool := Lib.hasPrefix l [47, 47] && (sp (l.drop 2)).all comp
def pathOk (l : List UInt8) : Bool := dirOk l && decide (2 ≤ (sp (l.drop 2)).length)

/-- the order of paths, by their bytes -/
def pcmp : List UInt8 → List UInt8 → Int
  | [], [] => 0
  | [], _ :: _ => -1
  | _ :: _, [] => 1
  | x :: a, y :: b => if x = y then pcmp a b else if x = 47 then -1 else if y = 47 then 1 else if x < y then -1 else 1

/-- the order of lists of components -/
def ccmp : List (List UInt8) → List (List UInt8) → Int
  | [], [] => 0
  | [], _ :: _ => -1
  | _ :: _, [] => 1
  | x :: a, y :: b => if Lib.compareBytes x y = 0 then ccmp a b else Lib.compareBytes x y

theorem compareBytes_self (l : List UInt8) : Lib.compareBytes l l = 0 := by
  induction l with
  | nil => rfl
  | cons c l ih => simp [Lib.compareBytes, ih, UInt8.lt_irrefl]

theorem compareBytes_eq {a b : List UInt8} (h : Lib.compareBytes a b = 0) : a = b := by
  induction a generalizing b with
  | nil => cases b <;> simp [Lib.compareBytes] at h ⊢
  | cons x a ih =>
    cases b with
    | nil => simp [Lib.compareBytes] at h
    | cons y b =>
      unfold Lib.compareBytes at h
      split at h
      · cases h
      · split at h
        · cases h
        · rename_i h1 h2
          have : x = y := UInt8.le_antisymm (UInt8.not_lt.1 h2) (UInt8.not_lt.1 h1)
          rw [this, ih h]

theorem ccmp_single {x y : List UInt8} : ccmp [x] [y] = Lib.compareBytes x y := by
  simp only [ccmp]
  split
  · rename_i h; exact h.symm
  · rfl

/-- the order of the bytes is the order of the components -/
theorem pcmp_eq : ∀ (a b : List UInt8), pcmp a b = ccmp (sp a) (sp b)
  | [], [] => by simp [pcmp, sp, ccmp, Lib.compareBytes]
  | [], y :: b => by
    by_cases hy : y = 47
    · subst hy
      rw [sp_slash]
      cases e : sp b with
      | nil => exact absurd e (sp_ne b)
      | cons u us => simp [pcmp, sp, ccmp, Lib.compareBytes]
    · obtain ⟨u, us, _, h2⟩ := sp_cons y b hy
      rw [h2]
      simp [pcmp, sp, ccmp, Lib.compareBytes]
  | x :: a, [] => by
    by_cases hx : x = 47
    · subst hx
      rw [sp_slash]
      cases e : sp a with
      | nil => exact absurd e (sp_ne a)
      | cons u us => simp [pcmp, sp, ccmp, Lib.compareBytes]
    · obtain ⟨u, us, _, h2⟩ := sp_cons x a hx
      rw [h2]
      simp [pcmp, sp, ccmp, Lib.compareBytes]
  | x :: a, y :: b => by
    have ih := pcmp_eq a b
    by_cases hxy : x = y
    · subst hxy
      by_cases hx : x = 47
      · subst hx
        rw [sp_slash, sp_slash]
        simp [pcmp, ccmp, ih, Lib.compareBytes]
      · obtain ⟨u, us, h1, h2⟩ := sp_cons x a hx
        obtain ⟨v, vs, h3, h4⟩ := sp_cons x b hx
        rw [h2, h4]
        rw [h1, h3] at ih
        simp only [pcmp, if_true, ccmp] at ih ⊢
        simp only [Lib.compareBytes, UInt8.lt_irrefl, if_false]
        exact ih
    · by_cases hx : x = 47
      · subst hx
        have hy : y ≠ 47 := fun e => hxy e.symm
        obtain ⟨v, vs, _, h4⟩ := sp_cons y b hy
        rw [sp_slash, h4]
        simp [pcmp, hxy, ccmp, Lib.compareBytes]
      · obtain ⟨u, us, _, h2⟩ := sp_cons x a hx
        rw [h2]
        by_cases hy : y = 47
        · subst hy
          rw [sp_slash]
          simp [pcmp, hxy, hx, ccmp, Lib.compareBytes]
        · obtain ⟨v, vs, _, h4⟩ := sp_cons y b hy
          rw [h4]
          by_cases hlt : x < y
          · simp [pcmp, hxy, hx, hy, hlt, ccmp, Lib.compareBytes]
          · have hgt : y < x := UInt8.lt_of_le_of_ne (UInt8.not_lt.1 hlt) (Ne.symm hxy)
            simp [pcmp, hxy, hx, hy, hlt, hgt, ccmp, Lib.compareBytes]

/-- the order is one: three values, turned round, equal texts alone, it goes on -/
theorem pcmp_range (a b : List UInt8) : pcmp a b = -1 ∨ pcmp a b = 0 ∨ pcmp a b = 1 := by
  induction a generalizing b with
  | nil => cases b <;> simp [pcmp]
  | cons x a ih =>
    cases b with
    | nil => simp [pcmp]
    | cons y b =>
      unfold pcmp
      repeat' split
      all_goals first | exact ih b | simp

theorem pcmp_turn (a b : List UInt8) : pcmp a b = - pcmp b a := by
  induction a generalizing b with
  | nil => cases b <;> simp [pcmp]
  | cons x a ih =>
    cases b with
    | nil => simp [pcmp]
    | cons y b =>
      by_cases hxy : x = y
      · subst hxy
        simp only [pcmp, if_true]
        exact ih b
      · have hyx : ¬ y = x := fun e => hxy e.symm
        unfold pcmp
        rw [if_neg hxy, if_neg hyx]
        by_cases hx : x = 47
        · have hy : ¬ y = 47 := fun e => hxy (hx.trans e.symm)
          rw [if_pos hx, if_neg hy, if_pos hx]
        · rw [if_neg hx]
          by_cases hy : y = 47
          · rw [if_pos hy, if_pos hy]; rfl
          · rw [if_neg hy, if_neg hy, if_neg hx]
            by_cases hlt : x < y
            · have : ¬ y < x := fun h => absurd hlt (UInt8.lt_asymm h)
              rw [if_pos hlt, if_neg this]
            · have hgt : y < x := UInt8.lt_of_le_of_ne (UInt8.not_lt.1 hlt) (Ne.symm hxy)
              rw [if_neg hlt, if_pos hgt]; rfl

theorem pcmp_self (a : List UInt8) : pcmp a a = 0 := by
  induction a with
  | nil => rfl
  | cons x a ih => simp [pcmp, ih]

theorem pcmp_zero {a b : List UInt8} (h : pcmp a b = 0) : a = b := by
  induction a generalizing b with
  | nil => cases b <;> simp [pcmp] at h ⊢
  | cons x a ih =>
    cases b with
    | nil => simp [pcmp] at h
    | cons y b =>
      unfold pcmp at h
      split at h
      · rename_i e
        rw [e, ih h]
      · exfalso
        revert h
        repeat' split
        all_goals decide

theorem pcmp_lt_trans {a b c : List UInt8} (h1 : pcmp a b = -1) (h2 : pcmp b c = -1) : pcmp a c = -1 := by
  induction a generalizing b c with
  | nil =>
    cases c with
    | nil =>
      cases b with
      | nil => exact h1
      | cons y b => simp [pcmp] at h2
    | cons z c => rfl
  | cons x a ih =>
    cases b with
    | nil => simp [pcmp] at h1
    | cons y b =>
      cases c with
      | nil => simp [pcmp] at h2
      | cons z c =>
        unfold pcmp at h1 h2 ⊢
        by_cases hxy : x = y
        · subst hxy
          rw [if_pos rfl] at h1
          by_cases hxz : x = z
          · subst hxz
            rw [if_pos rfl] at h2 ⊢
            exact ih h1 h2
          · rw [if_neg hxz] at h2 ⊢
            exact h2
        · rw [if_neg hxy] at h1
          by_cases hyz : y = z
          · subst hyz
            rw [if_neg hxy]
            exact h1
          · rw [if_neg hyz] at h2
            by_cases hx : x = 47
            · subst hx
              have hy : ¬ y = 47 := fun e => hxy e.symm
              rw [if_neg hy] at h2
              by_cases hz : z = 47
              · rw [if_pos hz] at h2; cases h2
              · rw [if_neg (fun e => hz e.symm), if_pos rfl]
            · rw [if_neg hx] at h1
              by_cases hy : y = 47
              · rw [if_pos hy] at h1; cases h1
              · rw [if_neg hy] at h1 h2
                by_cases hz : z = 47
                · rw [if_pos hz] at h2; cases h2
                · rw [if_neg hz] at h2
                  have l1 : x < y := by
                    by_cases h : x < y
                    · exact h
                    · rw [if_neg h] at h1; cases h1
                  have l2 : y < z := by
                    by_cases h : y < z
                    · exact h
                    · rw [if_neg h] at h2; cases h2
                  have l3 : x < z := UInt8.lt_trans l1 l2
                  have hxz : ¬ x = z := fun e => by subst e; exact UInt8.lt_irrefl x l3
                  rw [if_neg hxz, if_neg hx, if_neg hz, if_pos l3]

/-- what PathOrders asks -/
theorem pcmp_le_trans {a b c : List UInt8} (h1 : pcmp a b ≤ 0) (h2 : pcmp b c ≤ 0) :
    pcmp a c ≤ 0 ∧ (pcmp a c = 0 → pcmp a b = 0 ∧ pcmp b c = 0) := by
  rcases pcmp_range a b with h | h | h
  · rcases pcmp_range b c with k | k | k
    · have := pcmp_lt_trans h k
      rw [this]
      exact ⟨by decide, fun e => absurd e (by decide)⟩
    · have := pcmp_zero k
      subst this
      rw [h]
      exact ⟨by decide, fun e => absurd e (by decide)⟩
    · omega
  · have := pcmp_zero h
    subst this
    exact ⟨h2, fun e => ⟨h, e⟩⟩
  · omega

/-- what stands between two lists that begin with a list begins with it, too -/
theorem ccmp_between : ∀ (d a b c : List (List UInt8)), a ≠ [] → ccmp (d ++ a) b ≤ 0 → ccmp b (d ++ c) ≤ 0 → ∃ e, e ≠ [] ∧ b = d ++ e
  | [], a, b, c, ha, h1, _ => by
    refine ⟨b, ?_, rfl⟩
    rintro rfl
    cases a with
    | nil => exact ha rfl
    | cons x a => simp [ccmp] at h1
  | x :: d, a, b, c, ha, h1, h2 => by
    cases b with
    | nil => simp [ccmp] at h1
    | cons y b =>
      simp only [List.cons_append, ccmp] at h1 h2
      have e1 : Lib.compareBytes x y ≤ 0 := by
        split at h1
        · omega
        · exact h1
      have e2 : Lib.compareBytes y x ≤ 0 := by
        split at h2
        · omega
        · exact h2
      have hxy : x = y := by
        have k1 := ccmp_single (x := x) (y := y)
        have k2 := ccmp_single (x := y) (y := x)
        by_cases hz : Lib.compareBytes x y = 0
        · exact compareBytes_eq hz
        · exfalso
          have t : ∀ u v : List UInt8, Lib.compareBytes u v = - Lib.compareBytes v u := by
            intro u
            induction u with
            | nil => intro v; cases v <;> simp [Lib.compareBytes]
            | cons p u ih =>
              intro v
              cases v with
              | nil => simp [Lib.compareBytes]
              | cons q v =>
                unfold Lib.compareBytes
                by_cases hpq : p < q
                · have : ¬ q < p := UInt8.lt_asymm hpq
                  simp [hpq, this]
                · by_cases hqp : q < p
                  · simp [hpq, hqp]
                  · simp [hpq, hqp]; exact ih v
          have := t x y
          omega
      subst hxy
      rw [compareBytes_self, if_pos rfl] at h1 h2
      obtain ⟨e, he, hb⟩ := ccmp_between d a b c ha h1 h2
      exact ⟨e, he, by rw [hb]; rfl⟩

end Go.Proofs.YteagecjhpfijjaaDoor.Pm

