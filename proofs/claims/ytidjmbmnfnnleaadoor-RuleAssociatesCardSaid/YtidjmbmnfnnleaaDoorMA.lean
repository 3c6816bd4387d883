/-
  Several texts in one: Pm, Pw1, Pw2, Pl, Pc1, Pc2, Pa, Pj, Ap, PathJoins.
-/
import Derived.Lib.SplitLaws
import Derived.Lib.Join
import Derived.Lib.Strings
import Derived.Lib.Small
import Derived.Lib.Bytealg
import Derived.Test.YtidjmbmnfnnleaaDoorProg
import Derived.Test.YtidjmbmnfnnleaaDoorShelf
import Derived.WalkKit
import Derived.WalkSpells
import Derived.WalkLawsBesides
import Derived.Deep.QuietTactic
import Derived.BigQuiet
import Derived.Outline
import Derived.Lib.Hide
import Derived.Below
import Derived.Deep.Draws
import Derived.SliceStrings
import Derived.OpenShut
import Derived.ProofKit
import Derived.Maps.AppendAt
import Derived.Deep.AppendLies
import Derived.RegionTactic
import Derived.OwnWalk

/-
  Plain facts on paths, no program in sight: components, splitting at the slash, the order of paths, and how the order of the bytes of two paths is the order of their components.
-/
namespace Go.Proofs.YtidjmbmnfnnleaaDoor.Pm
set_option linter.unusedSimpArgs false
set_option linter.unusedVariables false
open Go

/-- the bytes of components, by their numbers -/
def isBI (n : Int) : Bool := decide ((65 ≤ n ∧ n ≤ 90) ∨ (97 ≤ n ∧ n ≤ 122) ∨ (48 ≤ n ∧ n ≤ 57) ∨ n = 95 ∨ n = 46 ∨ n = 43 ∨ n = 45)
def isB (c : UInt8) : Bool := isBI (c.toNat : Int)

/-- a component -/
def comp : List UInt8 → Bool
  | [] => false
  | c :: r => !(c == 46) && (c :: r).all isB

/-- the pieces between the slashes -/
def sp : List UInt8 → List (List UInt8)
  | [] => [[]]
  | c :: l => if c = 47 then [] :: sp l else match sp l with
    | [] => [[c]]
    | x :: xs => (c :: x) :: xs

theorem sp_ne (l : List UInt8) : sp l ≠ [] := by
  cases l with
  | nil => simp [sp]
  | cons c l =>
    simp only [sp]
    split
    · simp
    · split <;> simp

theorem sp_slash (l : List UInt8) : sp (47 :: l) = [] :: sp l := by simp [sp]

theorem sp_cons (c : UInt8) (l : List UInt8) (h : c ≠ 47) : ∃ x xs, sp l = x :: xs ∧ sp (c :: l) = (c :: x) :: xs := by
  cases e : sp l with
  | nil => exact absurd e (sp_ne l)
  | cons x xs => exact ⟨x, xs, rfl, by simp [sp, h, e]⟩

/-- a piece without a slash, then a slash: the piece and the rest's pieces -/
theorem sp_piece : ∀ (a b : List UInt8), (47 : UInt8) ∉ a → sp (a ++ 47 :: b) = a :: sp b
  | [], b, _ => by simp [sp]
  | c :: a, b, h => by
    have hc : c ≠ 47 := fun e => h (by simp [e])
    have ih := sp_piece a b (fun e => h (by simp [e]))
    simp [sp, hc, ih]

theorem sp_last : ∀ (a : List UInt8), (47 : UInt8) ∉ a → sp a = [a]
  | [], _ => rfl
  | c :: a, h => by
    have hc : c ≠ 47 := fun e => h (by simp [e])
    have ih := sp_last a (fun e => h (by simp [e]))
    simp [sp, hc, ih]

/-- the library's split at a slash is this one -/
theorem split_eq (l : List UInt8) : Lib.split l [47] = sp l := by
  unfold Lib.split
  generalize hk : Lib.count l [47] = k
  induction k generalizing l with
  | zero =>
    have hc : l.count 47 = 0 := by rw [← Lib.count_one]; exact hk
    have : (47 : UInt8) ∉ l := fun h => by
      have := List.count_pos_iff.2 h
      omega
    rw [sp_last l this]
    rfl
  | succ k ih =>
    have hc : l.count 47 = k + 1 := by rw [← Lib.count_one]; exact hk
    have hmem : (47 : UInt8) ∈ l := List.count_pos_iff.1 (by omega)
    obtain ⟨a, b, rfl, hna⟩ : ∃ a b, l = a ++ 47 :: b ∧ (47 : UInt8) ∉ a := by
      clear hk hc ih
      induction l with
      | nil => cases hmem
      | cons c l ih2 =>
        by_cases e : c = 47
        · exact ⟨[], l, by simp [e], by simp⟩
        · have : (47 : UInt8) ∈ l := by
            rcases List.mem_cons.1 hmem with h | h
            · exact absurd h.symm e
            · exact h
          obtain ⟨a, b, rfl, hn⟩ := ih2 this
          exact ⟨c :: a, b, rfl, fun h => by
            rcases List.mem_cons.1 h with h | h
            · exact e h.symm
            · exact hn h⟩
    have hi : Lib.index (a ++ 47 :: b) [47] = (a.length : Int) := by
      rw [Lib.index_one]
      clear hk hc ih hmem
      induction a with
      | nil => simp [Lib.indexByte]
      | cons c a ih3 =>
        have hc : ¬ c = 47 := fun e => hna (by simp [e])
        have := ih3 (fun e => hna (by simp [e]))
        simp only [List.cons_append, Lib.indexByte, this]
        simp [hc]
    have hd : (a ++ 47 :: b).drop (a.length + 1) = b := by
      rw [← List.drop_drop]
      simp
    have hcb : Lib.count b [47] = k := by
      rw [Lib.count_one]
      have h0 : a.count 47 = 0 := List.count_eq_zero.2 hna
      rw [List.count_append, List.count_cons] at hc
      simp at hc
      omega
    have hm : ¬ ((a.length : Int) == -1) = true := by
      intro e
      have := beq_iff_eq.1 e
      omega
    rw [sp_piece a b hna, Lib.splitK, hi, if_neg hm]
    simp only [Int.toNat_natCast, List.length_cons, List.length_nil, Nat.zero_add, Nat.add_zero, hd, ih b hcb]
    simp

/-- a component holds no slash -/
theorem comp_no_slash {l : List UInt8} (h : comp l = true) : (47 : UInt8) ∉ l := by
  cases l with
  | nil => simp
  | cons c r =>
    simp only [comp, Bool.and_eq_true, List.all_eq_true] at h
    intro hm
    have := h.2 47 hm
    revert this
    decide

theorem sp_no_slash (l : List UInt8) : ∀ x ∈ sp l, (47 : UInt8) ∉ x := by
  induction l with
  | nil => simp [sp]
  | cons c l ih =>
    by_cases hc : c = 47
    · subst hc
      rw [sp_slash]
      intro x hx
      rcases List.mem_cons.1 hx with rfl | hx
      · simp
      · exact ih x hx
    · obtain ⟨x, xs, h1, h2⟩ := sp_cons c l hc
      rw [h2]
      rw [h1] at ih
      intro y hy
      rcases List.mem_cons.1 hy with rfl | hy
      · intro hm
        rcases List.mem_cons.1 hm with e | hm
        · exact hc e.symm
        · exact ih x (by simp) hm
      · exact ih y (by simp [hy])

/-- splitting and joining again -/
theorem join_sp (l : List UInt8) : Lib.join (sp l) [47] = l := by
  induction l with
  | nil => rfl
  | cons c l ih =>
    by_cases hc : c = 47
    · subst hc
      rw [sp_slash, Lib.join_cons]
      cases e : sp l with
      | nil => exact absurd e (sp_ne l)
      | cons x xs =>
        rw [e, Lib.join_cons] at ih
        simp only [Lib.joinTail, List.map_cons, List.flatten_cons] at ih ⊢
        simpa using ih
    · obtain ⟨x, xs, h1, h2⟩ := sp_cons c l hc
      rw [h1, Lib.join_cons] at ih
      rw [h2, Lib.join_cons, List.cons_append, ih]

/-- joining and splitting again -/
theorem sp_join : ∀ (xs : List (List UInt8)), xs ≠ [] → (∀ x ∈ xs, (47 : UInt8) ∉ x) → sp (Lib.join xs [47]) = xs
  | [], h, _ => absurd rfl h
  | [x], _, hx => by rw [Lib.join_one, sp_last x (hx x (by simp))]
  | x :: y :: r, _, hx => by
    have ih := sp_join (y :: r) (by simp) (fun z hz => hx z (by simp [hz]))
    rw [Lib.join_cons]
    rw [Lib.join_cons] at ih
    have e : Lib.joinTail [47] (y :: r) = 47 :: (y ++ Lib.joinTail [47] r) := by simp [Lib.joinTail]
    rw [e, sp_piece x _ (hx x (by simp)), ih]

/-- the texts of directories and paths -/
def dirOk (l : List UInt8) : Bool := Lib.hasPrefix l [47, 47] && (sp (l.drop 2)).all comp
def pathOk (l : List UInt8) : Bool := dirOk l && decide (2 ≤ (sp (l.drop 2)).length)

/-- the order of paths, by their bytes -/
def pcmp : List UInt8 → List UInt8 → Int
  | [], [] => 0
  | [], _ :: _ => -1
  | _ :: _, [] => 1
  | x :: a, y :: b => if x = y then pcmp a b else if x = 47 then -1 else if y = 47 then 1 else if x < y then -1 else 1

/-- the order of lists of components -/
def ccmp : List (List UInt8) → List (List UInt8) → Int
  | [], [] => 0
  | [], _ :: _ => -1
  | _ :: _, [] => 1
  | x :: a, y :: b => if Lib.compareBytes x y = 0 then ccmp a b else Lib.compareBytes x y

theorem compareBytes_self (l : List UInt8) : Lib.compareBytes l l = 0 := by
  induction l with
  | nil => rfl
  | cons c l ih => simp [Lib.compareBytes, ih, UInt8.lt_irrefl]

theorem compareBytes_eq {a b : List UInt8} (h : Lib.compareBytes a b = 0) : a = b := by
  induction a generalizing b with
  | nil => cases b <;> simp [Lib.compareBytes] at h ⊢
  | cons x a ih =>
    cases b with
    | nil => simp [Lib.compareBytes] at h
    | cons y b =>
      unfold Lib.compareBytes at h
      split at h
      · cases h
      · split at h
        · cases h
        · rename_i h1 h2
          have : x = y := UInt8.le_antisymm (UInt8.not_lt.1 h2) (UInt8.not_lt.1 h1)
          rw [this, ih h]

theorem ccmp_single {x y : List UInt8} : ccmp [x] [y] = Lib.compareBytes x y := by
  simp only [ccmp]
  split
  · rename_i h; exact h.symm
  · rfl

/-- the order of the bytes is the order of the components -/
theorem pcmp_eq : ∀ (a b : List UInt8), pcmp a b = ccmp (sp a) (sp b)
  | [], [] => by simp [pcmp, sp, ccmp, Lib.compareBytes]
  | [], y :: b => by
    by_cases hy : y = 47
    · subst hy
      rw [sp_slash]
      cases e : sp b with
      | nil => exact absurd e (sp_ne b)
      | cons u us => simp [pcmp, sp, ccmp, Lib.compareBytes]
    · obtain ⟨u, us, _, h2⟩ := sp_cons y b hy
      rw [h2]
      simp [pcmp, sp, ccmp, Lib.compareBytes]
  | x :: a, [] => by
    by_cases hx : x = 47
    · subst hx
      rw [sp_slash]
      cases e : sp a with
      | nil => exact absurd e (sp_ne a)
      | cons u us => simp [pcmp, sp, ccmp, Lib.compareBytes]
    · obtain ⟨u, us, _, h2⟩ := sp_cons x a hx
      rw [h2]
      simp [pcmp, sp, ccmp, Lib.compareBytes]
  | x :: a, y :: b => by
    have ih := pcmp_eq a b
    by_cases hxy : x = y
    · subst hxy
      by_cases hx : x = 47
      · subst hx
        rw [sp_slash, sp_slash]
        simp [pcmp, ccmp, ih, Lib.compareBytes]
      · obtain ⟨u, us, h1, h2⟩ := sp_cons x a hx
        obtain ⟨v, vs, h3, h4⟩ := sp_cons x b hx
        rw [h2, h4]
        rw [h1, h3] at ih
        simp only [pcmp, if_true, ccmp] at ih ⊢
        simp only [Lib.compareBytes, UInt8.lt_irrefl, if_false]
        exact ih
    · by_cases hx : x = 47
      · subst hx
        have hy : y ≠ 47 := fun e => hxy e.symm
        obtain ⟨v, vs, _, h4⟩ := sp_cons y b hy
        rw [sp_slash, h4]
        simp [pcmp, hxy, ccmp, Lib.compareBytes]
      · obtain ⟨u, us, _, h2⟩ := sp_cons x a hx
        rw [h2]
        by_cases hy : y = 47
        · subst hy
          rw [sp_slash]
          simp [pcmp, hxy, hx, ccmp, Lib.compareBytes]
        · obtain ⟨v, vs, _, h4⟩ := sp_cons y b hy
          rw [h4]
          by_cases hlt : x < y
          · simp [pcmp, hxy, hx, hy, hlt, ccmp, Lib.compareBytes]
          · have hgt : y < x := UInt8.lt_of_le_of_ne (UInt8.not_lt.1 hlt) (Ne.symm hxy)
            simp [pcmp, hxy, hx, hy, hlt, hgt, ccmp, Lib.compareBytes]

/-- the order is one: three values, turned round, equal texts alone, it goes on -/
theorem pcmp_range (a b : List UInt8) : pcmp a b = -1 ∨ pcmp a b = 0 ∨ pcmp a b = 1 := by
  induction a generalizing b with
  | nil => cases b <;> simp [pcmp]
  | cons x a ih =>
    cases b with
    | nil => simp [pcmp]
    | cons y b =>
      unfold pcmp
      repeat' split
      all_goals first | exact ih b | simp

theorem pcmp_turn (a b : List UInt8) : pcmp a b = - pcmp b a := by
  induction a generalizing b with
  | nil => cases b <;> simp [pcmp]
  | cons x a ih =>
    cases b with
    | nil => simp [pcmp]
    | cons y b =>
      by_cases hxy : x = y
      · subst hxy
        simp only [pcmp, if_true]
        exact ih b
      · have hyx : ¬ y = x := fun e => hxy e.symm
        unfold pcmp
        rw [if_neg hxy, if_neg hyx]
        by_cases hx : x = 47
        · have hy : ¬ y = 47 := fun e => hxy (hx.trans e.symm)
          rw [if_pos hx, if_neg hy, if_pos hx]
        · rw [if_neg hx]
          by_cases hy : y = 47
          · rw [if_pos hy, if_pos hy]; rfl
          · rw [if_neg hy, if_neg hy, if_neg hx]
            by_cases hlt : x < y
            · have : ¬ y < x := fun h => absurd hlt (UInt8.lt_asymm h)
              rw [if_pos hlt, if_neg this]
            · have hgt : y < x := UInt8.lt_of_le_of_ne (UInt8.not_lt.1 hlt) (Ne.symm hxy)
              rw [if_neg hlt, if_pos hgt]; rfl

theorem pcmp_self (a : List UInt8) : pcmp a a = 0 := by
  induction a with
  | nil => rfl
  | cons x a ih => simp [pcmp, ih]

theorem pcmp_zero {a b : List UInt8} (h : pcmp a b = 0) : a = b := by
  induction a generalizing b with
  | nil => cases b <;> simp [pcmp] at h ⊢
  | cons x a ih =>
    cases b with
    | nil => simp [pcmp] at h
    | cons y b =>
      unfold pcmp at h
      split at h
      · rename_i e
        rw [e, ih h]
      · exfalso
        revert h
        repeat' split
        all_goals decide

theorem pcmp_lt_trans {a b c : List UInt8} (h1 : pcmp a b = -1) (h2 : pcmp b c = -1) : pcmp a c = -1 := by
  induction a generalizing b c with
  | nil =>
    cases c with
    | nil =>
      cases b with
      | nil => exact h1
      | cons y b => simp [pcmp] at h2
    | cons z c => rfl
  | cons x a ih =>
    cases b with
    | nil => simp [pcmp] at h1
    | cons y b =>
      cases c with
      | nil => simp [pcmp] at h2
      | cons z c =>
        unfold pcmp at h1 h2 ⊢
        by_cases hxy : x = y
        · subst hxy
          rw [if_pos rfl] at h1
          by_cases hxz : x = z
          · subst hxz
            rw [if_pos rfl] at h2 ⊢
            exact ih h1 h2
          · rw [if_neg hxz] at h2 ⊢
            exact h2
        · rw [if_neg hxy] at h1
          by_cases hyz : y = z
          · subst hyz
            rw [if_neg hxy]
            exact h1
          · rw [if_neg hyz] at h2
            by_cases hx : x = 47
            · subst hx
              have hy : ¬ y = 47 := fun e => hxy e.symm
              rw [if_neg hy] at h2
              by_cases hz : z = 47
              · rw [if_pos hz] at h2; cases h2
              · rw [if_neg (fun e => hz e.symm), if_pos rfl]
            · rw [if_neg hx] at h1
              by_cases hy : y = 47
              · rw [if_pos hy] at h1; cases h1
              · rw [if_neg hy] at h1 h2
                by_cases hz : z = 47
                · rw [if_pos hz] at h2; cases h2
                · rw [if_neg hz] at h2
                  have l1 : x < y := by
                    by_cases h : x < y
                    · exact h
                    · rw [if_neg h] at h1; cases h1
                  have l2 : y < z := by
                    by_cases h : y < z
                    · exact h
                    · rw [if_neg h] at h2; cases h2
                  have l3 : x < z := UInt8.lt_trans l1 l2
                  have hxz : ¬ x = z := fun e => by subst e; exact UInt8.lt_irrefl x l3
                  rw [if_neg hxz, if_neg hx, if_neg hz, if_pos l3]

/-- what PathOrders asks -/
theorem pcmp_le_trans {a b c : List UInt8} (h1 : pcmp a b ≤ 0) (h2 : pcmp b c ≤ 0) :
    pcmp a c ≤ 0 ∧ (pcmp a c = 0 → pcmp a b = 0 ∧ pcmp b c = 0) := by
  rcases pcmp_range a b with h | h | h
  · rcases pcmp_range b c with k | k | k
    · have := pcmp_lt_trans h k
      rw [this]
      exact ⟨by decide, fun e => absurd e (by decide)⟩
    · have := pcmp_zero k
      subst this
      rw [h]
      exact ⟨by decide, fun e => absurd e (by decide)⟩
    · omega
  · have := pcmp_zero h
    subst this
    exact ⟨h2, fun e => ⟨h, e⟩⟩
  · omega

/-- what stands between two lists that begin with a list begins with it, too -/
theorem ccmp_between : ∀ (d a b c : List (List UInt8)), a ≠ [] → ccmp (d ++ a) b ≤ 0 → ccmp b (d ++ c) ≤ 0 → ∃ e, e ≠ [] ∧ b = d ++ e
  | [], a, b, c, ha, h1, _ => by
    refine ⟨b, ?_, rfl⟩
    rintro rfl
    cases a with
    | nil => exact ha rfl
    | cons x a => simp [ccmp] at h1
  | x :: d, a, b, c, ha, h1, h2 => by
    cases b with
    | nil => simp [ccmp] at h1
    | cons y b =>
      simp only [List.cons_append, ccmp] at h1 h2
      have e1 : Lib.compareBytes x y ≤ 0 := by
        split at h1
        · omega
        · exact h1
      have e2 : Lib.compareBytes y x ≤ 0 := by
        split at h2
        · omega
        · exact h2
      have hxy : x = y := by
        have k1 := ccmp_single (x := x) (y := y)
        have k2 := ccmp_single (x := y) (y := x)
        by_cases hz : Lib.compareBytes x y = 0
        · exact compareBytes_eq hz
        · exfalso
          have t : ∀ u v : List UInt8, Lib.compareBytes u v = - Lib.compareBytes v u := by
            intro u
            induction u with
            | nil => intro v; cases v <;> simp [Lib.compareBytes]
            | cons p u ih =>
              intro v
              cases v with
              | nil => simp [Lib.compareBytes]
              | cons q v =>
                unfold Lib.compareBytes
                by_cases hpq : p < q
                · have : ¬ q < p := UInt8.lt_asymm hpq
                  simp [hpq, this]
                · by_cases hqp : q < p
                  · simp [hpq, hqp]
                  · simp [hpq, hqp]; exact ih v
          have := t x y
          omega
      subst hxy
      rw [compareBytes_self, if_pos rfl] at h1 h2
      obtain ⟨e, he, hb⟩ := ccmp_between d a b c ha h1 h2
      exact ⟨e, he, by rw [hb]; rfl⟩

end Go.Proofs.YtidjmbmnfnnleaaDoor.Pm

/-
  The walks of IsByte, Component and Valid: what they return; the world is as it was.
-/
namespace Go.Proofs.YtidjmbmnfnnleaaDoor
set_option linter.unusedSimpArgs false
set_option linter.unusedVariables false
open Go.RowKit
open Pm

theorem ret_bool {a b : Bool} (h : a = b) : Ending.returned (.bool a) = .returned (.bool b) := by rw [h]
theorem ret_int {k : IntKind} {a b : Int} (h : a = b) : Ending.returned (.int k a) = .returned (.int k b) := by rw [h]

theorem isByte_any (n : Int) (w : World) :
    Calls Tryd.prog 85 #[.int .u8 n] w fun e w' => e = .returned (.bool (isBI n)) ∧ w = w' := by
  go_enter Tryd.func85, Tryd.ntmps85
  go_wp2
  all_goals go_ret
  all_goals refine ⟨ret_bool ?_, rfl⟩
  all_goals (rw [Bool.eq_iff_iff]; simp [isBI]; try omega)

theorem comp_step (s : ByteArray) (k : Nat) (h : k < s.size) :
    (s.data.toList.take (k + 1)).all isB = ((s.data.toList.take k).all isB && isBI (s[k].toNat : Int)) := by
  rw [List.take_succ_eq_append_getElem (by simpa using h), List.all_append]
  simp [isB]
  rfl
theorem comp_ne {s : ByteArray} (h0 : 0 < s.size) (h : ¬ (s[0].toNat : Int) = 46) : comp s.data.toList = (s.data.toList).all isB := by
  have e : s.data.toList = s[0] :: s.data.toList.tail := by
    obtain ⟨⟨l⟩⟩ := s
    cases l with
    | nil => exact absurd h0 (Nat.lt_irrefl 0)
    | cons c l => rfl
  rw [e]
  have : (s[0] == 46) = false := by
    rw [beq_eq_false_iff_ne]
    intro e
    rw [e] at h
    exact h rfl
  simp [comp, this]
theorem comp_dot {s : ByteArray} (h0 : 0 < s.size) (h : (s[0].toNat : Int) = 46) : comp s.data.toList = false := by
  have e : s.data.toList = s[0] :: s.data.toList.tail := by
    obtain ⟨⟨l⟩⟩ := s
    cases l with
    | nil => exact absurd h0 (Nat.lt_irrefl 0)
    | cons c l => rfl
  rw [e]
  have : s[0] = 46 := UInt8.toNat_inj.1 (by simpa using (by omega : s[0].toNat = 46))
  simp [comp, this]

theorem bytes_nil {s : ByteArray} (h0 : s.size = 0) : s.data.toList = [] := by
  rw [Lib.size_eq] at h0
  exact List.eq_nil_of_length_eq_zero h0
theorem bytes_ne {s : ByteArray} (h0 : 0 < s.size) : s.toList.isEmpty = false := by
  rw [Lib.toList_data]
  rw [Lib.size_eq] at h0
  cases h : s.data.toList with
  | nil => rw [h] at h0; exact absurd h0 (Nat.lt_irrefl 0)
  | cons c l => rfl

set_option maxHeartbeats 400000 in
theorem component_any (s : ByteArray) (w : World) (hs : s.size ≤ 9223372036854775807) :
    Calls Tryd.prog 79 #[.string s] w fun e w' => e = .returned (.bool (comp s.data.toList)) ∧ w = w' := by
  by_cases h0 : s.size = 0
  · have hl := bytes_nil h0
    have he : s.toList = [] := by rw [Lib.toList_data, hl]
    go_enter Tryd.func79, Tryd.ntmps79
    go_wp2_with fail
    go_ret
    rw [hl]
    exact ⟨rfl, rfl⟩
  have hpos : 0 < s.size := by omega
  have hne := bytes_ne hpos
  clear h0
  by_cases hd : (s[0].toNat : Int) = 46
  · have HC := Lib.hid (comp_dot hpos hd)
    go_enter Tryd.func79, Tryd.ntmps79
    go_wp2_with fail
    go_ret
    exact ⟨ret_bool HC.out.symm, rfl⟩
  · have HC := Lib.hid (comp_ne hpos hd)
    have hdb : ((s[0].toNat : Int) == 46) = false := by rw [beq_eq_false_iff_ne]; exact hd
    clear hd
    go_enter Tryd.func79, Tryd.ntmps79
    go_wp2_with fail
    go_loop [13] (fun i => ∃ k : Nat, k ≤ s.size ∧ i = .int .i64 k ∧ Hid ((s.data.toList.take k).all isB = true)) (fun i => s.size - (intOf i).toNat)
    case atStart => exact ⟨0, Nat.zero_le _, rfl, Lib.hid (by simp)⟩
    case round =>
      obtain ⟨k, hk, rfl, HA⟩ := hrel
      by_cases hlt : k < s.size
      · have HS := Lib.hid (comp_step s k hlt)
        by_cases hb : isBI (s[k].toNat : Int) = true
        · go_wp2_with (go_at_call 85; refine (isByte_any _ _).mono ?_; rintro e w' ⟨rfl, rfl⟩)
          go_round
          case rel => exact ⟨k + 1, by omega, by go_num, Lib.hid (by rw [HS.out, HA.out, hb]; rfl)⟩
          case measure => simp [intOf]; omega
        · have hb' : isBI (s[k].toNat : Int) = false := by simpa using hb
          clear hb
          go_wp2_with (go_at_call 85; refine (isByte_any _ _).mono ?_; rintro e w' ⟨rfl, rfl⟩)
          go_ret
          refine ⟨ret_bool ?_, rfl⟩
          rw [HC.out]
          symm
          rw [Bool.eq_false_iff]
          intro h
          rw [List.all_eq_true] at h
          have := h s[k] (List.mem_of_getElem? (Lib.data_getElem? s k hlt))
          rw [isB, hb'] at this
          cases this
      · go_wp2_with fail
        go_ret
        refine ⟨ret_bool ?_, rfl⟩
        rw [HC.out, ← HA.out, List.take_of_length_le (by rw [← Lib.size_eq]; omega)]

/-- what the loop of Valid knows: so many components are read, the next one begins at b, and up to i it has no slash -/
def VI (l : List UInt8) (c b i : Nat) : Prop :=
  ∃ done : List (List UInt8), done.length = c ∧ done.all comp = true ∧
    ((i ≤ l.length ∧ b ≤ i ∧ (47 : UInt8) ∉ (l.drop b).take (i - b) ∧ sp (l.drop 2) = done ++ sp (l.drop b)) ∨ (i = l.length + 1 ∧ sp (l.drop 2) = done))

theorem prefix_len {l : List UInt8} (h : Lib.hasPrefix l [47, 47] = true) : 2 ≤ l.length := by
  unfold Lib.hasPrefix at h
  have := (List.isPrefixOf_iff_prefix.1 h).length_le
  simpa using this
theorem vi_start {l : List UInt8} (h : Lib.hasPrefix l [47, 47] = true) : VI l 0 2 2 :=
  ⟨[], rfl, rfl, .inl ⟨prefix_len h, Nat.le_refl _, by simp, by simp⟩⟩
theorem vi_next {l : List UInt8} {c b i : Nat} {x : UInt8} (h : VI l c b i) (hi : i < l.length) (hx : l[i]? = some x) (hne : x ≠ 47) : VI l c b (i + 1) := by
  obtain ⟨done, h1, h2, h3⟩ := h
  refine ⟨done, h1, h2, ?_⟩
  rcases h3 with ⟨h4, h5, h6, h7⟩ | ⟨h4, _⟩
  · refine .inl ⟨by omega, by omega, ?_, h7⟩
    rw [show i + 1 - b = (i - b) + 1 by omega, List.take_add_one]
    intro hm
    rcases List.mem_append.1 hm with hm | hm
    · exact h6 hm
    · rw [List.getElem?_drop, show b + (i - b) = i by omega, hx] at hm
      simp at hm
      exact hne hm.symm
  · omega
theorem vi_cut {l : List UInt8} {b i : Nat} (hb : b ≤ i) (hi : i ≤ l.length) (h6 : (47 : UInt8) ∉ (l.drop b).take (i - b)) (hs : i < l.length → l[i]? = some 47) :
    sp (l.drop b) = ((l.drop b).take (i - b)) :: (if i < l.length then sp (l.drop (i + 1)) else []) := by
  by_cases hlt : i < l.length
  · have e : l.drop b = (l.drop b).take (i - b) ++ 47 :: l.drop (i + 1) := by
      have h1 : l.drop i = 47 :: l.drop (i + 1) := by
        rw [List.drop_eq_getElem_cons hlt]
        congr 1
        have := hs hlt
        rw [List.getElem?_eq_getElem hlt] at this
        exact Option.some.inj this
      rw [← h1]
      conv => lhs; rw [← List.take_append_drop (i - b) (l.drop b)]
      rw [List.drop_drop, show b + (i - b) = i by omega]
    rw [if_pos hlt]
    conv => lhs; rw [e]
    exact sp_piece _ _ h6
  · have e : (l.drop b).take (i - b) = l.drop b := List.take_of_length_le (by rw [List.length_drop]; omega)
    rw [if_neg hlt, e]
    rw [e] at h6
    exact sp_last _ h6
theorem vi_piece {l : List UInt8} {c b i : Nat} (h : VI l c b i) (hi : i ≤ l.length) (hs : i < l.length → l[i]? = some 47) (hc : comp ((l.drop b).take (i - b)) = true) : VI l (c + 1) (i + 1) (i + 1) := by
  obtain ⟨done, h1, h2, h3⟩ := h
  rcases h3 with ⟨h4, h5, h6, h7⟩ | ⟨h4, _⟩
  · refine ⟨done ++ [(l.drop b).take (i - b)], by simp [h1], by simp [h2, hc], ?_⟩
    rw [vi_cut h5 hi h6 hs] at h7
    by_cases hlt : i < l.length
    · rw [if_pos hlt] at h7
      exact .inl ⟨by omega, Nat.le_refl _, by simp, by rw [h7]; simp⟩
    · rw [if_neg hlt] at h7
      exact .inr ⟨by omega, h7⟩
  · omega
theorem vi_bad {l : List UInt8} {c b i : Nat} (h : VI l c b i) (hi : i ≤ l.length) (hs : i < l.length → l[i]? = some 47) (hc : comp ((l.drop b).take (i - b)) = false) : pathOk l = false := by
  obtain ⟨done, h1, h2, h3⟩ := h
  rcases h3 with ⟨h4, h5, h6, h7⟩ | ⟨h4, _⟩
  · rw [vi_cut h5 hi h6 hs] at h7
    simp [pathOk, dirOk, h7, hc]
  · omega
theorem vi_end {l : List UInt8} {c b i : Nat} (h : VI l c b i) (hp : Lib.hasPrefix l [47, 47] = true) (hi : ¬ i ≤ l.length) : pathOk l = decide (2 ≤ c) := by
  obtain ⟨done, h1, h2, h3⟩ := h
  rcases h3 with ⟨h4, h5, h6, h7⟩ | ⟨h4, h7⟩
  · omega
  · simp [pathOk, dirOk, h7, hp, h1]
    intro _ x hx
    exact List.all_eq_true.1 h2 x hx
theorem not_prefix {l : List UInt8} (h : Lib.hasPrefix l [47, 47] = false) : pathOk l = false := by simp [pathOk, dirOk, h]

theorem hasPrefix_any (s p : ByteArray) (w : World) :
    Calls Tryd.prog 74 #[.string s, .string p] w fun e w' => e = .returned (.bool (Lib.hasPrefix s.data.toList p.data.toList)) ∧ w = w' :=
  (Tryd.strings_HasPrefix s p w).mono fun _ _ ⟨he, hw⟩ => ⟨he, hw.symm⟩

theorem piece_eq (s : ByteArray) (b i : Nat) : (s.extract b i).data.toList = (s.data.toList.drop b).take (i - b) := Lib.extract_data s b i
theorem piece_size (s : ByteArray) (b i : Nat) : (s.extract b i).size ≤ s.size := by
  rw [Lib.size_eq, Lib.size_eq, piece_eq, List.length_take, List.length_drop]; omega
theorem at_slash {s : ByteArray} {i : Nat} (h : i < s.size) (e : ((s[i].toNat : Int) != 47) = false) : s.data.toList[i]? = some 47 := by
  rw [Lib.data_getElem? s i h]
  have : s[i].toNat = 47 := by
    have e2 : (s[i].toNat : Int) = 47 := by simpa using e
    omega
  congr 1
  exact UInt8.toNat_inj.1 this
theorem at_slash_back {s : ByteArray} {i : Nat} (h : i < s.size) (e : s.data.toList[i]? = some 47) : ((s[i].toNat : Int) != 47) = false := by
  rw [Lib.data_getElem? s i h] at e
  rw [Option.some.inj e]
  decide
theorem not_slash {s : ByteArray} {i : Nat} (h : i < s.size) (e : ((s[i].toNat : Int) != 47) = true) : s[i] ≠ 47 := by
  intro e2
  rw [e2] at e
  exact absurd e (by decide)

end Go.Proofs.YtidjmbmnfnnleaaDoor

/-
  The walks of cmp.Compare at bytes and of Compare on paths; long.
-/
namespace Go.Proofs.YtidjmbmnfnnleaaDoor
set_option linter.unusedSimpArgs false
set_option linter.unusedVariables false
open Go.RowKit
open Pm

/-- the bytes from k on, where the first k are equal -/
theorem pc_drop (a b : List UInt8) (k : Nat) (x y : UInt8) (ha : a[k]? = some x) (hb : b[k]? = some y) (h : pcmp a b = pcmp (a.drop k) (b.drop k)) :
    (x = y → pcmp a b = pcmp (a.drop (k + 1)) (b.drop (k + 1))) ∧
    (x ≠ y → pcmp a b = if x = 47 then -1 else if y = 47 then 1 else if x < y then -1 else 1) := by
  obtain ⟨ha1, rfl⟩ := List.getElem?_eq_some_iff.1 ha
  obtain ⟨hb1, rfl⟩ := List.getElem?_eq_some_iff.1 hb
  rw [List.drop_eq_getElem_cons ha1, List.drop_eq_getElem_cons hb1] at h
  constructor
  · intro e
    rw [h, pcmp, if_pos e]
  · intro e
    rw [h, pcmp, if_neg e]
theorem pc_end (a b : List UInt8) (k : Nat) (h : pcmp a b = pcmp (a.drop k) (b.drop k)) (hk : k = a.length ∨ k = b.length) (hka : k ≤ a.length) (hkb : k ≤ b.length) :
    pcmp a b = Lib.compareInt (a.length : Int) (b.length : Int) := by
  rw [h]
  unfold Lib.compareInt
  by_cases ea : k = a.length
  · have : a.drop k = [] := List.drop_of_length_le (by omega)
    rw [this]
    by_cases eb : k = b.length
    · have : b.drop k = [] := List.drop_of_length_le (by omega)
      rw [this, if_neg (by omega), if_neg (by omega)]
      rfl
    · rw [List.drop_eq_getElem_cons (show k < b.length by omega), if_pos (by omega)]
      rfl
  · have eb : k = b.length := by omega
    have : b.drop k = [] := List.drop_of_length_le (by omega)
    rw [this, List.drop_eq_getElem_cons (show k < a.length by omega), if_neg (by omega), if_pos (by omega)]
    rfl

theorem byte_eqB {x y : UInt8} (h : x = y) : ((x.toNat : Int) == (y.toNat : Int)) = true := by rw [h]; simp
theorem byte_neB {x y : UInt8} (h : x ≠ y) : ((x.toNat : Int) == (y.toNat : Int)) = false := by
  rw [beq_eq_false_iff_ne]
  intro e
  exact h (UInt8.toNat_inj.1 (by omega))
theorem byte_47 {x : UInt8} (h : x = 47) : ((x.toNat : Int) == 47) = true := by rw [h]; rfl
theorem byte_n47 {x : UInt8} (h : x ≠ 47) : ((x.toNat : Int) == 47) = false := by
  rw [beq_eq_false_iff_ne]
  intro e
  exact h (UInt8.toNat_inj.1 (by show x.toNat = 47; omega))

theorem byte_cmp {x y : UInt8} (h : x ≠ y) : (if x < y then -1 else 1 : Int) = Lib.compareInt (x.toNat : Int) (y.toNat : Int) := by
  unfold Lib.compareInt
  have hne : ¬ x.toNat = y.toNat := fun e => h (UInt8.toNat_inj.1 e)
  by_cases hlt : x < y
  · have := UInt8.lt_iff_toNat_lt.1 hlt
    rw [if_pos hlt, if_pos (by omega)]
  · have : ¬ x.toNat < y.toNat := fun e => hlt (UInt8.lt_iff_toNat_lt.2 e)
    rw [if_neg hlt, if_neg (by omega), if_pos (by omega)]

theorem ret_ii {k l : IntKind} {a b c d : Int} (h : a = c) (h2 : b = d) : Ending.returned (.tuple #[.int k a, .int l b]) = .returned (.tuple #[.int k c, .int l d]) := by rw [h, h2]
theorem below_drewN {B : Nat} {a w : World} (h : Below B a w) (n : Nat) : Below B a (w.drewN n) := ⟨h.os, h.tape, h.output, h.size, h.block⟩
theorem quiet_left {P : Program} {f : FuncId} {args : Array Value} {w : World} {n : Nat} {v : Value}
    (h : Calls P f args (w.drewN n) fun e w' => e = .returned v ∧ w.drewN n = w') : Calls P f args (w.drewN n) fun e w'' => e = .returned v ∧ ∃ m, w'' = w.drewN m :=
  h.mono fun _ _ ⟨he, hm⟩ => ⟨he, n, hm.symm⟩
theorem quiet_add_left {P : Program} {f : FuncId} {args : Array Value} {w : World} {a n : Nat} {v : Value}
    (h : Calls P f args (w.drewN (a + n)) fun e w' => e = .returned v ∧ w.drewN (a + n) = w') :
    Calls P f args (w.drewN (a + n)) fun e w'' => e = .returned v ∧ ∃ m, w'' = w.drewN (a + m) :=
  h.mono fun _ _ ⟨he, hm⟩ => ⟨he, n, hm.symm⟩

end Go.Proofs.YtidjmbmnfnnleaaDoor

/-
  Words for slices of texts, and the library's contracts in those words.
-/
namespace Go.Proofs.YtidjmbmnfnnleaaDoor
set_option linter.unusedSimpArgs false
set_option linter.unusedVariables false
open Go.RowKit Go.ChangeShapes Go.WideShapes
open Pm

def mkB (l : List UInt8) : ByteArray := ⟨l.toArray⟩
theorem mkB_data (l : List UInt8) : (mkB l).data.toList = l := by simp [mkB]
theorem mkB_size (l : List UInt8) : (mkB l).size = l.length := by rw [Lib.size_eq, mkB_data]
theorem mkB_back (s : ByteArray) : mkB s.data.toList = s := Lib.mk_data s

/-- A slice of texts that lies in the world: address A, capacity c, the texts xs. -/
def RT (w : World) (A : Option Addr) (c : Nat) (xs : List ByteArray) : Prop :=
  xs.length ≤ c ∧ c ≤ 9223372036854775807 ∧ (0 < xs.length → ∃ b o, A = some ⟨b, o, none⟩ ∧ b < w.heap.size ∧ ∀ j x, xs[j]? = some x → w.cell? ⟨b, o + j, none⟩ = some (.string x))

theorem RT.nil (w : World) (A : Option Addr) (c : Nat) (h : c ≤ 9223372036854775807) : RT w A c [] := ⟨Nat.zero_le _, h, fun h => absurd h (Nat.lt_irrefl 0)⟩
theorem RT.below {w w' : World} {A : Option Addr} {c : Nat} {xs : List ByteArray} (h : RT w A c xs) (hb : Below w.heap.size w w') : RT w' A c xs :=
  ⟨h.1, h.2.1, fun h0 => by
    obtain ⟨b, o, e, hlt, hc⟩ := h.2.2 h0
    exact ⟨b, o, e, Nat.lt_of_lt_of_le hlt hb.size, fun j x hx => (hb.cell (p := ⟨b, o + j, none⟩) hlt).trans (hc j x hx)⟩⟩
theorem RT.take {w : World} {A : Option Addr} {c : Nat} {xs : List ByteArray} (h : RT w A c xs) (m : Nat) : RT w A c (xs.take m) :=
  ⟨by rw [List.length_take]; have := h.1; omega, h.2.1, fun h0 => by
    rw [List.length_take] at h0
    obtain ⟨b, o, e, hlt, hc⟩ := h.2.2 (by omega)
    refine ⟨b, o, e, hlt, fun j x hx => hc j x ?_⟩
    rw [List.getElem?_take] at hx
    split at hx
    · exact hx
    · cases hx⟩

/-- the library's variable MaxLen holds some number -/
def ML (w : World) : Prop := ∃ m, w.cell? ⟨0, 0, none⟩ = some (.int .i64 m)
theorem cell_lt {w : World} {p : Addr} {v : Value} (h : w.cell? p = some v) : p.block < w.heap.size := by
  rcases Nat.lt_or_ge p.block w.heap.size with h1 | h1
  · exact h1
  · exfalso
    have : w.heap[p.block]? = none := Array.getElem?_eq_none h1
    simp [World.cell?, this] at h
theorem ML.below {w w' : World} (h : ML w) (hb : Below w.heap.size w w') : ML w' := by
  obtain ⟨m, hm⟩ := h
  exact ⟨m, (hb.cell (p := ⟨0, 0, none⟩) (cell_lt hm)).trans hm⟩
theorem ML.of {w : World} (h : w.ShapedOpen Tryd.prog) : ML w := Tryd.laysM146.s1_3 w h

theorem cutPrefix_any (s p : ByteArray) (w : World) :
    Calls Tryd.prog 90 #[.string s, .string p] w fun e w' => e = .returned (.tuple #[.string (mkB (Lib.trimPrefix s.data.toList p.data.toList)), .bool (Lib.hasPrefix s.data.toList p.data.toList)]) ∧ w = w' :=
  (Tryd.strings_CutPrefix s p w).mono fun _ _ ⟨he, hw⟩ => ⟨he, hw.symm⟩
theorem indexByte_any (s : ByteArray) (c : Int) (w : World) :
    Calls Tryd.prog 75 #[.string s, .int .u8 c] w fun e w' => e = .returned (.int .i64 (Lib.indexByte s.data.toList c.toNat.toUInt8)) ∧ w = w' :=
  (Tryd.strings_IndexByte s c w).mono fun _ _ ⟨he, hw⟩ => ⟨he, hw.symm⟩
/-- the pieces between the slashes, as texts -/
def spB (l : List UInt8) : List ByteArray := (sp l).map mkB
theorem spB_pos (l : List UInt8) : 0 < (spB l).length := by
  unfold spB
  rw [List.length_map]
  exact List.length_pos_iff.2 (sp_ne l)
theorem bytes_inj {a b : List ByteArray} (h : a.map (·.data.toList) = b.map (·.data.toList)) : a = b := by
  have e : ∀ l : List ByteArray, (l.map (·.data.toList)).map mkB = l := fun l => by
    rw [List.map_map]
    conv => rhs; rw [← List.map_id l]
    exact List.map_congr_left fun x _ => mkB_back x
  rw [← e a, ← e b, h]
theorem splitB_eq (s : ByteArray) : Lib.splitB ⟨#[47]⟩ 0 (Lib.countB s ⟨#[47]⟩) s = spB s.data.toList := by
  refine bytes_inj ?_
  rw [Lib.splitB_data]
  show Lib.split s.data.toList [47] = _
  rw [split_eq]
  unfold spB
  rw [List.map_map]
  conv => lhs; rw [← List.map_id (sp s.data.toList)]
  exact List.map_congr_left fun x _ => (mkB_data x).symm
theorem count_eq (s : ByteArray) : Lib.countB s ⟨#[47]⟩ + 1 = (spB s.data.toList).length := by
  rw [← splitB_eq, Lib.splitB_all ⟨#[47]⟩ (by decide) 0 _ s rfl]

/-- a call hands back texts in new memory -/
def RetT (w : World) (xs : List ByteArray) (f : Value → Value) (e : Ending) (w' : World) : Prop :=
  ∃ A c, e = .returned (f (.slice A xs.length c)) ∧ RT w' A c xs ∧ Below w.heap.size w w'

theorem split_any (s : ByteArray) (w : World) (hs : s.size ≤ 1000000) (hm : ML w) :
    Calls Tryd.prog 60 #[.string s, .string ⟨#[47]⟩] w (RetT w (spB s.data.toList) id) := by
  obtain ⟨m, hm⟩ := hm
  refine (Tryd.strings_Split s ⟨#[47]⟩ m w (by omega) hm (by decide)).mono fun e w' ⟨he, hw⟩ => ?_
  have hc := Lib.countB_le ⟨#[47]⟩ (by decide) _ s (Nat.le_refl _)
  rw [splitB_eq] at hw
  rw [count_eq] at he
  have hn := count_eq s
  refine ⟨_, _, he, ⟨Nat.le_refl _, by omega, fun _ => ⟨w.heap.size, 0, rfl, ?_, fun j x hx => ?_⟩⟩, ?_⟩
  · rw [hw]; simp
  · rw [hw]
    have : (⟨w.heap.size, 0 + j, none⟩ : Addr) = ⟨w.heap.size, j, none⟩ := by simp
    rw [this]
    simp [World.cell?_alloc_new, List.getElem?_map, hx]
  · rw [hw]
    exact (Below.refl _ _).alloc (Nat.le_refl _) _

theorem join_any (A : Option Addr) (c : Nat) (xs : List ByteArray) (sep : ByteArray) (w : World) (h : RT w A c xs) (hN : xs.length ≤ 100000) (hlen : (Lib.join (xs.map (·.data.toList)) sep.data.toList).length ≤ 100000000) :
    Calls Tryd.prog 57 #[.slice A xs.length c, .string sep] w fun e w' => e = .returned (.string (mkB (Lib.join (xs.map (·.data.toList)) sep.data.toList))) ∧ Below w.heap.size w w' := by
  by_cases h0 : 0 < xs.length
  · obtain ⟨b, o, rfl, hb, hc⟩ := h.2.2 h0
    exact Tryd.strings_Join b o c xs sep w hc hb (by omega) h.1 (by omega)
  · have : xs = [] := List.eq_nil_of_length_eq_zero (by omega)
    subst this
    exact (Tryd.strings_Join_none A c sep w).mono fun e w' ⟨he, hw⟩ => ⟨he, hw ▸ Below.refl _ _⟩

theorem getD_cells {xs : List ByteArray} {w : World} {b o : Nat} (h : ∀ j x, xs[j]? = some x → w.cell? ⟨b, o + j, none⟩ = some (.string x)) :
    ∀ j, j < xs.length → w.cell? ⟨b, o + j, none⟩ = some (.string (xs.getD j ByteArray.empty)) := fun j hj => by
  refine h j _ ?_
  rw [List.getD, List.getElem?_eq_getElem hj]
  rfl
theorem below_drewN' (w : World) (n : Nat) : Below w.heap.size w (w.drewN n) := below_drewN (Below.refl _ _) n
end Go.Proofs.YtidjmbmnfnnleaaDoor

/-
  The walks of components, Split, and the reference's Component, Parts and Path.
-/
namespace Go.Proofs.YtidjmbmnfnnleaaDoor
set_option linter.unusedSimpArgs false
set_option linter.unusedVariables false
open Go.RowKit
open Pm

def letters : List UInt8 := [65, 66, 67, 68, 69, 70, 71, 72, 73, 74, 75, 76, 77, 78, 79, 80, 81, 82, 83, 84, 85, 86, 87, 88, 89, 90, 97, 98, 99, 100, 101, 102, 103, 104, 105, 106, 107, 108, 109, 110, 111, 112, 113, 114, 115, 116, 117, 118, 119, 120, 121, 122, 48, 49, 50, 51, 52, 53, 54, 55, 56, 57, 95, 46, 43, 45]
def letIdx (x : UInt8) : Int := Lib.indexByte letters x
theorem letIdx_all : (List.range 256).all (fun n => decide (letIdx n.toUInt8 < 0) == !isB n.toUInt8) = true := by decide +kernel
theorem letIdx_eq (x : UInt8) : decide (letIdx x < 0) = !isB x := by
  have h := List.all_eq_true.1 letIdx_all x.toNat (List.mem_range.2 x.toNat_lt)
  have e : x.toNat.toUInt8 = x := by simp
  rw [e] at h
  exact beq_iff_eq.1 h
theorem letIdx_lo (x : UInt8) : -1 ≤ letIdx x := Lib.indexByte_ge _ _
theorem letters_any (s : ByteArray) (hs : s.data.toList = letters) (x : UInt8) (w : World) :
    Calls Tryd.prog 75 #[.string s, .int .u8 (x.toNat : Int)] w fun e w' => e = .returned (.int .i64 (letIdx x)) ∧ w = w' := by
  have := indexByte_any s (x.toNat : Int) w
  rw [Lib.byte_back, hs] at this
  exact this

set_option maxHeartbeats 400000 in
theorem rcomponent_any (s : ByteArray) (w : World) (hs : s.size ≤ 9223372036854775807) :
    Calls Tryd.prog 59 #[.string s] w fun e w' => e = .returned (.bool (comp s.data.toList)) ∧ w = w' := by
  by_cases h0 : s.size = 0
  · have hl := bytes_nil h0
    have he : s.toList = [] := by rw [Lib.toList_data, hl]
    go_enter Tryd.func59, Tryd.ntmps59
    go_wp2_with fail
    go_ret
    rw [hl]
    exact ⟨rfl, rfl⟩
  have hpos : 0 < s.size := by omega
  have hne := bytes_ne hpos
  clear h0
  by_cases hd : (s[0].toNat : Int) = 46
  · have HC := Lib.hid (comp_dot hpos hd)
    go_enter Tryd.func59, Tryd.ntmps59
    go_wp2_with fail
    go_ret
    exact ⟨ret_bool HC.out.symm, rfl⟩
  · have HC := Lib.hid (comp_ne hpos hd)
    have hdb : ((s[0].toNat : Int) == 46) = false := by rw [beq_eq_false_iff_ne]; exact hd
    clear hd
    go_enter Tryd.func59, Tryd.ntmps59
    go_wp2_with fail
    go_loop [3] (fun i => ∃ k : Nat, k ≤ s.size ∧ i = .int .i64 k ∧ Hid ((s.data.toList.take k).all isB = true)) (fun i => s.size - (intOf i).toNat)
    case atStart => exact ⟨0, Nat.zero_le _, rfl, Lib.hid (by simp)⟩
    case round =>
      obtain ⟨k, hk, rfl, HA⟩ := hrel
      by_cases hlt : k < s.size
      · have HS := Lib.hid (comp_step s k hlt)
        have HL := Lib.hid (letIdx_eq s[k])
        by_cases hb : letIdx s[k] < 0
        · have HF := Lib.hid (show isB s[k] = false by
            have := HL.out
            rw [decide_eq_true hb] at this
            cases h : isB s[k] with
            | false => rfl
            | true => rw [h] at this; cases this)
          go_wp2_with (go_at_call 75; refine (letters_any _ rfl _ _).mono ?_; rintro e w' ⟨rfl, rfl⟩)
          go_ret
          refine ⟨ret_bool ?_, rfl⟩
          rw [HC.out]
          symm
          rw [Bool.eq_false_iff]
          intro h
          rw [List.all_eq_true] at h
          have := h s[k] (List.mem_of_getElem? (Lib.data_getElem? s k hlt))
          rw [HF.out] at this
          cases this
        · have HT := Lib.hid (show isB s[k] = true by
            have := HL.out
            rw [decide_eq_false hb] at this
            cases h : isB s[k] with
            | true => rfl
            | false => rw [h] at this; cases this)
          go_wp2_with (go_at_call 75; refine (letters_any _ rfl _ _).mono ?_; rintro e w' ⟨rfl, rfl⟩)
          go_round
          case rel => exact ⟨k + 1, by omega, by go_num, Lib.hid (by rw [HS.out, HA.out, show isBI (s[k].toNat : Int) = true from HT.out]; rfl)⟩
          case measure => simp [intOf]; omega
      · go_wp2_with fail
        go_ret
        refine ⟨ret_bool ?_, rfl⟩
        rw [HC.out, ← HA.out, List.take_of_length_le (by rw [← Lib.size_eq]; omega)]

/-- the components of a text, as texts -/
def compsB (s : ByteArray) : List ByteArray := spB (s.data.toList.drop 2)
theorem comps_all (s : ByteArray) : (sp (s.data.toList.drop 2)).all comp = (compsB s).all (fun x => comp x.data.toList) := by
  unfold compsB spB
  rw [List.all_map]
  congr 1
theorem comps_len (s : ByteArray) : (sp (s.data.toList.drop 2)).length = (compsB s).length := by
  unfold compsB spB
  rw [List.length_map]
theorem sp_total (l : List UInt8) : ∀ x ∈ sp l, x.length ≤ l.length := by
  induction l with
  | nil => simp [sp]
  | cons c l ih =>
    by_cases hc : c = 47
    · subst hc
      rw [sp_slash]
      intro x hx
      rcases List.mem_cons.1 hx with rfl | hx
      · simp
      · have := ih x hx
        simp only [List.length_cons]; omega
    · obtain ⟨x, xs, h1, h2⟩ := sp_cons c l hc
      rw [h2]
      rw [h1] at ih
      intro y hy
      rcases List.mem_cons.1 hy with rfl | hy
      · have := ih x (by simp)
        simp only [List.length_cons]; omega
      · have := ih y (by simp [hy])
        simp only [List.length_cons]; omega
theorem sp_count (l : List UInt8) : (sp l).length ≤ l.length + 1 := by
  induction l with
  | nil => simp [sp]
  | cons c l ih =>
    by_cases hc : c = 47
    · subst hc
      rw [sp_slash]
      simp only [List.length_cons]; omega
    · obtain ⟨x, xs, h1, h2⟩ := sp_cons c l hc
      rw [h2]
      rw [h1] at ih
      simp only [List.length_cons] at ih ⊢; omega
theorem compsB_size (s x : ByteArray) (h : x ∈ compsB s) : x.size ≤ s.size := by
  unfold compsB spB at h
  obtain ⟨l, hl, rfl⟩ := List.mem_map.1 h
  have := sp_total _ l hl
  rw [List.length_drop] at this
  rw [mkB_size, Lib.size_eq]
  omega
theorem compsB_len (s : ByteArray) : (compsB s).length ≤ s.size + 1 := by
  rw [← comps_len, Lib.size_eq]
  have := sp_count (s.data.toList.drop 2)
  rw [List.length_drop] at this
  omega
theorem trim_comps {s : ByteArray} (h : Lib.hasPrefix s.data.toList [47, 47] = true) : spB (mkB (Lib.trimPrefix s.data.toList [47, 47])).data.toList = compsB s := by
  rw [mkB_data]
  unfold Lib.trimPrefix compsB
  rw [if_pos h]
  rfl
theorem trim_size (s : ByteArray) (p : List UInt8) : (mkB (Lib.trimPrefix s.data.toList p)).size ≤ s.size := by
  rw [mkB_size, Lib.size_eq]
  exact Lib.trimPrefix_le _ _

theorem all_step {xs : List ByteArray} {k : Nat} {x : ByteArray} {p : ByteArray → Bool} (hx : xs[k]? = some x) : (xs.take (k + 1)).all p = ((xs.take k).all p && p x) := by
  rw [List.take_add_one, hx, List.all_append]
  simp
theorem all_miss {xs : List ByteArray} {k : Nat} {x : ByteArray} {p : ByteArray → Bool} (hx : xs[k]? = some x) (h : p x = false) : xs.all p = false := by
  rw [Bool.eq_false_iff]
  intro hh
  have := List.all_eq_true.1 hh x (List.mem_of_getElem? hx)
  rw [h] at this
  cases this

/-- a function hands back texts and true -/
def RetTB (w : World) (xs : List ByteArray) : Ending → World → Prop := RetT w xs (fun v => .tuple #[v, .bool true])
def RetNB (w : World) (e : Ending) (w' : World) : Prop := e = .returned (.tuple #[.slice none 0 0, .bool false]) ∧ Below w.heap.size w w'

set_option maxHeartbeats 1000000 in
theorem components_pre (s : ByteArray) (n : Int) (w : World) (hp : Lib.hasPrefix s.data.toList [47, 47] = false) :
    Calls Tryd.prog 105 #[.string s, .int .i64 n] w (RetNB w) := by
  go_enter Tryd.func105, Tryd.ntmps105
  go_wp2_with (go_at_call 90; refine (cutPrefix_any _ _ _).mono ?_; rintro e w' ⟨rfl, rfl⟩)
  go_ret2
  exact ⟨rfl, Below.refl _ _⟩

set_option maxHeartbeats 1000000 in
theorem components_few (s : ByteArray) (n : Nat) (w : World) (hs : s.size ≤ 1000000) (hm : ML w) (hp : Lib.hasPrefix s.data.toList [47, 47] = true) (hn : (compsB s).length < n) :
    Calls Tryd.prog 105 #[.string s, .int .i64 n] w (RetNB w) := by
  have hts := trim_size s [47, 47]
  have hsp := split_any (mkB (Lib.trimPrefix s.data.toList [47, 47])) w (by omega) hm
  rw [trim_comps hp] at hsp
  have HSP := Lib.hid hsp
  clear hsp hm
  go_enter Tryd.func105, Tryd.ntmps105
  go_wp2_with (first
    | (go_at_call 90; refine (cutPrefix_any _ _ _).mono ?_; rintro e w' ⟨rfl, rfl⟩)
    | (go_at_call 60; refine HSP.out.mono ?_; rintro e w1 ⟨A, c, rfl, hr, hb⟩))
  go_ret2
  exact ⟨rfl, hb⟩

/-- texts and true where ok; else nothing and false -/
def RetC (w : World) (xs : List ByteArray) (ok : Bool) (e : Ending) (w' : World) : Prop := (ok = true → RetTB w xs e w') ∧ (ok = false → RetNB w e w')

set_option maxHeartbeats 1000000 in
theorem components_many (s : ByteArray) (n : Nat) (w : World) (hs : s.size ≤ 1000000) (hm : ML w) (hp : Lib.hasPrefix s.data.toList [47, 47] = true) (hn : n ≤ (compsB s).length) :
    Calls Tryd.prog 105 #[.string s, .int .i64 n] w (RetC w (compsB s) ((compsB s).all (fun x => comp x.data.toList))) := by
  have hts := trim_size s [47, 47]
  have hsp := split_any (mkB (Lib.trimPrefix s.data.toList [47, 47])) w (by omega) hm
  rw [trim_comps hp] at hsp
  have HSP := Lib.hid hsp
  clear hsp hm
  have hlen := compsB_len s
  have HSZ := Lib.hid (compsB_size s)
  have hpos : 0 < (compsB s).length := spB_pos _
  have hnB : decide ((compsB s).length < n) = false := by rw [decide_eq_false_iff_not]; omega
  generalize compsB s = xs at *
  go_enter Tryd.func105, Tryd.ntmps105
  go_wp2_with (first
    | (go_at_call 90; refine (cutPrefix_any _ _ _).mono ?_; rintro e w' ⟨rfl, rfl⟩)
    | (go_at_call 60; refine HSP.out.mono ?_; rintro e w1 ⟨A, c, rfl, hr, hb⟩))
  obtain ⟨b, o, rfl, hbl, hc⟩ := hr.2.2 hpos
  have HR := Lib.hid hr
  have HCE := Lib.hid hc
  clear hr hc
  go_loop [26] (fun i => ∃ k : Nat, k ≤ xs.length ∧ i = .int .i64 k ∧ Hid ((xs.take k).all (fun x => comp x.data.toList) = true)) (fun i => xs.length - (intOf i).toNat)
  case atStart => exact ⟨0, Nat.zero_le _, rfl, Lib.hid (by simp)⟩
  case round =>
    obtain ⟨k, hk, rfl, HA⟩ := hrel
    by_cases hlt : k < xs.length
    · obtain ⟨x, hx⟩ : ∃ x, xs[k]? = some x := ⟨_, List.getElem?_eq_getElem hlt⟩
      have hcell := HCE.out k x hx
      have hxs := HSZ.out x (List.mem_of_getElem? hx)
      have HX := Lib.hid hx
      clear hx
      by_cases hcx : comp x.data.toList = true
      · go_wp2_with (go_at_call 79; refine (component_any _ _ (by omega)).mono ?_; rintro e w' ⟨rfl, rfl⟩)
        go_round
        case rel => exact ⟨k + 1, by omega, by go_num, Lib.hid (by rw [all_step HX.out, HA.out, hcx]; rfl)⟩
        case measure => simp [intOf]; omega
      · have hcx' : comp x.data.toList = false := by simpa using hcx
        clear hcx
        go_wp2_with (go_at_call 79; refine (component_any _ _ (by omega)).mono ?_; rintro e w' ⟨rfl, rfl⟩)
        go_ret2
        refine ⟨fun h => ?_, fun _ => ⟨rfl, hb⟩⟩
        rw [all_miss (p := fun x => comp x.data.toList) HX.out hcx'] at h
        cases h
    · go_wp2_with fail
      go_ret2
      refine ⟨fun _ => ⟨_, _, rfl, HR.out, hb⟩, fun h => ?_⟩
      have := HA.out
      rw [List.take_of_length_le (by omega), h] at this
      cases this

theorem components_yes (s : ByteArray) (n : Nat) (w : World) (hs : s.size ≤ 1000000) (hm : ML w) (hd : dirOk s.data.toList = true) (hn : n ≤ (compsB s).length) :
    Calls Tryd.prog 105 #[.string s, .int .i64 n] w (RetTB w (compsB s)) := by
  unfold dirOk at hd
  rw [Bool.and_eq_true, comps_all] at hd
  exact (components_many s n w hs hm hd.1 hn).mono fun e w' h => h.1 hd.2
theorem components_no (s : ByteArray) (n : Nat) (w : World) (hs : s.size ≤ 1000000) (hm : ML w) (hd : dirOk s.data.toList = false ∨ (compsB s).length < n) :
    Calls Tryd.prog 105 #[.string s, .int .i64 n] w (RetNB w) := by
  cases hp : Lib.hasPrefix s.data.toList [47, 47] with
  | false => exact components_pre s n w hp
  | true =>
    by_cases hn : (compsB s).length < n
    · exact components_few s n w hs hm hp hn
    · rcases hd with hd | hd
      · unfold dirOk at hd
        rw [hp, Bool.true_and, comps_all] at hd
        exact (components_many s n w hs hm hp (by omega)).mono fun e w' h => h.2 hd
      · exact absurd hd hn

theorem pathOk_iff (s : ByteArray) : pathOk s.data.toList = true ↔ dirOk s.data.toList = true ∧ 2 ≤ (compsB s).length := by
  unfold pathOk
  rw [Bool.and_eq_true, decide_eq_true_iff, comps_len]

/-- a function hands back texts and no error -/
def RetTE (w : World) (xs : List ByteArray) : Ending → World → Prop := RetT w xs (fun v => .tuple #[v, .int .i64 0])
def RetNE (w : World) (n : Int) (e : Ending) (w' : World) : Prop := e = .returned (.tuple #[.slice none 0 0, .int .i64 n]) ∧ Below w.heap.size w w'

set_option maxHeartbeats 400000 in
theorem psplit_yes (s : ByteArray) (w : World) (hs : s.size ≤ 1000000) (hm : ML w) (hv : pathOk s.data.toList = true) :
    Calls Tryd.prog 94 #[.string s] w (RetTE w (compsB s)) := by
  have hh := (pathOk_iff s).1 hv
  have HC := Lib.hid (components_yes s 2 w hs hm hh.1 hh.2)
  clear hh hm
  go_enter Tryd.func94, Tryd.ntmps94
  go_wp2_with (go_at_call 105; refine HC.out.mono ?_; rintro e w1 ⟨A, c, rfl, hr, hb⟩)
  go_ret2
  exact ⟨_, _, rfl, hr, hb⟩
set_option maxHeartbeats 400000 in
theorem psplit_no (s : ByteArray) (w : World) (hs : s.size ≤ 1000000) (hm : ML w) (hv : pathOk s.data.toList = false) :
    Calls Tryd.prog 94 #[.string s] w (RetNE w 20) := by
  have hh : dirOk s.data.toList = false ∨ (compsB s).length < 2 := by
    have := pathOk_iff s
    rw [hv] at this
    cases hd : dirOk s.data.toList with
    | false => exact .inl rfl
    | true =>
      rw [hd] at this
      refine .inr ?_
      have h2 : ¬ (2 ≤ (compsB s).length) := fun h => by
        have := this.2 ⟨rfl, h⟩
        cases this
      omega
  have HC := Lib.hid (components_no s 2 w hs hm hh)
  clear hh hm
  go_enter Tryd.func94, Tryd.ntmps94
  go_wp2_with (go_at_call 105; refine HC.out.mono ?_; rintro e w1 ⟨rfl, hb⟩)
  go_ret2
  exact ⟨rfl, hb⟩

theorem drop2_eq (s : ByteArray) : (s.extract 2 s.size).data.toList = s.data.toList.drop 2 := Lib.extract_to_end s 2

set_option maxHeartbeats 1000000 in
theorem parts_many (s : ByteArray) (w : World) (hs : s.size ≤ 1000000) (hm : ML w) (hp : Lib.hasPrefix s.data.toList [47, 47] = true) :
    Calls Tryd.prog 80 #[.string s] w (RetC w (compsB s) ((compsB s).all (fun x => comp x.data.toList))) := by
  have hsp := split_any (s.extract 2 s.size) w (by have := piece_size s 2 s.size; omega) hm
  rw [drop2_eq] at hsp
  have HSP : Hid (Calls Tryd.prog 60 #[.string (s.extract 2 s.size), .string ⟨#[47]⟩] w (RetT w (compsB s) id)) := Lib.hid hsp
  clear hsp hm
  have hl2 := prefix_len hp
  rw [← Lib.size_eq] at hl2
  have hlen := compsB_len s
  have HSZ := Lib.hid (compsB_size s)
  have hpos : 0 < (compsB s).length := spB_pos _
  generalize compsB s = xs at *
  go_enter Tryd.func80, Tryd.ntmps80
  go_wp2_with (first
    | (go_at_call 74; refine (hasPrefix_any _ _ _).mono ?_; rintro e w' ⟨rfl, rfl⟩)
    | (go_at_call 60; refine HSP.out.mono ?_; rintro e w1 ⟨A, c, rfl, hr, hb⟩))
  obtain ⟨b, o, rfl, hbl, hc⟩ := hr.2.2 hpos
  have HR := Lib.hid hr
  have HCE := Lib.hid hc
  clear hr hc
  go_loop [15] (fun i => ∃ k : Nat, k ≤ xs.length ∧ i = .int .i64 k ∧ Hid ((xs.take k).all (fun x => comp x.data.toList) = true)) (fun i => xs.length - (intOf i).toNat)
  case atStart => exact ⟨0, Nat.zero_le _, rfl, Lib.hid (by simp)⟩
  case round =>
    obtain ⟨k, hk, rfl, HA⟩ := hrel
    by_cases hlt : k < xs.length
    · obtain ⟨x, hx⟩ : ∃ x, xs[k]? = some x := ⟨_, List.getElem?_eq_getElem hlt⟩
      have hcell := HCE.out k x hx
      have hxs := HSZ.out x (List.mem_of_getElem? hx)
      have HX := Lib.hid hx
      clear hx
      by_cases hcx : comp x.data.toList = true
      · go_wp2_with (go_at_call 59; refine (rcomponent_any _ _ (by omega)).mono ?_; rintro e w' ⟨rfl, rfl⟩)
        go_round
        case rel => exact ⟨k + 1, by omega, by go_num, Lib.hid (by rw [all_step HX.out, HA.out, hcx]; rfl)⟩
        case measure => simp [intOf]; omega
      · have hcx' : comp x.data.toList = false := by simpa using hcx
        clear hcx
        go_wp2_with (go_at_call 59; refine (rcomponent_any _ _ (by omega)).mono ?_; rintro e w' ⟨rfl, rfl⟩)
        go_ret2
        refine ⟨fun h => ?_, fun _ => ⟨rfl, hb⟩⟩
        rw [all_miss (p := fun x => comp x.data.toList) HX.out hcx'] at h
        cases h
    · go_wp2_with fail
      go_ret2
      refine ⟨fun _ => ⟨_, _, rfl, HR.out, hb⟩, fun h => ?_⟩
      have := HA.out
      rw [List.take_of_length_le (by omega), h] at this
      cases this
set_option maxHeartbeats 400000 in
theorem parts_pre (s : ByteArray) (w : World) (hp : Lib.hasPrefix s.data.toList [47, 47] = false) :
    Calls Tryd.prog 80 #[.string s] w (RetNB w) := by
  go_enter Tryd.func80, Tryd.ntmps80
  go_wp2_with (go_at_call 74; refine (hasPrefix_any _ _ _).mono ?_; rintro e w' ⟨rfl, rfl⟩)
  go_ret2
  exact ⟨rfl, Below.refl _ _⟩
theorem parts_yes (s : ByteArray) (w : World) (hs : s.size ≤ 1000000) (hm : ML w) (hd : dirOk s.data.toList = true) :
    Calls Tryd.prog 80 #[.string s] w (RetTB w (compsB s)) := by
  unfold dirOk at hd
  rw [Bool.and_eq_true, comps_all] at hd
  exact (parts_many s w hs hm hd.1).mono fun e w' h => h.1 hd.2
theorem parts_no (s : ByteArray) (w : World) (hs : s.size ≤ 1000000) (hm : ML w) (hd : dirOk s.data.toList = false) :
    Calls Tryd.prog 80 #[.string s] w (RetNB w) := by
  cases hp : Lib.hasPrefix s.data.toList [47, 47] with
  | false => exact parts_pre s w hp
  | true =>
    unfold dirOk at hd
    rw [hp, Bool.true_and, comps_all] at hd
    exact (parts_many s w hs hm hp).mono fun e w' h => h.2 hd

set_option maxHeartbeats 400000 in
theorem rpath_yes (s : ByteArray) (w : World) (hs : s.size ≤ 1000000) (hm : ML w) (hv : pathOk s.data.toList = true) :
    Calls Tryd.prog 56 #[.string s] w (RetTB w (compsB s)) := by
  have hh := (pathOk_iff s).1 hv
  have HC := Lib.hid (parts_yes s w hs hm hh.1)
  have h2 := hh.2
  have hlen := compsB_len s
  clear hh hm
  go_enter Tryd.func56, Tryd.ntmps56
  go_wp2_with (go_at_call 80; refine HC.out.mono ?_; rintro e w1 ⟨A, c, rfl, hr, hb⟩)
  go_ret2
  exact ⟨_, _, rfl, hr, hb⟩
set_option maxHeartbeats 400000 in
theorem rpath_no (s : ByteArray) (w : World) (hs : s.size ≤ 1000000) (hm : ML w) (hv : pathOk s.data.toList = false) :
    Calls Tryd.prog 56 #[.string s] w (RetNB w) := by
  cases hd : dirOk s.data.toList with
  | false =>
    have HC := Lib.hid (parts_no s w hs hm hd)
    clear hm
    go_enter Tryd.func56, Tryd.ntmps56
    go_wp2_with (go_at_call 80; refine HC.out.mono ?_; rintro e w1 ⟨rfl, hb⟩)
    go_ret2
    exact ⟨rfl, hb⟩
  | true =>
    have h2 : (compsB s).length < 2 := by
      have := pathOk_iff s
      rw [hv, hd] at this
      have h2 : ¬ (2 ≤ (compsB s).length) := fun h => by
        have := this.2 ⟨rfl, h⟩
        cases this
      omega
    have HC := Lib.hid (parts_yes s w hs hm hd)
    clear hm
    go_enter Tryd.func56, Tryd.ntmps56
    go_wp2_with (go_at_call 80; refine HC.out.mono ?_; rintro e w1 ⟨A, c, rfl, hr, hb⟩)
    go_ret2
    exact ⟨rfl, hb⟩
end Go.Proofs.YtidjmbmnfnnleaaDoor

/-
  The walks of the reference's Compare and Under, of Under, and of the helper same.
-/
namespace Go.Proofs.YtidjmbmnfnnleaaDoor
set_option linter.unusedSimpArgs false
set_option linter.unusedVariables false
open Go.RowKit
open Pm

def dat (xs : List ByteArray) : List (List UInt8) := xs.map (·.data.toList)
theorem dat_len (xs : List ByteArray) : (dat xs).length = xs.length := List.length_map _
theorem dat_get {xs : List ByteArray} {k : Nat} {x : ByteArray} (h : xs[k]? = some x) : (dat xs)[k]? = some x.data.toList := by simp [dat, h]
theorem dat_inj {a b : List ByteArray} (h : dat a = dat b) : a = b := bytes_inj h
theorem dat_take (xs : List ByteArray) (n : Nat) : dat (xs.take n) = (dat xs).take n := List.map_take

theorem cc_drop (a b : List (List UInt8)) (k : Nat) (x y : List UInt8) (ha : a[k]? = some x) (hb : b[k]? = some y) (h : ccmp a b = ccmp (a.drop k) (b.drop k)) :
    (Lib.compareBytes x y = 0 → ccmp a b = ccmp (a.drop (k + 1)) (b.drop (k + 1))) ∧ (Lib.compareBytes x y ≠ 0 → ccmp a b = Lib.compareBytes x y) := by
  obtain ⟨ha1, rfl⟩ := List.getElem?_eq_some_iff.1 ha
  obtain ⟨hb1, rfl⟩ := List.getElem?_eq_some_iff.1 hb
  rw [List.drop_eq_getElem_cons ha1, List.drop_eq_getElem_cons hb1] at h
  constructor
  · intro e
    rw [h, ccmp, if_pos e]
  · intro e
    rw [h, ccmp, if_neg e]
theorem cc_end (a b : List (List UInt8)) (k : Nat) (h : ccmp a b = ccmp (a.drop k) (b.drop k)) (hk : k = a.length ∨ k = b.length) (hka : k ≤ a.length) (hkb : k ≤ b.length) :
    ccmp a b = Lib.compareInt (a.length : Int) (b.length : Int) := by
  rw [h]
  unfold Lib.compareInt
  by_cases ea : k = a.length
  · have : a.drop k = [] := List.drop_of_length_le (by omega)
    rw [this]
    by_cases eb : k = b.length
    · have : b.drop k = [] := List.drop_of_length_le (by omega)
      rw [this, if_neg (by omega), if_neg (by omega)]
      rfl
    · rw [List.drop_eq_getElem_cons (show k < b.length by omega), if_pos (by omega)]
      rfl
  · have eb : k = b.length := by omega
    have : b.drop k = [] := List.drop_of_length_le (by omega)
    rw [this, List.drop_eq_getElem_cons (show k < a.length by omega), if_neg (by omega), if_pos (by omega)]
    rfl
theorem compareBytes_range : ∀ (a b : List UInt8), -1 ≤ Lib.compareBytes a b ∧ Lib.compareBytes a b ≤ 1
  | [], [] => by decide
  | [], _ :: _ => by simp [Lib.compareBytes]
  | _ :: _, [] => by simp [Lib.compareBytes]
  | x :: a, y :: b => by
    unfold Lib.compareBytes
    split
    · decide
    · split
      · decide
      · exact compareBytes_range a b
theorem ccmp_self (a : List (List UInt8)) : ccmp a a = 0 := by
  induction a with
  | nil => rfl
  | cons x a ih => rw [ccmp, if_pos (compareBytes_self x), ih]
theorem ccmp_zero {a b : List (List UInt8)} (h : ccmp a b = 0) : a = b := by
  induction a generalizing b with
  | nil => cases b with
    | nil => rfl
    | cons y b => simp [ccmp] at h
  | cons x a ih =>
    cases b with
    | nil => simp [ccmp] at h
    | cons y b =>
      unfold ccmp at h
      split at h
      · rename_i e
        rw [compareBytes_eq e, ih h]
      · rename_i e
        exact absurd h e

/-- ys lies below xs -/
def underB (xs ys : List ByteArray) : Bool := decide (xs.length < ys.length ∧ ys.take xs.length = xs)

def RetBE (w : World) (b : Bool) (n : Int) (e : Ending) (w' : World) : Prop := e = .returned (.tuple #[.bool b, .int .i64 n]) ∧ Below w.heap.size w w'

/-- two lists of texts, held one against the other -/
theorem take_eq_step {α : Type} {a b : List α} {k : Nat} {x y : α} (ha : a[k]? = some x) (hb : b[k]? = some y) (h : a.take k = b.take k) (e : x = y) : a.take (k + 1) = b.take (k + 1) := by
  rw [List.take_add_one, List.take_add_one, ha, hb, h, e]

end Go.Proofs.YtidjmbmnfnnleaaDoor

/-
  The sanity check of the statements about paths returns true.
-/
namespace Go.Proofs.YtidjmbmnfnnleaaDoor
set_option linter.unusedSimpArgs false
set_option linter.unusedVariables false
open Go.RowKit
open Pm

end Go.Proofs.YtidjmbmnfnnleaaDoor

/-
  The walks of Join, and of the reference's Join.
-/
namespace Go.Proofs.YtidjmbmnfnnleaaDoor
set_option linter.unusedSimpArgs false
set_option linter.unusedVariables false
open Go.RowKit
open Pm

/-- the text of components -/
def joinL (xs : List (List UInt8)) : List UInt8 := 47 :: 47 :: Lib.join xs [47]
def datj (xs : List ByteArray) : List (List UInt8) := xs.map (·.data.toList)
/-- the path of components -/
def joinB (xs : List ByteArray) : ByteArray := mkB (joinL (datj xs))

def joinT (xs : List ByteArray) : ByteArray := mkB (Lib.join (datj xs) [47])
theorem joinT_size (xs : List ByteArray) : (joinT xs).size = (Lib.join (datj xs) [47]).length := mkB_size _
theorem cat_eq (xs : List ByteArray) : (⟨#[47, 47]⟩ : ByteArray) ++ joinT xs = joinB xs := by
  rw [← mkB_back ((⟨#[47, 47]⟩ : ByteArray) ++ joinT xs)]
  unfold joinB joinL
  refine congrArg mkB ?_
  rw [ByteArray.data_append, Array.toList_append]
  show 47 :: 47 :: (joinT xs).data.toList = _
  rw [joinT, mkB_data]
theorem ret_str {a b : ByteArray} (h : a = b) : Ending.returned (.string a) = .returned (.string b) := by rw [h]
theorem ret_si {k : IntKind} {a b : ByteArray} {n m : Int} (h : a = b) (h2 : n = m) : Ending.returned (.tuple #[.string a, .int k n]) = .returned (.tuple #[.string b, .int k m]) := by rw [h, h2]

set_option maxHeartbeats 400000 in
theorem rjoin_any (A : Option Addr) (c : Nat) (xs : List ByteArray) (w : World) (h : RT w A c xs) (hN : xs.length ≤ 100000) (hlen : (Lib.join (datj xs) [47]).length ≤ 100000000) :
    Calls Tryd.prog 61 #[.slice A xs.length c] w fun e w' => e = .returned (.string (joinB xs)) ∧ Below w.heap.size w w' := by
  have HJ : Hid (Calls Tryd.prog 57 #[.slice A xs.length c, .string ⟨#[47]⟩] w fun e w' => e = .returned (.string (joinT xs)) ∧ Below w.heap.size w w') := Lib.hid (join_any A c xs ⟨#[47]⟩ w h hN hlen)
  have hsz : (joinT xs).size ≤ 100000000 := by rw [joinT_size]; exact hlen
  have HC := Lib.hid (cat_eq xs)
  clear h
  go_enter Tryd.func61, Tryd.ntmps61
  go_wp2_with (go_at_call 57; refine HJ.out.mono ?_; rintro e w1 ⟨rfl, hb⟩)
  go_ret
  exact ⟨ret_str HC.out, hb⟩

/-- components that make a path -/
def joinOk (xs : List ByteArray) : Bool := decide (2 ≤ xs.length) && xs.all (fun x => comp x.data.toList)

end Go.Proofs.YtidjmbmnfnnleaaDoor

/-
  Append onto a row of texts of the call's own; what is appended are texts that lie in the world.
-/
namespace Go.Proofs.YtidjmbmnfnnleaaDoor
set_option linter.unusedSimpArgs false
set_option linter.unusedVariables false
open Go.RowKit

theorem textInfo : (Tryd.prog.info? 9).map (fun i => (i.zero, i.size, i.bytes)) = some (some (.string ByteArray.empty), 1, 16) := by kernel_rfl

/-- v is a row of the call's own (blocks from base on) and holds the texts xs -/
def OT (w : World) (base : Nat) (v : Value) (xs : List ByteArray) : Prop := w.ownsRow base 9 1 v xs.length (xs.map Value.string)

theorem OT.nil (w : World) (base : Nat) : OT w base (.slice none 0 0) [] := ⟨by simp, .inl ⟨rfl, rfl⟩⟩
theorem OT.read {w : World} {base : Nat} {v : Value} {xs : List ByteArray} (h : OT w base v xs) : ∃ A c, v = .slice A xs.length c ∧ RT w A c xs := by
  obtain ⟨hl, h⟩ := h
  rcases h with ⟨rfl, hn⟩ | ⟨g, cap, cur, rfl, hbg, hh, hnc, hcm, hcs, htk⟩
  · have : xs = [] := List.eq_nil_of_length_eq_zero hn
    subst this
    exact ⟨none, 0, rfl, RT.nil w none 0 (by omega)⟩
  · refine ⟨_, _, rfl, hnc, by simpa [maxLen] using hcm, fun h0 => ⟨g, 0, rfl, ?_, fun j x hx => ?_⟩⟩
    · rcases Nat.lt_or_ge g w.heap.size with h1 | h1
      · exact h1
      · rw [Array.getElem?_eq_none h1] at hh; cases hh
    · have hj : j < xs.length := (List.getElem?_eq_some_iff.1 hx).1
      have e : (xs.map Value.string)[j]? = some (.string x) := by rw [List.getElem?_map, hx]; rfl
      rw [← htk, List.getElem?_take, if_pos (by omega)] at e
      have : (⟨g, 0 + j, none⟩ : Addr) = ⟨g, j, none⟩ := by simp
      rw [this, cell_of_row w g j cur _ (0, 0) hh]
      simpa using e

theorem run_append_none (w : World) (base : Nat) (v : Value) (xs : List ByteArray) (hown : OT w base v xs) (c : Nat) (ty : TypeId) :
    (Builtin.append_ #[22, 22] ty #[v, .slice none 0 c]).run Tryd.prog w = .ok v w := by
  obtain ⟨i, hi, hz, h1, h2⟩ := info_parts textInfo
  rcases hown.2 with ⟨rfl, _⟩ | ⟨g, cap, cur, rfl, _, _, hnc, _⟩
  · simp [Builtin.append_, run_underlying Tryd.underlying22, sizeOf, typeInfo, hi, Builtin.lenOf, Builtin.firstCells]
  · simp [Builtin.append_, run_underlying Tryd.underlying22, sizeOf, typeInfo, hi, Builtin.lenOf, Builtin.firstCells, hnc, storeCells]

theorem run_append_texts (w : World) (base : Nat) (v : Value) (xs ys : List ByteArray) (A : Option Addr) (c : Nat) (ty : TypeId) (hown : OT w base v xs) (hr : RT w A c ys)
    (hlen : xs.length + ys.length ≤ 1000000) (hbase : base ≤ w.heap.size) :
    ∃ v' w', (Builtin.append_ #[22, 22] ty #[v, .slice A ys.length c]).run Tryd.prog w = .ok v' w' ∧ OT w' base v' (xs ++ ys) ∧ w.grownBy w' v.ownBlock ∧
      (v'.ownBlock = v.ownBlock ∨ v'.ownBlock = some w.heap.size) := by
  obtain ⟨i, hi, hz, h1, h2⟩ := info_parts textInfo
  rcases A with _ | ad
  · have hy : ys = [] := by
      cases ys with
      | nil => rfl
      | cons y ys =>
        obtain ⟨b, o, e, _⟩ := hr.2.2 (by simp)
        cases e
    subst hy
    exact ⟨v, w, run_append_none w base v xs hown c ty, by simpa using hown, World.grownBy.refl w _, .inl rfl⟩
  · have hcells : ∀ j u, (ys.map Value.string)[j]? = some u → w.cell? (ad.add j) = some u := by
      intro j u hu
      rw [List.getElem?_map] at hu
      obtain ⟨y, hy, rfl⟩ := Option.map_eq_some_iff.1 hu
      have hj : j < ys.length := (List.getElem?_eq_some_iff.1 hy).1
      obtain ⟨b, o, e, _, hc⟩ := hr.2.2 (by omega)
      cases e
      rw [Go.WideShapes.add_plain]
      exact hc j y hy
    obtain ⟨v', w', hrun, h3, h4, _, h5⟩ := run_append_own_at (P := Tryd.prog) w base 22 ty 9 i (.string ByteArray.empty) 1 16 Tryd.underlying22 hi hz h1 h2 rfl (by omega) v xs.length (xs.map Value.string) hown ad ys.length c (ys.map Value.string)
      (by simp) hcells (by intro u hu; obtain ⟨y, _, rfl⟩ := List.mem_map.1 hu; rfl) (by simp only [maxLen]; omega) (by omega) hbase
    refine ⟨v', w', hrun, ?_, h4, h5⟩
    unfold OT
    rw [List.length_append, List.map_append]
    exact h3

theorem wp_append_texts {w : World} {o : Oper} {a : Act} {K : Act → World → Prop} {Q : Exit → Act → World → Prop} (s x : Operand)
    (ho : o.op = .call { callee := .builtin .append, args := #[s, x], argTypes := #[22, 22] })
    (base : Nat) (v : Value) (xs ys : List ByteArray) (A : Option Addr) (c : Nat) (hs : a.eval s = v) (hx : a.eval x = .slice A ys.length c) (hown : OT w base v xs) (hr : RT w A c ys)
    (hlen : xs.length + ys.length ≤ 1000000) (hbase : base ≤ w.heap.size)
    (h : ∀ v' w', OT w' base v' (xs ++ ys) → w.grownBy w' v.ownBlock → (v'.ownBlock = v.ownBlock ∨ v'.ownBlock = some w.heap.size) → K (a.put o.dst v') w') : o.wp Tryd.prog a w K Q := by
  obtain ⟨v', w', hrun, h2, h3, h4⟩ := run_append_texts w base v xs ys A c o.type hown hr hlen hbase
  unfold Oper.wp execOp
  simp only [ho, resolve, invoke, builtin, Sem.run_bind, Sem.run_pure, Result.andThen_ok, List.map_toArray, List.map_cons, List.map_nil, hs, hx, hrun]
  exact h v' w' h2 h3 h4

theorem wpList_append_texts {w : World} {ops : Array Oper} {rest : List Oper} {o : Oper} {a : Act} {Q : Exit → Act → World → Prop} (hgd : o.guard = none) (s x : Operand)
    (ho : o.op = .call { callee := .builtin .append, args := #[s, x], argTypes := #[22, 22] })
    (base : Nat) (v : Value) (xs ys : List ByteArray) (A : Option Addr) (c : Nat) (hs : a.eval s = v) (hx : a.eval x = .slice A ys.length c) (hown : OT w base v xs) (hr : RT w A c ys)
    (hlen : xs.length + ys.length ≤ 1000000) (hbase : base ≤ w.heap.size)
    (h : ∀ v' w', OT w' base v' (xs ++ ys) → w.grownBy w' v.ownBlock → (v'.ownBlock = v.ownBlock ∨ v'.ownBlock = some w.heap.size) → wpList Tryd.prog ops Q rest (a.put o.dst v') w') : wpList Tryd.prog ops Q (o :: rest) a w :=
  wpList_plain hgd fun _ hK => wp_append_texts s x ho base v xs ys A c hs hx hown hr hlen hbase fun v' w' h2 h3 h4 => hK _ _ (h v' w' h2 h3 h4)

theorem step_append_texts {w : World} {ops : Array Oper} {o : Oper} {a : Act} {K : Act → World → Prop} {Q : Exit → Act → World → Prop} {E : Prop} (hgd : o.guard = none) (s x : Operand)
    (ho : o.op = .call { callee := .builtin .append, args := #[s, x], argTypes := #[22, 22] })
    (base : Nat) (v : Value) (xs ys : List ByteArray) (A : Option Addr) (c : Nat) (hs : a.eval s = v) (hx : a.eval x = .slice A ys.length c) (hown : OT w base v xs) (hr : RT w A c ys)
    (hlen : xs.length + ys.length ≤ 1000000) (hbase : base ≤ w.heap.size)
    (h : ∀ v' w', OT w' base v' (xs ++ ys) → w.grownBy w' v.ownBlock → (v'.ownBlock = v.ownBlock ∨ v'.ownBlock = some w.heap.size) → K (a.put o.dst v') w') :
    if Region.wanted o (yielded ops a.tmps) = true then Oper.wp Tryd.prog o a w K Q else E := by
  have hw : Region.wanted o (yielded ops a.tmps) = true := by simp [Region.wanted, hgd]
  rw [if_pos hw]
  exact wp_append_texts s x ho base v xs ys A c hs hx hown hr hlen hbase h
end Go.Proofs.YtidjmbmnfnnleaaDoor

/-
  PathJoins returns true.
-/
namespace Go.Proofs.YtidjmbmnfnnleaaDoor
set_option linter.unusedSimpArgs false
set_option linter.unusedVariables false
open Go.RowKit
open Pm

theorem lens_le {xs : List ByteArray} {m : Nat} (h : ∀ x ∈ xs, x.size ≤ m) : Lib.lens (datj xs) ≤ xs.length * m := by
  induction xs with
  | nil => simp [datj, Lib.lens]
  | cons x xs ih =>
    have h1 := ih fun y hy => h y (List.mem_cons_of_mem _ hy)
    have h2 := h x (List.mem_cons_self ..)
    have e : Lib.lens (datj (x :: xs)) = x.data.toList.length + Lib.lens (datj xs) := by simp [datj, Lib.lens]
    rw [e, List.length_cons, Nat.succ_mul, ← Lib.size_eq]
    omega
theorem join_le {xs : List ByteArray} {m : Nat} (h : ∀ x ∈ xs, x.size ≤ m) : (Lib.join (datj xs) [47]).length ≤ xs.length * (m + 1) := by
  cases xs with
  | nil => simp [datj, Lib.join_nil]
  | cons x xs =>
    have h1 := lens_le h
    have e : datj (x :: xs) = x.data.toList :: datj xs := rfl
    rw [e, Lib.join_length, ← e]
    have e2 : (datj xs).length = xs.length := by simp [datj]
    rw [e2]
    rw [List.length_cons, Nat.succ_mul] at h1
    have e3 : (xs.length + 1) * (m + 1) = xs.length * m + xs.length + m + 1 := by rw [Nat.add_mul, Nat.mul_add]; omega
    show _ ≤ (xs.length + 1) * (m + 1)
    rw [e3]
    simp only [List.length_cons, List.length_nil, Nat.zero_add, Nat.one_mul]
    omega

end Go.Proofs.YtidjmbmnfnnleaaDoor
