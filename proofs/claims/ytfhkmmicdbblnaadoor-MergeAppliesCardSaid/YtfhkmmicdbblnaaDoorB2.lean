/-
  What scripts leave of a text; the walk of the law's kept.
-/
import Derived.Test.YtfhkmmicdbblnaaDoorB1
namespace Go.Proofs.YtfhkmmicdbblnaaDoor
set_option linter.unusedSimpArgs false
set_option linter.unusedVariables false
open Go.RowKit

section
variable {α : Type}
def keptI : List (Int × Int × List α) → Int → Int
  | [], m => m
  | h :: l, m => keptI l (m - (h.2.1 - h.1))
theorem kept_left {n : Nat} : ∀ {l : List (Int × Int × List α)} {s : Int} {t : Nat} (m : Int), scrI n l s = true → (t : Int) ≤ s + 1 → t ≤ n → keptI l m = m - n + t + left n (natH l) t
  | [], s, t, m, _, h1, h2 => by
    show m = m - n + t + ((n - t : Nat) : Int)
    omega
  | h :: l, s, t, m, hq, h1, h2 => by
    unfold scrI at hq
    rw [Bool.and_eq_true, decide_eq_true_eq] at hq
    obtain ⟨⟨a1, a2, a3, _⟩, h5⟩ := hq
    obtain ⟨f, t', ls⟩ := h
    simp only at a1 a2 a3 h5
    obtain ⟨F, rfl⟩ : ∃ F : Nat, f = F := ⟨f.toNat, by omega⟩
    obtain ⟨T, rfl⟩ : ∃ T : Nat, t' = T := ⟨t'.toNat, by omega⟩
    have ih := kept_left (t := T) (m - ((T : Int) - F)) h5 (by omega) (by omega)
    show keptI l (m - ((T : Int) - F)) = m - n + t + ((((F : Int).toNat - t) + left n (natH l) (T : Int).toNat : Nat) : Int)
    rw [ih, Int.toNat_natCast, Int.toNat_natCast]
    omega
theorem kept_app (l : List (Int × Int × List α)) (h : Int × Int × List α) (m : Int) : keptI (l ++ [h]) m = keptI l m - (h.2.1 - h.1) := by
  induction l generalizing m with
  | nil => rfl
  | cons x l ih => exact ih _
theorem kept_bound {n : Nat} : ∀ {l : List (Int × Int × List α)} (m : Int), (∀ h ∈ l, 0 ≤ h.2.1 - h.1 ∧ h.2.1 - h.1 ≤ n) → keptI l m ≤ m ∧ m - l.length * (n : Int) ≤ keptI l m
  | [], m, _ => by simp [keptI]
  | h :: l, m, hq => by
    have h1 := hq h List.mem_cons_self
    have ih := kept_bound (m - (h.2.1 - h.1)) (fun g hg => hq g (List.mem_cons_of_mem _ hg))
    show keptI l (m - (h.2.1 - h.1)) ≤ m ∧ m - ((l.length + 1 : Nat) : Int) * (n : Int) ≤ keptI l (m - (h.2.1 - h.1))
    have e : ((l.length + 1 : Nat) : Int) * (n : Int) = l.length * (n : Int) + n := by rw [Int.natCast_add, Int.add_mul]; simp
    rw [e]
    omega
theorem scrI_bounds {n : Nat} : ∀ {l : List (Int × Int × List α)} {s : Int}, scrI n l s = true → -1 ≤ s → ∀ h ∈ l, 0 ≤ h.1 ∧ h.1 ≤ h.2.1 ∧ h.2.1 ≤ n
  | [], s, _, _, h, hh => by cases hh
  | g :: l, s, hq, hs, h, hh => by
    unfold scrI at hq
    rw [Bool.and_eq_true, decide_eq_true_eq] at hq
    rcases List.mem_cons.1 hh with rfl | hh
    · omega
    · exact scrI_bounds hq.2 (by omega) h hh
theorem apl_len (a : List α) : ∀ (l : List (Nat × Nat × List α)) (t m : Nat), (∀ h ∈ l, h.2.2.length ≤ m) → (apl a l t).length ≤ a.length * (l.length + 1) + l.length * m
  | [], t, m, _ => by
    show (a.drop t).length ≤ _
    rw [List.length_drop, List.length_nil]
    omega
  | h :: l, t, m, hq => by
    have ih := apl_len a l h.2.1 m (fun g hg => hq g (List.mem_cons_of_mem _ hg))
    have h1 := hq h List.mem_cons_self
    show ((a.drop t).take (h.1 - t) ++ (h.2.2 ++ apl a l h.2.1)).length ≤ _
    rw [List.length_append, List.length_append, List.length_take, List.length_drop, List.length_cons, Nat.succ_mul, Nat.mul_succ]
    omega
end
theorem catB_size {m : Nat} : ∀ {xs : List ByteArray}, (∀ x ∈ xs, x.size ≤ m) → (catB xs).size ≤ xs.length * m
  | [], _ => by simp [catB, mkB_size]
  | x :: xs, h => by
    have ih := catB_size (fun y hy => h y (List.mem_cons_of_mem _ hy))
    have h1 := h x List.mem_cons_self
    have e : (catB (x :: xs)).size = x.size + (catB xs).size := by
      unfold catB
      rw [mkB_size, mkB_size, List.map_cons, List.flatten_cons, List.length_append, Lib.size_eq]
      rfl
    rw [e, List.length_cons, Nat.succ_mul]
    omega
theorem lB_cat {R : List ByteArray} (h1 : ∀ x ∈ R, lnB x = true) (h2 : nlT R = true) : lB (catB R) = R := by
  unfold lB
  rw [show (catB R).data.toList = (R.map dT).flatten from catB_data R, lns_join _ (by
    rw [lines_nl, Bool.and_eq_true]
    refine ⟨List.all_eq_true.2 fun x hx => ?_, h2⟩
    obtain ⟨y, hy, rfl⟩ := List.mem_map.1 hx
    exact h1 y hy), List.map_map]
  conv => rhs; rw [← List.map_id R]
  exact List.map_congr_left fun x _ => mkB_back x
theorem apR_mem {a : ByteArray} {hs : List (Int × Int × List ByteArray)} {x : ByteArray} (h : x ∈ apR a hs) : x ∈ lB a ∨ ∃ g ∈ hs, x ∈ g.2.2 := by
  rcases apl_mem (lB a) (natH hs) 0 x h with h1 | ⟨g, hg, hx⟩
  · exact .inl h1
  · unfold natH at hg
    obtain ⟨g', hg', rfl⟩ := List.mem_map.1 hg
    exact .inr ⟨g', hg', hx⟩
theorem apOk_lines {a : ByteArray} {hs : List (Int × Int × List ByteArray)} (h : apOk a hs = true) : lB (apS a hs) = apR a hs := by
  rw [(ap_good h).1]
  unfold apOk at h
  rw [Bool.and_eq_true] at h
  refine lB_cat (fun x hx => ?_) h.2
  unfold scB at h
  rw [Bool.and_eq_true] at h
  rcases apR_mem hx with h1 | ⟨g, hg, hx⟩
  · exact lB_line h1
  · exact List.all_eq_true.1 (List.all_eq_true.1 h.1.2 g hg) x hx
theorem apOk_scr {a : ByteArray} {hs : List (Int × Int × List ByteArray)} (h : apOk a hs = true) : scrI (lB a).length hs (-1) = true := by
  unfold apOk at h
  rw [Bool.and_eq_true] at h
  unfold scB at h
  rw [Bool.and_eq_true] at h
  exact h.1.1
/-- the statement's comparison -/
theorem kept_most {a : ByteArray} {hs : List (Int × Int × List ByteArray)} (h : apOk a hs = true) (hf : fewB [a, apS a hs] = true) :
    keptI hs ((lB a).length : Int) ≤ keptI ((diffT a (apS a hs)).map castH) ((lB a).length : Int) := by
  have h1 := apOk_scr h
  have h2 := scrI_nat (by omega) h1
  have h3 : scrI (lB a).length ((diffT a (apS a hs)).map castH) (-1) = true := by
    rw [diffT_few hf]
    exact scrI_of (m := 0) (by omega) (diff_back _ _).2.1
  rw [kept_left (t := 0) _ h1 (by omega) (Nat.zero_le _), kept_left (t := 0) _ h3 (by omega) (Nat.zero_le _), nat_cast, diffT_few hf, apOk_lines h]
  have := shortest (lB a) (natH hs) h2.1
  unfold apR
  omega
theorem ap_sizes {a : ByteArray} {hs : List (Int × Int × List ByteArray)} (ha : a.size ≤ 1000) (h1 : hs.length ≤ 20) (h2 : ∀ h ∈ hs, h.2.2.length ≤ 20 ∧ ∀ x ∈ h.2.2, x.size ≤ 1000) :
    (apR a hs).length ≤ 100000 ∧ (catB (apR a hs)).size ≤ 100000000 ∧ ∀ x ∈ apR a hs, x.size ≤ 100000 := by
  have hx : ∀ x ∈ apR a hs, x.size ≤ 1000 := by
    intro x hx
    rcases apR_mem hx with h | ⟨g, hg, hx⟩
    · have := lB_size h; omega
    · exact (h2 g hg).2 x hx
  have hl : (apR a hs).length ≤ (lB a).length * ((natH hs).length + 1) + (natH hs).length * 20 := apl_len _ _ _ _ (by
    intro h hh
    unfold natH at hh
    obtain ⟨g, hg, rfl⟩ := List.mem_map.1 hh
    exact (h2 g hg).1)
  have hn : (natH hs).length ≤ 20 := by unfold natH; rw [List.length_map]; exact h1
  have hb := lB_len a
  have m1 : (lB a).length * ((natH hs).length + 1) ≤ 1000 * 21 := Nat.mul_le_mul (by omega) (by omega)
  have hc := catB_size hx
  have m2 : (apR a hs).length * 1000 ≤ 21400 * 1000 := Nat.mul_le_mul_right _ (by omega)
  exact ⟨by omega, by omega, fun x h => by have := hx x h; omega⟩

end Go.Proofs.YtfhkmmicdbblnaaDoor

