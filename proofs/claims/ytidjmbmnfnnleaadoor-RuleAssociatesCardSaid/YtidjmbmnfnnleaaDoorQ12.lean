/-
  The walks of Inside on patterns.
-/
import Derived.Test.YtidjmbmnfnnleaaDoorQ11
namespace Go.Proofs.YtidjmbmnfnnleaaDoor
set_option linter.unusedSimpArgs false
set_option linter.unusedVariables false
open Go.RowKit
open Pm

/-- numbers of parts that let a pattern with n parts lie within one with m parts -/
def lensIn (n m : Nat) (r t : Bool) : Bool := if t = true then !decide (n < m) && !(!r && decide (n = m)) else !r && decide (n = m)
def insideOk (g : ByteArray → ByteArray → Bool) (xs ys : List ByteArray) (r t : Bool) : Bool := lensIn xs.length ys.length r t && okOf g (xs.zip ys)
theorem lensIn_le {n m : Nat} {r t : Bool} (h : lensIn n m r t = true) : m ≤ n := by
  unfold lensIn at h
  cases t with
  | true =>
    simp only [if_true, Bool.and_eq_true, Bool.not_eq_true', decide_eq_false_iff_not] at h
    omega
  | false =>
    simp only [Bool.false_eq_true, if_false, Bool.and_eq_true, decide_eq_true_eq] at h
    omega

theorem int_facts (n m : Nat) : (n < m ∧ decide (n < m) = true ∧ ((n : Int) != (m : Int)) = true ∧ ((n : Int) == (m : Int)) = false) ∨ (n = m ∧ decide (n < m) = false ∧ ((n : Int) != (m : Int)) = false ∧ ((n : Int) == (m : Int)) = true) ∨ (m < n ∧ decide (n < m) = false ∧ ((n : Int) != (m : Int)) = true ∧ ((n : Int) == (m : Int)) = false) := by
  rcases Nat.lt_trichotomy n m with h | h | h
  · refine .inl ⟨h, decide_eq_true h, ?_, ?_⟩
    · rw [bne_iff_ne]; omega
    · rw [beq_eq_false_iff_ne]; omega
  · subst h
    exact .inr (.inl ⟨rfl, by simp, by simp, by simp⟩)
  · refine .inr (.inr ⟨h, decide_eq_false (by omega), ?_, ?_⟩)
    · rw [bne_iff_ne]; omega
    · rw [beq_eq_false_iff_ne]; omega

set_option maxHeartbeats 4000000 in
theorem inside_bad (A B : Option Addr) (c d : Nat) (xs ys : List ByteArray) (r t : Bool) (w : World) (h : RT w A c xs) (k : RT w B d ys) (hb : lensIn xs.length ys.length r t = false) :
    Calls Tryd.prog 101 #[.agg #[.slice A xs.length c, .bool r], .agg #[.slice B ys.length d, .bool t]] w fun e w' => e = .returned (.bool false) ∧ Below w.heap.size w w' := by
  have h1 := h.1
  have h2 := h.2.1
  have k1 := k.1
  have k2 := k.2.1
  have hx9 : xs.length ≤ 9223372036854775807 := by omega
  have hy9 : ys.length ≤ 9223372036854775807 := by omega
  clear h k h1 h2 k1 k2
  rcases int_facts xs.length ys.length with ⟨f0, f1, f2, f3⟩ | ⟨f0, f1, f2, f3⟩ | ⟨f0, f1, f2, f3⟩ <;> cases r <;> cases t <;>
  first
  | (exfalso; unfold lensIn at hb; (simp at hb <;> omega))
  | (clear hb f0
     go_enter Tryd.func101, Tryd.ntmps101
     go_wp2_with fail
     go_quiet (fail)
     go_wp2_with fail
     go_ret
     exact ⟨rfl, by repeat (first | exact below_alloc2 _ _ _ | apply Below.drew | apply below_drewN)⟩)

set_option maxHeartbeats 4000000 in
theorem inside_good (A B : Option Addr) (c d : Nat) (xs ys : List ByteArray) (r t : Bool) (w : World) (h : RT w A c xs) (k : RT w B d ys) (hg : lensIn xs.length ys.length r t = true)
    (hsx : ∀ x ∈ xs, x.size ≤ 9223372036854775807) (hsy : ∀ x ∈ ys, x.size ≤ 9223372036854775807) :
    Calls Tryd.prog 101 #[.agg #[.slice A xs.length c, .bool r], .agg #[.slice B ys.length d, .bool t]] w fun e w' => e = .returned (.bool (okOf insB (xs.zip ys))) ∧ Below w.heap.size w w' := by
  have h1 := h.1
  have h2 := h.2.1
  have k1 := k.1
  have k2 := k.2.1
  have hx9 : xs.length ≤ 9223372036854775807 := by omega
  have hy9 : ys.length ≤ 9223372036854775807 := by omega
  have hle := lensIn_le hg
  have HX := Lib.hid h
  have HY := Lib.hid k
  have HSX := Lib.hid hsx
  have HSY := Lib.hid hsy
  have HZL : Hid ((xs.zip ys).length = ys.length) := Lib.hid (by rw [List.length_zip]; omega)
  have HLE := Lib.hid hle
  clear h k h1 h2 k1 k2 hsx hsy hle
  rcases int_facts xs.length ys.length with ⟨f0, f1, f2, f3⟩ | ⟨f0, f1, f2, f3⟩ | ⟨f0, f1, f2, f3⟩ <;> cases r <;> cases t <;>
  first
  | (exfalso; unfold lensIn at hg; (simp at hg <;> omega))
  | (clear hg f0
     go_enter Tryd.func101, Tryd.ntmps101
     go_wp2_with fail
     go_quiet (fail)
     go_wp2_with fail
     go_loopw [50] (fun i wr => ∃ k : Nat, k ≤ ys.length ∧ i = .int .i64 k ∧ Hid (okOf insB ((xs.zip ys).take k) = true) ∧ Hid (Below w.heap.size w wr) ∧ wr.cell? ⟨w.heap.size, 0, none⟩ = some (.slice A xs.length c)) (fun i _ => ys.length - (intOf i).toNat)
     case atStart => exact ⟨0, Nat.zero_le _, rfl, Lib.hid rfl, Lib.hid (by repeat (first | exact below_alloc2 _ _ _ | apply Below.drew | apply below_drewN)), by simp [World.cell?_alloc_new]⟩
     case round =>
       obtain ⟨k, hk, rfl, HOK, HBL, hc0⟩ := hrel
       by_cases hlt : k < ys.length
       · obtain ⟨x, hx⟩ : ∃ x, xs[k]? = some x := ⟨_, List.getElem?_eq_getElem (by have := HLE.out; omega)⟩
         obtain ⟨y, hy⟩ : ∃ y, ys[k]? = some y := ⟨_, List.getElem?_eq_getElem hlt⟩
         obtain ⟨b1, o1, rfl, hb1, hc1⟩ := (HX.out.below HBL.out).2.2 (by have := HLE.out; omega)
         have hkx : k < xs.length := by have := HLE.out; omega
         obtain ⟨b2, o2, rfl, hb2, hc2⟩ := (HY.out.below HBL.out).2.2 (by omega)
         have hcx := hc1 k x hx
         have hcy := hc2 k y hy
         have hxz := HSX.out x (List.mem_of_getElem? hx)
         have hyz := HSY.out y (List.mem_of_getElem? hy)
         have HZ := Lib.hid (zip_get hx hy)
         clear hc1 hc2 hx hy hb1 hb2
         cases hi : insB x y with
         | true =>
           have HN := Lib.hid (ok_step (g := insB) HZ.out HOK.out hi)
           go_wp2_with (go_at_call 86; refine (partWithin_any x y _ hxz hyz).mono ?_; rintro e w1 ⟨rfl, hb⟩; have hc1 := (hb.cell (p := ⟨w.heap.size, 0, none⟩) (cell_lt hc0)).trans hc0)
           go_roundw
           case rel => exact ⟨k + 1, by omega, by go_num, HN, Lib.hid (HBL.out.trans (hb.mono HBL.out.size)), hc1⟩
           case measure => simp [intOf]; omega
         | false =>
           have HN := Lib.hid (ok_miss (g := insB) HZ.out hi)
           go_wp2_with (go_at_call 86; refine (partWithin_any x y _ hxz hyz).mono ?_; rintro e w1 ⟨rfl, hb⟩)
           go_ret
           exact ⟨ret_bool HN.out.symm, HBL.out.trans (hb.mono HBL.out.size)⟩
       · have HN : Hid (okOf insB (xs.zip ys) = true) := Lib.hid (by
           have := HOK.out
           rwa [List.take_of_length_le (by have := HZL.out; omega)] at this)
         go_wp2_with fail
         go_ret
         exact ⟨ret_bool HN.out.symm, HBL.out⟩)
theorem inside_any (A B : Option Addr) (c d : Nat) (xs ys : List ByteArray) (r t : Bool) (w : World) (h : RT w A c xs) (k : RT w B d ys)
    (hsx : ∀ x ∈ xs, x.size ≤ 9223372036854775807) (hsy : ∀ x ∈ ys, x.size ≤ 9223372036854775807) :
    Calls Tryd.prog 101 #[.agg #[.slice A xs.length c, .bool r], .agg #[.slice B ys.length d, .bool t]] w fun e w' => e = .returned (.bool (insideOk insB xs ys r t)) ∧ Below w.heap.size w w' := by
  unfold insideOk
  cases hl : lensIn xs.length ys.length r t with
  | true => exact inside_good A B c d xs ys r t w h k hl hsx hsy
  | false => exact inside_bad A B c d xs ys r t w h k hl
end Go.Proofs.YtidjmbmnfnnleaaDoor

