/-
  PathNeighbours returns true.
-/
import Derived.Test.YtpiecifdjfleaaaDoorPathCompares
namespace Go.Proofs.YtpiecifdjfleaaaDoor
set_option linter.unusedSimpArgs false
set_option linter.unusedVariables false
open Go.RowKit
open Pm

/-- what Under answers, and its error -/
def underV (s p : ByteArray) : Bool := dirOk s.data.toList && pathOk p.data.toList && underB (compsB s) (compsB p)
def underE (s p : ByteArray) : Int := if dirOk s.data.toList = true ∧ pathOk p.data.toList = true then 0 else 20
/-- what Compare answers, and its error -/
def cmpV (a b : ByteArray) : Int := if pathOk a.data.toList = true ∧ pathOk b.data.toList = true then pcmp a.data.toList b.data.toList else 0
def cmpE (a b : ByteArray) : Int := if pathOk a.data.toList = true ∧ pathOk b.data.toList = true then 0 else 20

theorem under_any (s p : ByteArray) (w : World) (hs : s.size ≤ 1000000) (hp : p.size ≤ 1000000) (hm : ML w) :
    Calls Tryd.prog 20 #[.string s, .string p] w fun e w' => e = .returned (.tuple #[.bool (underV s p), .int .i64 (underE s p)]) ∧ Below w.heap.size w w' := by
  unfold underV underE
  cases hd : dirOk s.data.toList with
  | false => exact (under_no s p w hs hp hm (.inl hd)).mono fun e w' ⟨he, hb⟩ => ⟨by rw [he]; rfl, hb⟩
  | true =>
    cases hv : pathOk p.data.toList with
    | false => exact (under_no s p w hs hp hm (.inr hv)).mono fun e w' ⟨he, hb⟩ => ⟨by rw [he]; rfl, hb⟩
    | true => exact (under_yes s p w hs hp hm hd hv).mono fun e w' ⟨he, hb⟩ => ⟨by rw [he]; rfl, hb⟩
theorem compare_any (a b : ByteArray) (w : World) (hs : a.size ≤ 1000000) (hp : b.size ≤ 1000000) :
    Calls Tryd.prog 16 #[.string a, .string b] w fun e w' => e = .returned (.tuple #[.int .i64 (cmpV a b), .int .i64 (cmpE a b)]) ∧ Below w.heap.size w w' := by
  unfold cmpV cmpE
  cases hd : pathOk a.data.toList with
  | false => exact (compare_no a b w hs hp (.inl hd)).mono fun e w' ⟨he, hw⟩ => ⟨by rw [he]; rfl, hw ▸ Below.refl _ _⟩
  | true =>
    cases hv : pathOk b.data.toList with
    | false => exact (compare_no a b w hs hp (.inr hv)).mono fun e w' ⟨he, hw⟩ => ⟨by rw [he]; rfl, hw ▸ Below.refl _ _⟩
    | true => exact (compare_yes a b w hs hp hd hv).mono fun e w' ⟨he, hb⟩ => ⟨by rw [he]; rfl, hb⟩
theorem cmpV_range (a b : ByteArray) : -1 ≤ cmpV a b ∧ cmpV a b ≤ 1 := by
  unfold cmpV
  split
  · rcases pcmp_range a.data.toList b.data.toList with h | h | h <;> omega
  · decide
theorem underE_range (a b : ByteArray) : 0 ≤ underE a b ∧ underE a b ≤ 20 := by unfold underE; split <;> decide
theorem cmpE_range (a b : ByteArray) : 0 ≤ cmpE a b ∧ cmpE a b ≤ 20 := by unfold cmpE; split <;> decide

theorem neighbours (d a b c : ByteArray) (h1 : underE d a = 0) (h2 : underE d c = 0) (h3 : cmpE a b = 0) (h4 : cmpE b c = 0)
    (x : underV d a = true) (y : underV d c = true) (p : cmpV a b ≤ 0) (q : cmpV b c ≤ 0) : underV d b = true ∧ underE d b = 0 := by
  unfold underV at x y ⊢
  simp only [Bool.and_eq_true] at x y ⊢
  obtain ⟨⟨hd, ha⟩, ux⟩ := x
  obtain ⟨⟨_, hc⟩, uy⟩ := y
  have hb : pathOk b.data.toList = true := by
    unfold cmpE at h3
    split at h3
    · rename_i h; exact h.2
    · cases h3
  unfold cmpV at p q
  rw [if_pos ⟨ha, hb⟩, pcmp_comps ha hb] at p
  rw [if_pos ⟨hb, hc⟩, pcmp_comps hb hc] at q
  unfold underB at ux uy ⊢
  rw [decide_eq_true_iff] at ux uy ⊢
  generalize compsB d = D at *
  generalize compsB a = X at *
  generalize compsB b = Y at *
  generalize compsB c = Z at *
  have ex : dat X = dat D ++ (dat X).drop D.length := by
    conv => lhs; rw [← List.take_append_drop D.length (dat X)]
    rw [← dat_take, ux.2]
  have ez : dat Z = dat D ++ (dat Z).drop D.length := by
    conv => lhs; rw [← List.take_append_drop D.length (dat Z)]
    rw [← dat_take, uy.2]
  rw [ex] at p
  rw [ez] at q
  have hne : (dat X).drop D.length ≠ [] := by
    intro e
    have := congrArg List.length e
    rw [List.length_drop, dat_len, List.length_nil] at this
    omega
  obtain ⟨e, he, hy⟩ := ccmp_between (dat D) _ _ _ hne p q
  have hlen : D.length < Y.length := by
    have := congrArg List.length hy
    rw [List.length_append, dat_len, dat_len] at this
    have : 0 < e.length := List.length_pos_iff.2 he
    omega
  refine ⟨⟨⟨hd, hb⟩, hlen, ?_⟩, ?_⟩
  · refine dat_inj ?_
    rw [dat_take, hy, List.take_left' (dat_len D)]
  · unfold underE
    rw [if_pos ⟨hd, hb⟩]

set_option maxHeartbeats 8000000 in
set_option maxRecDepth 100000 in
theorem pathNeighbours_short (d a b c : ByteArray) (w : World) (hd : d.size ≤ 400) (ha : a.size ≤ 400) (hb : b.size ≤ 400) (hc : c.size ≤ 400) (hm : ML w) :
    Calls Tryd.prog 6 #[.string d, .string a, .string b, .string c] w fun e w' => e = .returned (.bool true) ∧ Below w.heap.size w w' := by
  have HM := Lib.hid hm
  clear hm
  have r1 := underE_range d a
  have r2 := underE_range d c
  have r3 := cmpE_range a b
  have r4 := cmpE_range b c
  have r5 := cmpV_range a b
  have r6 := cmpV_range b c
  have r7 := underE_range d b
  have HN := Lib.hid (neighbours d a b c)
  go_enter Tryd.func6, Tryd.ntmps6
  go_wp2_with (go_at_call 10; refine (long_any _ _ (by omega)).mono ?_; rintro e w' ⟨rfl, rfl⟩)
  refine (under_any d a _ (by omega) (by omega) HM.out).mono ?_
  rintro e w1 ⟨rfl, hb1⟩
  go_wp2_with fail
  refine (under_any d c _ (by omega) (by omega) (HM.out.below hb1)).mono ?_
  rintro e w2 ⟨rfl, hb2⟩
  have HB2 := Lib.hid (hb1.trans (hb2.mono hb1.size))
  clear hb1 hb2
  go_wp2_with fail
  refine (compare_any a b _ (by omega) (by omega)).mono ?_
  rintro e w3 ⟨rfl, hb3⟩
  have HB3 := Lib.hid (HB2.out.trans (hb3.mono HB2.out.size))
  clear hb3
  go_wp2_with fail
  refine (compare_any b c _ (by omega) (by omega)).mono ?_
  rintro e w4 ⟨rfl, hb4⟩
  have HB4 := Lib.hid (HB3.out.trans (hb4.mono HB3.out.size))
  clear hb4
  have HU := Lib.hid (under_any d b w4 (by omega) (by omega) (HM.out.below HB4.out))
  go_wp2_with (first
    | (go_at_call 11; refine (awake_any _).mono ?_; rintro e w6 ⟨rfl, hbl⟩)
    | (go_at_call 20; refine HU.out.mono ?_; rintro e w5 ⟨rfl, hb5⟩))
  all_goals first
    | (go_ret; exact ⟨rfl, HB4.out.trans (hbl.mono HB4.out.size)⟩)
    | (go_ret; exact ⟨rfl, (HB4.out.trans (hb5.mono HB4.out.size)).trans (hbl.mono (HB4.out.trans (hb5.mono HB4.out.size)).size)⟩)
    | (exfalso
       have hq : cmpV a b ≤ 0 ∧ cmpV b c ≤ 0 := by assumption
       obtain ⟨k1, k2⟩ := HN.out (by assumption) (by assumption) (by assumption) (by assumption) (by assumption) (by assumption) hq.1 hq.2
       first
         | exact absurd k1 (by assumption)
         | exact absurd k2 (by assumption))

set_option maxHeartbeats 4000000 in
set_option maxRecDepth 100000 in
theorem pathNeighbours_long (d a b c : ByteArray) (w : World) (hd : d.size ≤ 9223372036854775807) (ha : a.size ≤ 9223372036854775807) (hb : b.size ≤ 9223372036854775807) (hc : c.size ≤ 9223372036854775807)
    (hl : 400 < d.size ∨ 400 < a.size ∨ 400 < b.size ∨ 400 < c.size) :
    Calls Tryd.prog 6 #[.string d, .string a, .string b, .string c] w fun e w' => e = .returned (.bool true) ∧ Below w.heap.size w w' := by
  rcases hl with h | h | h | h <;>
  · go_enter Tryd.func6, Tryd.ntmps6
    go_wp2_with (first
      | (go_at_call 10; refine (long_any _ _ (by omega)).mono ?_; rintro e w' ⟨rfl, rfl⟩)
      | (go_at_call 11; refine (awake_any _).mono ?_; rintro e w' ⟨rfl, hbl⟩))
    all_goals (go_ret; exact ⟨rfl, hbl⟩)

theorem pathNeighbours_any (d a b c : ByteArray) (w : World) (hd : d.size ≤ maxLen) (ha : a.size ≤ maxLen) (hb : b.size ≤ maxLen) (hc : c.size ≤ maxLen) (hsh : w.ShapedOpen Tryd.prog) :
    Calls Tryd.prog 6 #[.string d, .string a, .string b, .string c] w fun e w' => e = .returned (.bool true) ∧ Below w.heap.size w w' := by
  unfold maxLen at hd ha hb hc
  by_cases hl : 400 < d.size ∨ 400 < a.size ∨ 400 < b.size ∨ 400 < c.size
  · exact pathNeighbours_long d a b c w hd ha hb hc hl
  · exact pathNeighbours_short d a b c w (by omega) (by omega) (by omega) (by omega) (ML.of hsh)
end Go.Proofs.YtpiecifdjfleaaaDoor
