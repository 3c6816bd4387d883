/-
  The walks of awake and long.
-/
import Derived.Test.YtfhkmmicdbblnaaDoorL6
namespace Go.Proofs.YtfhkmmicdbblnaaDoor
set_option linter.unusedSimpArgs false
set_option linter.unusedVariables false
open Go.RowKit

theorem aw_diff : diffT ⟨#[97, 10, 98, 10, 99, 10]⟩ ⟨#[97, 10, 120, 10, 99, 10]⟩ = [(1, 2, [⟨#[120, 10]⟩])] := by decide +kernel
theorem aw_err : dvE [⟨#[97, 10, 98, 10, 99, 10]⟩, ⟨#[97, 10, 120, 10, 99, 10]⟩] = 0 := by decide +kernel
/-- the fields of one hunk -/
theorem RF.hunk {w : World} {A : Option Addr} {c : Nat} {hs : List (Nat × Nat × List ByteArray)} (h : RF w A c 3 (hs.map hkF)) {j : Nat} {x : Nat × Nat × List ByteArray} (hx : hs[j]? = some x) :
    ∃ b o C n, A = some ⟨b, o, none⟩ ∧ b < w.heap.size ∧ w.cell? ⟨b, o + j * 3, none⟩ = some (.int .i64 (x.1 : Int)) ∧ w.cell? ⟨b, o + j * 3 + 1, none⟩ = some (.int .i64 (x.2.1 : Int)) ∧ w.cell? ⟨b, o + j * 3 + 2, none⟩ = some (.slice C x.2.2.length n) ∧ RT w C n x.2.2 := by
  obtain ⟨b, o, e, hb, hc⟩ := h.2.2 (by rw [List.length_map]; have := (List.getElem?_eq_some_iff.1 hx).1; omega)
  have hj : (hs.map hkF)[j]? = some (hkF x) := by rw [List.getElem?_map, hx]; rfl
  obtain ⟨u0, h0, e0⟩ := hc j _ hj 0 _ rfl
  obtain ⟨u1, h1, e1⟩ := hc j _ hj 1 _ rfl
  obtain ⟨u2, h2, C, n, e2, hr, _⟩ := hc j _ hj 2 _ rfl
  refine ⟨b, o, C, n, e, hb, ?_, ?_, ?_, hr.rt⟩
  · rw [Nat.add_zero] at h0; rw [h0, e0]
  · rw [h1, e1]
  · rw [h2, e2, List.length_map]

set_option maxHeartbeats 1000000 in
theorem awake_any (w : World) : Calls Tryd.prog 8 #[] w fun e w' => e = .returned (.bool true) ∧ Below w.heap.size w w' := by
  have HD : Hid (∀ W, Calls Tryd.prog 9 #[.string ⟨#[97, 10, 98, 10, 99, 10]⟩, .string ⟨#[97, 10, 120, 10, 99, 10]⟩] W fun e w' => ∃ A c, e = .returned (.tuple #[.slice A 1 c, .int .i64 0]) ∧ RF w' A c 3 ([(1, 2, [⟨#[120, 10]⟩])].map hkF) ∧ Below W.heap.size W w') := Lib.hid (fun W => by
    have h := diff_any ⟨#[97, 10, 98, 10, 99, 10]⟩ ⟨#[97, 10, 120, 10, 99, 10]⟩ W (by decide) (by decide)
    rw [aw_diff, aw_err] at h
    exact h)
  go_enter Tryd.func8, Tryd.ntmps8
  go_wp2_with (go_at_call 9; refine (HD.out _).mono ?_; rintro e w1 ⟨A, c, rfl, rf, bl⟩; have HB := Lib.hid bl; obtain ⟨b, o, C, n, rfl, hb, x0, x1, x2, r⟩ := rf.hunk (j := 0) rfl; rw [Nat.zero_mul, Nat.add_zero] at x0 x1 x2; have y0 : w1.cell? ⟨b, o, none⟩ = some (.int .i64 1) := x0; have y1 : w1.cell? ⟨b, o + 1, none⟩ = some (.int .i64 2) := x1; have y2 : w1.cell? ⟨b, o + 2, none⟩ = some (.slice C 1 n) := x2; obtain ⟨b2, o2, rfl, hb2, hc⟩ := r.2.2 (by decide); have y3 : w1.cell? ⟨b2, o2, none⟩ = some (.string ⟨#[120, 10]⟩) := hc 0 _ rfl; have s1 : 1 ≤ n := r.1; have s2 := r.2.1; have s3 : 1 ≤ c := rf.1; have s4 := rf.2.1; clear rf bl x0 x1 x2 r hc)
  go_ret
  exact ⟨rfl, HB.out⟩

/-- some text is too long for the statements -/
def longB (ts : List ByteArray) : Bool := ts.any fun s => decide (1000 < s.size) || decide ((420 : Int) < Lib.countByte s.data.toList 10)
theorem long_no {ts : List ByteArray} (h : longB ts = false) : ∀ t ∈ ts, t.size ≤ 1000 := by
  intro t ht
  unfold longB at h
  rw [List.any_eq_false] at h
  have := h t ht
  simp only [Bool.or_eq_true, decide_eq_true_eq, not_or] at this
  omega
theorem long_yes {ts : List ByteArray} {t : ByteArray} (h : t ∈ ts) (hl : (decide (1000 < t.size) || decide ((420 : Int) < Lib.countByte t.data.toList 10)) = true) : longB ts = true := by
  unfold longB
  rw [List.any_eq_true]
  exact ⟨t, h, hl⟩
set_option maxHeartbeats 1000000 in
theorem long_any (A : Option Addr) (c : Nat) (ts : List ByteArray) (w : World) (h : RT w A c ts) :
    Calls Tryd.prog 7 #[.slice A ts.length c] w fun e w' => e = .returned (.bool (longB ts)) ∧ w = w' := by
  have h1 := h.1
  have h2 := h.2.1
  have HR := Lib.hid h
  clear h
  go_enter Tryd.func7, Tryd.ntmps7
  go_wp2_with fail
  go_loop [7] (fun i => ∃ k : Nat, k ≤ ts.length ∧ i = .int .i64 k ∧ Hid (longB (ts.take k) = false)) (fun i => ts.length - (intOf i).toNat)
  case atStart => exact ⟨0, Nat.zero_le _, rfl, Lib.hid rfl⟩
  case round =>
    obtain ⟨k, hk, rfl, HL⟩ := hrel
    by_cases hlt : k < ts.length
    · obtain ⟨x, hx⟩ : ∃ x, ts[k]? = some x := ⟨_, List.getElem?_eq_getElem hlt⟩
      obtain ⟨b1, o1, rfl, hb1, hc1⟩ := HR.out.2.2 (by omega)
      have hcx := hc1 k x hx
      have HM := Lib.hid (List.mem_of_getElem? hx)
      have HT : Hid (ts.take (k + 1) = ts.take k ++ [x]) := Lib.hid (by rw [List.take_add_one, hx]; rfl)
      have HCN := Lib.hid (fun W => Tryd.strings_Count_one x 10 W)
      clear hc1 hx hb1
      by_cases hs : 1000 < x.size
      · have HY : Hid (longB ts = true) := Lib.hid (long_yes HM.out (by simp [hs]))
        have hsI : (1000 : Int) < (x.size : Int) := by omega
        go_wp2_with fail
        go_ret
        exact ⟨ret_bool HY.out.symm, rfl⟩
      · have hsI : ¬ (1000 : Int) < (x.size : Int) := by omega
        by_cases hq : (420 : Int) < Lib.countByte x.data.toList 10
        · have HY : Hid (longB ts = true) := Lib.hid (long_yes HM.out (by simp [hq]))
          go_wp2_with (go_at_call 23; refine (HCN.out _).mono ?_; rintro e w' ⟨rfl, rfl⟩)
          go_ret
          exact ⟨ret_bool HY.out.symm, rfl⟩
        · have HN : Hid (longB (ts.take (k + 1)) = false) := Lib.hid (by
            have := HL.out
            unfold longB at this ⊢
            rw [HT.out, List.any_append, this]
            simp only [List.any_cons, List.any_nil, Bool.or_false, Bool.false_or]
            rw [decide_eq_false hs, decide_eq_false hq]
            rfl)
          go_wp2_with (go_at_call 23; refine (HCN.out _).mono ?_; rintro e w' ⟨rfl, rfl⟩)
          go_round
          case rel => exact ⟨k + 1, by omega, by go_num, HN⟩
          case measure => simp [intOf]; omega
    · obtain rfl : k = ts.length := by omega
      have HN : Hid (longB ts = false) := Lib.hid (by have := HL.out; rw [List.take_length] at this; exact this)
      go_wp2_with fail
      go_ret
      exact ⟨ret_bool HN.out.symm, rfl⟩
end Go.Proofs.YtfhkmmicdbblnaaDoor

