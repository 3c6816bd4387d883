/-
  The walk of the reference's first.
-/
import Derived.Test.YtfhkmmicdbblnaaDoorE3
import Derived.Test.YtfhkmmicdbblnaaDoorL4
import Derived.Test.YtfhkmmicdbblnaaDoorM6
namespace Go.Proofs.YtfhkmmicdbblnaaDoor
set_option linter.unusedSimpArgs false
set_option linter.unusedVariables false
open Go.RowKit

theorem str_eqb {u v : ByteArray} (h : u ≠ v) : (u.toList == v.toList) = false := by
  rw [beq_eq_false_iff_ne]
  intro e
  rw [Lib.toList_data, Lib.toList_data] at e
  exact h (dT_inj e)
theorem str_eqt (u : ByteArray) : (u.toList == u.toList) = true := by simp
set_option maxHeartbeats 2000000 in
set_option maxRecDepth 100000 in
theorem first_any (A B : Option Addr) (c d : Nat) (xs ys : List ByteArray) (g i k x y : Nat) (w : World) (h : RT w A c xs) (hb : RT w B d ys) (ht : TAB w g xs ys 0) (hf : FirstP xs ys i k x y) (ha : xs.length ≤ 900) (hl : ys.length ≤ 900) :
    Calls Tryd.prog 45 #[.slice A xs.length c, .slice B ys.length d, .slice (some ⟨g, 0, none⟩) (xs.length + 1) (xs.length + 1), .int .i64 i, .int .i64 k] w fun e w' => e = .returned (.tuple #[.int .i64 x, .int .i64 y]) ∧ Below w.heap.size w w' := by
  have h1 := h.1
  have h2 := h.2.1
  have k1 := hb.1
  have k2 := hb.2.1
  have HA := Lib.hid h
  have HB := Lib.hid hb
  have HT := Lib.hid ht
  obtain ⟨f1, f2, f3, f4, f5, f6⟩ := hf
  have HF := Lib.hid f5
  have HN := Lib.hid f6
  clear h hb ht f5 f6
  go_enter Tryd.func45, Tryd.ntmps45
  go_wp2_with fail
  go_loopw [12] (fun v wr => ∃ p : Nat, i ≤ p ∧ p ≤ x ∧ v = .int .i64 p ∧ Hid (Below w.heap.size w wr)) (fun v _ => x + 1 - (intOf v).toNat)
  case atStart => exact ⟨i, Nat.le_refl _, f1, rfl, Lib.hid (Below.refl _ _)⟩
  case round =>
    obtain ⟨p, p1, p2, rfl, HBW⟩ := hrel
    have p3 : p < xs.length := by omega
    go_wp2_with fail
    go_loopw [13] (fun v wr => ∃ q : Nat, k ≤ q ∧ q ≤ ys.length ∧ (p = x → q ≤ y) ∧ v = .int .i64 q ∧ Hid (Below w.heap.size w wr)) (fun v _ => ys.length - (intOf v).toNat)
    case atStart => exact ⟨k, Nat.le_refl _, by omega, fun _ => f2, rfl, HBW⟩
    case round =>
      clear HBW
      obtain ⟨q, q1, q2, q3, rfl, HBW⟩ := hrel
      by_cases hlt : q < ys.length
      · obtain ⟨u, hu⟩ : ∃ u, xs[p]? = some u := ⟨_, List.getElem?_eq_getElem p3⟩
        obtain ⟨v, hv⟩ : ∃ v, ys[q]? = some v := ⟨_, List.getElem?_eq_getElem hlt⟩
        obtain ⟨b1, o1, rfl, hb1, hc1⟩ := (HA.out.below HBW.out).2.2 (by omega)
        obtain ⟨b2, o2, rfl, hb2, hc2⟩ := (HB.out.below HBW.out).2.2 (by omega)
        have x1 := hc1 p u hu
        have x2 := hc2 q v hv
        obtain ⟨r1, t1, t2⟩ := (HT.out.below HBW.out).at_ (j := p + 1) (y := q + 1) (by omega) (by omega)
        obtain ⟨r2, t3, t4⟩ := (HT.out.below HBW.out).at_ (j := i) (y := k) (by omega) (by omega)
        have l1 := lcs_le_len (xs.drop (p + 1)) (ys.drop (q + 1))
        rw [List.length_drop] at l1
        have HU := Lib.hid hu
        have HV := Lib.hid hv
        clear hc1 hc2 hb1 hb2 hu hv
        by_cases hit : p = x ∧ q = y
        · obtain ⟨rfl, rfl⟩ := hit
          obtain ⟨u', e1, e2, e3⟩ := HF.out
          obtain rfl : u = u' := by have := HU.out; rw [this] at e1; cases e1; rfl
          obtain rfl : v = u := by have := HV.out; rw [this] at e2; cases e2; rfl
          have he := str_eqt v
          have hd : (((lcs (xs.drop (p + 1)) (ys.drop (q + 1)) : Nat) : Int) + 1 == ((lcs (xs.drop i) (ys.drop k) : Nat) : Int)) = true := by rw [beq_iff_eq]; omega
          clear e1 e2 e3 q3 HF HN
          generalize lcs (xs.drop (p + 1)) (ys.drop (q + 1)) = z1 at *
          generalize lcs (xs.drop i) (ys.drop k) = z2 at *
          go_wp2_with fail
          go_quiet (fail)
          go_wp2_with fail
          go_ret2
          exact ⟨rfl, below_drewN HBW.out _⟩
        · have hno := HN.out p q p1 q1 (by by_cases e : p = x; exact .inr ⟨e, by have := q3 e; by_cases e2 : q = y; exact absurd ⟨e, e2⟩ hit; omega⟩; exact .inl (by omega))
          have HQ : Hid (p = x → q + 1 ≤ y) := Lib.hid (fun e => by have := q3 e; by_cases e2 : q = y; exact absurd ⟨e, e2⟩ hit; omega)
          by_cases e : u = v
          · subst e
            have he := str_eqt u
            have hd : (((lcs (xs.drop (p + 1)) (ys.drop (q + 1)) : Nat) : Int) + 1 == ((lcs (xs.drop i) (ys.drop k) : Nat) : Int)) = false := by
              rw [beq_eq_false_iff_ne]
              intro e
              exact hno ⟨u, HU.out, HV.out, by omega⟩
            clear hno hit q3
            generalize lcs (xs.drop (p + 1)) (ys.drop (q + 1)) = z1 at *
            generalize lcs (xs.drop i) (ys.drop k) = z2 at *
            go_wp2_with fail
            go_quiet (fail)
            go_wp2_with fail
            go_roundw
            case rel => exact ⟨q + 1, by omega, by omega, HQ.out, by go_num, Lib.hid (below_drewN HBW.out _)⟩
            case measure => simp [intOf]; omega
          · have he := str_eqb e
            clear hno hit q3 e
            generalize lcs (xs.drop (p + 1)) (ys.drop (q + 1)) = z1 at *
            generalize lcs (xs.drop i) (ys.drop k) = z2 at *
            go_wp2_with fail
            go_quiet (fail)
            go_wp2_with fail
            go_roundw
            case rel => exact ⟨q + 1, by omega, by omega, HQ.out, by go_num, Lib.hid (below_drewN HBW.out _)⟩
            case measure => simp [intOf]; omega
      · obtain rfl : q = ys.length := by omega
        have hpx : p + 1 ≤ x := by by_cases e : p = x; have := q3 e; omega; omega
        clear q3
        go_wp2_with fail
        go_roundw
        case rel => exact ⟨p + 1, by omega, hpx, by go_num, HBW⟩
        case measure => simp [intOf]; omega
end Go.Proofs.YtfhkmmicdbblnaaDoor

