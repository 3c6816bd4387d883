/-
  The walk of the program's lengths.
-/
import Derived.Test.YtfhkmmicdbblnaaDoorL3
import Derived.Test.YtfhkmmicdbblnaaDoorM4
import Derived.BigRegion
import Derived.StillTailTactics
namespace Go.Proofs.YtfhkmmicdbblnaaDoor
set_option linter.unusedSimpArgs false
set_option linter.unusedVariables false
open Go.RowKit

theorem make_rows (n : Nat) (hn : n ≤ 900) (w : World) : (Instr.makeSlice 51 (.int .i64 ((n : Int) + 1)) (.int .i64 ((n : Int) + 1))).run Tryd.prog w = .ok (.slice (some ⟨w.heap.size, 0, none⟩) (n + 1) (n + 1)) (w.alloc (.cells (madeCells #[.slice none 0 0] (n + 1)) 53)) :=
  Go.run_make_row' 51 53 (.slice none 0 0) 24 Tryd.underlying51 intsInfo rfl .i64 .i64 (n + 1) (by omega) (by omega) w
theorem wrap_of {x : Int} {n : Nat} (h : x = (n : Int)) (hn : n ≤ 9223372036854775807) : wrap64 x = (n : Int) := by
  subst h
  unfold wrap64
  omega
theorem mul_le {n m : Nat} (ha : n ≤ 900) (hb : m ≤ 900) : (n + 1) * (m + 1) ≤ 1000000 := Nat.le_trans (Nat.mul_le_mul (show n + 1 ≤ 901 by omega) (show m + 1 ≤ 901 by omega)) (by decide)
/-- the rows that are stored so far -/
def rowV (g n m i : Nat) : Value := .slice (some ⟨g, i * (m + 1), none⟩) (m + 1) ((n + 1) * (m + 1) - i * (m + 1))
def rowsV (g n m k : Nat) : List Value := (List.range k).map (rowV g n m) ++ List.replicate (n + 1 - k) (.slice none 0 0)
/-- what the first loop keeps -/
def LR (w : World) (n m k : Nat) (wr : World) : Prop :=
  OV wr w.heap.size 3 (.slice (some ⟨w.heap.size, 0, none⟩) ((n + 1) * (m + 1)) ((n + 1) * (m + 1))) (List.replicate ((n + 1) * (m + 1)) (.int .i64 0)) ∧
  OV wr w.heap.size 53 (.slice (some ⟨w.heap.size + 1, 0, none⟩) (n + 1) (n + 1)) (rowsV w.heap.size n m k) ∧ Below w.heap.size w wr ∧ w.heap.size + 2 ≤ wr.heap.size
theorem LR.start (w : World) (n m : Nat) (hn : (n + 1) * (m + 1) ≤ 1000000) (hn2 : n ≤ 900) {T : Nat} (hT : T = (n + 1) * (m + 1)) : LR w n m 0 ((w.alloc (.cells (madeCells #[.int .i64 0] T) 3)).alloc (.cells (madeCells #[.slice none 0 0] (n + 1)) 53)) := by
  subst hT
  refine ⟨(OV.made w _ _ _ _ (Nat.le_refl _) (by omega) rfl).below (below_alloc _ _), ?_, below_alloc2 _ _ _, by simp⟩
  unfold rowsV
  rw [List.range_zero, List.map_nil, List.nil_append, Nat.sub_zero]
  exact OV.made _ _ _ _ _ (by simp) (by omega) (by simp)
theorem rows_at {g n m k : Nat} (hk : k ≤ n) : (rowsV g n m k)[k]? = some (.slice none 0 0) ∧ (rowsV g n m k).set k (rowV g n m k) = rowsV g n m (k + 1) := by
  have e : n + 1 - k = (n + 1 - (k + 1)) + 1 := by omega
  unfold rowsV
  constructor
  · rw [List.getElem?_append_right (by simp), List.length_map, List.length_range, Nat.sub_self, e]
    rfl
  · rw [List.set_append_right _ _ (by simp), List.length_map, List.length_range, Nat.sub_self, e, List.replicate_succ, List.set_cons_zero, List.range_succ, List.map_append, List.append_assoc]
    rfl
theorem LR.cell {w : World} {n m k : Nat} {wr : World} (h : LR w n m k wr) (hk : k ≤ n) : wr.cell? ⟨w.heap.size + 1, k, none⟩ = some (.slice none 0 0) ∧ wr.frozen? ⟨w.heap.size + 1, k, none⟩ = false := h.2.1.cell (rows_at hk).1
theorem LR.step {w : World} {n m k : Nat} {wr : World} (h : LR w n m k wr) (hk : k ≤ n) : LR w n m (k + 1) (wr.setCell ⟨w.heap.size + 1, k, none⟩ (rowV w.heap.size n m k)) := by
  refine ⟨h.1.other (by simp [Value.ownBlock]) _, ?_, h.2.2.1.setCell (p := ⟨w.heap.size + 1, k, none⟩) (Nat.le_succ _) _, by simpa [World.setCell] using h.2.2.2⟩
  rw [← (rows_at hk).2]
  exact h.2.1.set k _
theorem LR.table {w : World} {xs ys : List Int} {wr : World} (h : LR w xs.length ys.length (xs.length + 1) wr) : TI wr w.heap.size (w.heap.size + 1) xs ys xs.length ys.length := by
  refine TI.start (fun i hi hi2 => ?_) (fun p hp => ?_) (fun p => ?_) (Nat.lt_succ_self _) (by have := h.2.2.2; omega)
  · refine (h.2.1.cell (k := i) ?_).1
    unfold rowsV
    rw [List.getElem?_append_left (by simpa using hi), List.getElem?_map, List.getElem?_range hi]
    rfl
  · refine (h.1.cell (k := p) ?_).1
    rw [List.getElem?_replicate, if_pos hp]
  · obtain ⟨cur, hh, _⟩ := h.1.form
    exact frozen_of_row wr _ p cur _ hh

set_option maxHeartbeats 1000000 in
set_option maxRecDepth 100000 in
theorem lengths_any (A B : Option Addr) (c d : Nat) (xs ys : List Int) (w : World) (h : RC w A c (xs.map iV)) (k : RC w B d (ys.map iV)) (ha : xs.length ≤ 900) (hb : ys.length ≤ 900) :
    Calls Tryd.prog 43 #[.slice A xs.length c, .slice B ys.length d] w fun e w' => e = .returned (.slice (some ⟨w.heap.size + 1, 0, none⟩) (xs.length + 1) (xs.length + 1)) ∧ TB w' w.heap.size (w.heap.size + 1) xs ys ∧ Below w.heap.size w w' := by
  have h1 := h.ints.1
  have h2 := h.ints.2.1
  have k1 := k.ints.1
  have k2 := k.ints.2.1
  have HA := Lib.hid h
  have HB := Lib.hid k
  have hTm := mul_le ha hb
  obtain ⟨T, hT⟩ : ∃ T, T = (xs.length + 1) * (ys.length + 1) := ⟨_, rfl⟩
  have HST := Lib.hid (LR.start w xs.length ys.length hTm ha hT)
  rw [← hT] at hTm
  have hmk := make_ints T hTm
  have hmk2 := make_rows xs.length ha
  have HT := Lib.hid hT
  have hT2 : wrap64 (((xs.length : Int) + 1) * ((ys.length : Int) + 1)) = (T : Int) := wrap_of (by rw [hT]; simp) (by omega)
  clear h k hT
  go_enter Tryd.func43, Tryd.ntmps43
  go_wp2_with fail
  clear hT2 hmk hmk2
  go_loopw [26] (fun i wr => ∃ k : Nat, k ≤ xs.length + 1 ∧ i = .int .i64 k ∧ Hid (LR w xs.length ys.length k wr)) (fun i _ => xs.length + 1 - (intOf i).toNat)
  case atStart => exact ⟨0, Nat.zero_le _, rfl, HST⟩
  case round =>
    obtain ⟨k, hk, rfl, HR⟩ := hrel
    by_cases hlt : k ≤ xs.length
    · obtain ⟨y1, y2⟩ := HR.out.cell hlt
      obtain ⟨P, hP⟩ : ∃ P, P = k * (ys.length + 1) := ⟨_, rfl⟩
      obtain ⟨Q, hQ⟩ : ∃ Q, Q = (k + 1) * (ys.length + 1) := ⟨_, rfl⟩
      have hQT : Q ≤ T := by rw [hQ, HT.out]; exact place_lt hlt
      have hPQ : Q = P + (ys.length + 1) := by rw [hQ, hP, Nat.succ_mul]
      have hPQ2 : P < Q := by omega
      have HE1 : Hid (wrap64 ((k : Int) * ((ys.length : Int) + 1)) = (P : Int)) := Lib.hid (wrap_of (by rw [hP]; simp) (by omega))
      have HE2 : Hid (wrap64 (((k : Int) + 1) * ((ys.length : Int) + 1)) = (Q : Int)) := Lib.hid (wrap_of (by rw [hQ]; simp) (by omega))
      have HV : Hid (Value.slice (some ⟨w.heap.size, P, none⟩) (Q - P) (T - P) = rowV w.heap.size xs.length ys.length k) := Lib.hid (by
        unfold rowV
        rw [← hP, ← HT.out, show Q - P = ys.length + 1 by omega])
      clear hP hQ hPQ HST
      have hltI : (k : Int) < (xs.length : Int) + 1 := by omega
      have e1 := HE1.out
      have e2 := HE2.out
      go_wp2_with fail
      clear e1 e2
      go_roundw
      case rel => exact ⟨k + 1, by omega, by go_num, Lib.hid (by rw [HV.out]; exact HR.out.step hlt)⟩
      case measure => simp [intOf]; omega
    · obtain rfl : k = xs.length + 1 := by omega
      have HTI := Lib.hid HR.out.table
      have HBL := Lib.hid HR.out.2.2.1
      clear hTm HST HR HT hlt hk
      rw [show ((xs.length + 1 : Nat) : Int) = (xs.length : Int) + 1 by omega]
      go_wp2_with fail
      go_loopw [9] (fun i w2 => ∃ k : Nat, k ≤ xs.length ∧ i = .int .i64 ((k : Int) - 1) ∧ Hid (TI w2 w.heap.size (w.heap.size + 1) xs ys k ys.length) ∧ Hid (Below w.heap.size w w2)) (fun i _ => (intOf i + 1).toNat)
      case atStart => exact ⟨xs.length, Nat.le_refl _, rfl, HTI, HBL⟩
      case round =>
        clear HTI HBL
        obtain ⟨k, hk, rfl, HTI, HBL⟩ := hrel
        rcases k with _ | k
        · go_wp2_with fail
          go_ret
          exact ⟨rfl, HTI.out.done, HBL.out⟩
        · rw [show (((k + 1 : Nat) : Int) - 1) = (k : Int) by omega]
          go_wp2_with fail
          go_loopw [10] (fun i w3 => ∃ l : Nat, l ≤ ys.length ∧ i = .int .i64 ((l : Int) - 1) ∧ Hid (TI w3 w.heap.size (w.heap.size + 1) xs ys (k + 1) l) ∧ Hid (Below w.heap.size w w3)) (fun i _ => (intOf i + 1).toNat)
          case atStart => exact ⟨ys.length, Nat.le_refl _, rfl, HTI, HBL⟩
          case round =>
            clear HTI HBL
            obtain ⟨l, hl, rfl, HTI, HBL⟩ := hrel
            rcases l with _ | l
            · go_wp2_with fail
              go_roundw
              case rel => exact ⟨k, by omega, rfl, Lib.hid HTI.out.row, HBL⟩
              case measure => simp [intOf]
            · rw [show (((l + 1 : Nat) : Int) - 1) = (l : Int) by omega]
              obtain ⟨u, hu⟩ : ∃ u, xs[k]? = some u := ⟨_, List.getElem?_eq_getElem (by omega)⟩
              obtain ⟨v, hv⟩ : ∃ v, ys[l]? = some v := ⟨_, List.getElem?_eq_getElem (by omega)⟩
              obtain ⟨b1, o1, rfl, hb1, hc1⟩ := (HA.out.below HBL.out).ints.2.2 (by omega)
              obtain ⟨b2, o2, rfl, hb2, hc2⟩ := (HB.out.below HBL.out).ints.2.2 (by omega)
              have x1 := hc1 k u hu
              have x2 := hc2 l v hv
              obtain ⟨r1, r2, r3, r4, r5, ⟨q, r6⟩, r7⟩ := HTI.out.reads (show l < ys.length by omega) (show k < xs.length by omega)
              have HLC := Lib.hid (lcs_at hu hv)
              have HPUT := Lib.hid (fun (q : Nat) (z : Int) => (HTI.out.below (below_drewN' wr q)).put (show l < ys.length by omega) (show k < xs.length by omega) (v := z))
              have b3 := lcs_le_len (xs.drop (k + 1)) (ys.drop (l + 1))
              have b4 := lcs_le_len (xs.drop (k + 1)) (ys.drop l)
              have b5 := lcs_le_len (xs.drop k) (ys.drop (l + 1))
              rw [List.length_drop] at b3 b4 b5
              have hkI : (k : Int) < xs.length := by omega
              have hlI : (l : Int) < ys.length := by omega
              generalize lcs (xs.drop (k + 1)) (ys.drop (l + 1)) = z1 at *
              generalize lcs (xs.drop (k + 1)) (ys.drop l) = z2 at *
              generalize lcs (xs.drop k) (ys.drop (l + 1)) = z3 at *
              generalize lcs (xs.drop k) (ys.drop l) = z4 at *
              generalize (xs.length + 1) * (ys.length + 1) - k * (ys.length + 1) = c1 at *
              generalize (xs.length + 1) * (ys.length + 1) - (k + 1) * (ys.length + 1) = c2 at *
              generalize k * (ys.length + 1) = p1 at *
              generalize (k + 1) * (ys.length + 1) = p2 at *
              clear hc1 hc2 hu hv hb1 hb2
              by_cases e : u = v
              · subst e
                have he : (u == u) = true := by simp
                rw [if_pos rfl] at HLC
                go_wp2_with fail
                go_quiet (fail)
                go_wp2_with fail
                go_region
                go_wp2_with fail
                go_roundw
                case rel => exact ⟨l, by omega, rfl, Lib.hid (HPUT.out _ _ (by rw [HLC.out]; omega)), Lib.hid ((below_drewN HBL.out _).setCell (p := ⟨w.heap.size, p1 + l, none⟩) (Nat.le_refl _) _)⟩
                case measure => simp [intOf]
              · have he : (u == v) = false := by simpa using e
                rw [if_neg e] at HLC
                go_wp2_with fail
                go_quiet (fail)
                go_wp2_with fail
                go_region
                go_wp2_with fail
                go_roundw
                case rel => exact ⟨l, by omega, rfl, Lib.hid (HPUT.out _ _ (by rw [HLC.out]; omega)), Lib.hid ((below_drewN HBL.out _).setCell (p := ⟨w.heap.size, p1 + l, none⟩) (Nat.le_refl _) _)⟩
                case measure => simp [intOf]
end Go.Proofs.YtfhkmmicdbblnaaDoor

