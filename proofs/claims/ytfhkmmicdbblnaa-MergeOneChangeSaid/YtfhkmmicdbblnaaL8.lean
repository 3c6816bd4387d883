/-
  The walk of the program's isScript.
-/
import Derived.Test.YtfhkmmicdbblnaaL7
import Derived.Test.YtfhkmmicdbblnaaD8
namespace Go.Proofs.Ytfhkmmicdbblnaa
set_option linter.unusedSimpArgs false
set_option linter.unusedVariables false
open Go.RowKit

/-- a hunk as it comes in, as fields -/
def hkI (h : Int × Int × List ByteArray) : List Fld := [.val (.int .i64 h.1), .val (.int .i64 h.2.1), .row (h.2.2.map Value.string)]
theorem RF.hunkI {w : World} {A : Option Addr} {c : Nat} {hs : List (Int × Int × List ByteArray)} (h : RF w A c 3 (hs.map hkI)) {j : Nat} {x : Int × Int × List ByteArray} (hx : hs[j]? = some x) :
    ∃ b o C n, A = some ⟨b, o, none⟩ ∧ b < w.heap.size ∧ w.cell? ⟨b, o + j * 3, none⟩ = some (.int .i64 x.1) ∧ w.cell? ⟨b, o + j * 3 + 1, none⟩ = some (.int .i64 x.2.1) ∧ w.cell? ⟨b, o + j * 3 + 2, none⟩ = some (.slice C x.2.2.length n) ∧ RT w C n x.2.2 := by
  obtain ⟨b, o, e, hb, hc⟩ := h.2.2 (by rw [List.length_map]; have := (List.getElem?_eq_some_iff.1 hx).1; omega)
  have hj : (hs.map hkI)[j]? = some (hkI x) := by rw [List.getElem?_map, hx]; rfl
  obtain ⟨u0, h0, e0⟩ := hc j _ hj 0 _ rfl
  obtain ⟨u1, h1, e1⟩ := hc j _ hj 1 _ rfl
  obtain ⟨u2, h2, C, n, e2, hr, _⟩ := hc j _ hj 2 _ rfl
  refine ⟨b, o, C, n, e, hb, ?_, ?_, ?_, hr.rt⟩
  · rw [Nat.add_zero] at h0; rw [h0, e0]
  · rw [h1, e1]
  · rw [h2, e2, List.length_map]
def castH (h : Nat × Nat × List ByteArray) : Int × Int × List ByteArray := ((h.1 : Int), (h.2.1 : Int), h.2.2)
theorem cast_hk (hs : List (Nat × Nat × List ByteArray)) : hs.map hkF = (hs.map castH).map hkI := by
  rw [List.map_map]
  rfl
/-- a line of a script -/
def lnB (x : ByteArray) : Bool := isLn x.data.toList
theorem ix_line : ∀ (l : List UInt8), l ≠ [] → (isLn l = false ↔ 0 ≤ Lib.indexByte l 10 ∧ Lib.indexByte l 10 < (l.length : Int) - 1)
  | [], h => absurd rfl h
  | c :: l, _ => by
    have h1 : ∀ (m : List UInt8), m ≠ [] → isLn m = m.dropLast.all (· != 10) := by
      intro m hm
      unfold isLn
      cases m with
      | nil => exact absurd rfl hm
      | cons c l => rfl
    have hg := Lib.indexByte_ge l 10
    by_cases e : c = 10
    · subst e
      have hix : Lib.indexByte (10 :: l) 10 = 0 := by unfold Lib.indexByte; rw [if_pos (by decide)]
      rw [hix, h1 _ (by simp)]
      cases l with
      | nil => simp
      | cons d l => simp <;> omega
    · have hstep : Lib.indexByte (c :: l) 10 = if Lib.indexByte l 10 = -1 then -1 else Lib.indexByte l 10 + 1 := by
        conv => lhs; unfold Lib.indexByte
        rw [if_neg (by simpa using e)]
        by_cases hk : Lib.indexByte l 10 = -1
        · rw [if_pos (by simpa using hk), if_pos hk]
        · rw [if_neg (by simpa using hk), if_neg hk]
      cases l with
      | nil =>
        rw [hstep, h1 _ (by simp), show Lib.indexByte ([] : List UInt8) 10 = -1 from rfl]
        simp
      | cons d l =>
        have ih := ix_line (d :: l) (by simp)
        rw [hstep, h1 _ (by simp), List.dropLast_cons_of_ne_nil (by simp), List.all_cons, ← h1 (d :: l) (by simp)]
        have hcb : (c != 10) = true := by simpa using e
        rw [hcb, Bool.true_and, ih]
        simp only [List.length_cons]
        by_cases hk : Lib.indexByte (d :: l) 10 = -1
        · rw [if_pos hk, hk]; omega
        · rw [if_neg hk]; omega
theorem lnB_empty {x : ByteArray} (h : ¬ 0 < x.size) : lnB x = false := by
  unfold lnB
  rw [bytes_nil (by omega)]
  rfl
theorem lnB_ix {x : ByteArray} (h : 0 < x.size) : lnB x = false ↔ 0 ≤ Lib.indexByte x.data.toList 10 ∧ Lib.indexByte x.data.toList 10 < (x.size : Int) - 1 := by
  unfold lnB
  rw [Lib.size_eq]
  refine ix_line _ (fun e => ?_)
  rw [Lib.size_eq, e] at h
  exact Nat.lt_irrefl 0 h
/-- the hunks are a script for n lines -/
def scB (n : Nat) (hs : List (Int × Int × List ByteArray)) (s : Int) : Bool := scrI n hs s && hs.all (fun h => h.2.2.all lnB)
theorem sc_cons {n : Nat} {h : Int × Int × List ByteArray} {hs : List (Int × Int × List ByteArray)} {s : Int} : scB n (h :: hs) s = (decide (s < h.1 ∧ h.1 ≤ h.2.1 ∧ h.2.1 ≤ n ∧ (h.1 = h.2.1 → h.2.2 ≠ [])) && (h.2.2.all lnB && scB n hs h.2.1)) := by
  unfold scB
  show ((decide _ && scrI n hs h.2.1) && (h.2.2.all lnB && hs.all _)) = _
  cases decide (s < h.1 ∧ h.1 ≤ h.2.1 ∧ h.2.1 ≤ n ∧ (h.1 = h.2.1 → h.2.2 ≠ [])) <;> cases scrI n hs h.2.1 <;> cases h.2.2.all lnB <;> simp

set_option maxHeartbeats 2000000 in
theorem isScript_any (n : Nat) (A : Option Addr) (c : Nat) (hs : List (Int × Int × List ByteArray)) (w : World) (h : RF w A c 3 (hs.map hkI)) (hz : ∀ h ∈ hs, ∀ x ∈ h.2.2, x.size ≤ 100000) :
    Calls Try.prog 33 #[.int .i64 (n : Int), .slice A hs.length c] w fun e w' => e = .returned (.bool (scB n hs (-1))) ∧ Below w.heap.size w w' := by
  have h1 := h.1
  have h2 := h.2.1
  rw [List.length_map] at h1
  have HR := Lib.hid h
  have HZ := Lib.hid hz
  have HST : Hid (scB n hs (-1) = scB n (hs.drop 0) (-1)) := Lib.hid rfl
  clear h hz
  go_enter Try.func33, Try.ntmps33
  go_wp2_with fail
  go_loopw [5, 13] (fun sv i wr => ∃ (k : Nat) (s : Int), k ≤ hs.length ∧ i = .int .i64 k ∧ sv = .int .i64 s ∧ Hid (scB n hs (-1) = scB n (hs.drop k) s) ∧ Hid (Below w.heap.size w wr)) (fun _ i _ => hs.length - (intOf i).toNat)
  case atStart => exact ⟨0, -1, Nat.zero_le _, rfl, rfl, HST, Lib.hid (Below.refl _ _)⟩
  case round =>
    obtain ⟨k, s, hk, rfl, rfl, HS, HB⟩ := hrel
    have hbs := HB.out.size
    by_cases hlt : k < hs.length
    · obtain ⟨⟨f, t, L⟩, hx⟩ : ∃ x, hs[k]? = some x := ⟨_, List.getElem?_eq_getElem hlt⟩
      obtain ⟨b, o, C, m, rfl, hb1, x0, x1, x2, r⟩ := (HR.out.below HB.out).hunkI hx
      simp only at x0 x1 x2 r
      have hdrop : hs.drop k = (f, t, L) :: hs.drop (k + 1) := by
        obtain ⟨q1, q2⟩ := List.getElem?_eq_some_iff.1 hx
        rw [List.drop_eq_getElem_cons q1, q2]
      have HLZ := Lib.hid (fun x hx' => HZ.out (f, t, L) (List.mem_of_getElem? hx) x hx')
      have HRT := Lib.hid r
      have r1 := r.1
      have r2 := r.2.1
      clear hx r hb1
      by_cases c1 : f ≤ s
      · have HBAD : Hid (scB n hs (-1) = false) := Lib.hid (by rw [HS.out, hdrop, sc_cons, decide_eq_false (fun hh => by have := hh.1; simp only at this; omega), Bool.false_and])
        clear hdrop
        go_wp2_with fail
        go_ret
        exact ⟨ret_bool HBAD.out.symm, HB.out.alloc hbs _⟩
      · by_cases c2 : t < f
        · have HBAD : Hid (scB n hs (-1) = false) := Lib.hid (by rw [HS.out, hdrop, sc_cons, decide_eq_false (fun hh => by have := hh.2.1; simp only at this; omega), Bool.false_and])
          clear hdrop
          go_wp2_with fail
          go_ret
          exact ⟨ret_bool HBAD.out.symm, HB.out.alloc hbs _⟩
        · by_cases c3 : (n : Int) < t
          · have HBAD : Hid (scB n hs (-1) = false) := Lib.hid (by rw [HS.out, hdrop, sc_cons, decide_eq_false (fun hh => by have := hh.2.2.1; simp only at this; omega), Bool.false_and])
            clear hdrop
            go_wp2_with fail
            go_ret
            exact ⟨ret_bool HBAD.out.symm, HB.out.alloc hbs _⟩
          · by_cases c4 : f = t ∧ L = []
            · obtain ⟨rfl, rfl⟩ := c4
              have HBAD : Hid (scB n hs (-1) = false) := Lib.hid (by rw [HS.out, hdrop, sc_cons, decide_eq_false (fun hh => hh.2.2.2 rfl rfl), Bool.false_and])
              have hff : (f == f) = true := by simp
              simp only [List.length_nil] at x2
              clear hdrop
              go_wp2_with fail
              go_ret
              exact ⟨ret_bool HBAD.out.symm, HB.out.alloc hbs _⟩
            · have HNX : Hid (scB n hs (-1) = (L.all lnB && scB n (hs.drop (k + 1)) t)) := Lib.hid (by
                rw [HS.out, hdrop, sc_cons, decide_eq_true, Bool.true_and]
                exact ⟨by simp only; omega, by simp only; omega, by simp only; omega, fun e1 e2 => c4 ⟨e1, e2⟩⟩)
              clear hdrop
              by_cases c5 : f = t
              · subst c5
                have hff : (f == f) = true := by simp
                have hL : ((L.length : Int) == 0) = false := by
                  rw [beq_eq_false_iff_ne]
                  intro e
                  exact c4 ⟨rfl, List.eq_nil_of_length_eq_zero (by omega)⟩
                clear c4
                go_wp2_with fail
                go_loop [52] (fun j => ∃ i : Nat, i ≤ L.length ∧ j = .int .i64 i ∧ Hid ((L.take i).all lnB = true)) (fun j => L.length - (intOf j).toNat)
                case atStart => exact ⟨0, Nat.zero_le _, rfl, Lib.hid rfl⟩
                case round =>
                  obtain ⟨i, hi, rfl, HA⟩ := hrel
                  by_cases hit : i < L.length
                  · obtain ⟨x, hx⟩ : ∃ x, L[i]? = some x := ⟨_, List.getElem?_eq_getElem hit⟩
                    obtain ⟨b3, o3, rfl, hb3, hc3⟩ := (HRT.out.below (below_alloc wr (.cells #[.int .i64 f, .int .i64 f, .slice C L.length m] 45))).2.2 (by omega)
                    have hcx := hc3 i x hx
                    have hxz := HLZ.out x (List.mem_of_getElem? hx)
                    have HIX := Lib.hid (fun W => indexByte_any x 10 W)
                    rw [show ((10 : Int).toNat.toUInt8) = (10 : UInt8) from rfl] at HIX
                    have HX := Lib.hid hx
                    clear hc3 hx hb3
                    by_cases hz0 : 0 < x.size
                    · have hne := bytes_ne hz0
                      have hix := lnB_ix hz0
                      cases hl : lnB x with
                      | true =>
                        have HN : Hid ((L.take (i + 1)).all lnB = true) := Lib.hid (by rw [all_step HX.out, HA.out, hl]; rfl)
                        have hno : ¬ (0 ≤ Lib.indexByte x.data.toList 10 ∧ Lib.indexByte x.data.toList 10 < (x.size : Int) - 1) := fun hh => by rw [hix.2 hh] at hl; cases hl
                        generalize Lib.indexByte x.data.toList 10 = e at *
                        clear hix hl
                        by_cases he : 0 ≤ e
                        · have he2 : ¬ e < (x.size : Int) - 1 := fun h2 => hno ⟨he, h2⟩
                          clear hno
                          go_wp2_with (go_at_call 45; refine (HIX.out _).mono ?_; rintro e w' ⟨rfl, rfl⟩)
                          go_round
                          case rel => exact ⟨i + 1, by omega, by go_num, HN⟩
                          case measure => simp [intOf]; omega
                        · clear hno
                          go_wp2_with (go_at_call 45; refine (HIX.out _).mono ?_; rintro e w' ⟨rfl, rfl⟩)
                          go_round
                          case rel => exact ⟨i + 1, by omega, by go_num, HN⟩
                          case measure => simp [intOf]; omega
                      | false =>
                        obtain ⟨he, he2⟩ := hix.1 hl
                        have HBAD : Hid (scB n hs (-1) = false) := Lib.hid (by rw [HNX.out, all_miss HX.out hl, Bool.false_and])
                        clear hix hl
                        generalize Lib.indexByte x.data.toList 10 = e at *
                        go_wp2_with (go_at_call 45; refine (HIX.out _).mono ?_; rintro e w' ⟨rfl, rfl⟩)
                        go_ret
                        exact ⟨ret_bool HBAD.out.symm, HB.out.alloc hbs _⟩
                    · have HBAD : Hid (scB n hs (-1) = false) := Lib.hid (by rw [HNX.out, all_miss HX.out (lnB_empty hz0), Bool.false_and])
                      have hem : x.toList.isEmpty = true := by rw [Lib.toList_data, bytes_nil (by omega)]; rfl
                      generalize Lib.indexByte x.data.toList 10 = e at *
                      go_wp2_with (go_at_call 45; refine (HIX.out _).mono ?_; rintro e w' ⟨rfl, rfl⟩)
                      go_ret
                      exact ⟨ret_bool HBAD.out.symm, HB.out.alloc hbs _⟩
                  · obtain rfl : i = L.length := by omega
                    have HN : Hid (scB n hs (-1) = scB n (hs.drop (k + 1)) f) := Lib.hid (by
                      have := HA.out
                      rw [List.take_length] at this
                      rw [HNX.out, this, Bool.true_and])
                    go_wp2_with fail
                    go_roundw
                    case rel => exact ⟨k + 1, f, by omega, by go_num, rfl, HN, Lib.hid (HB.out.alloc hbs _)⟩
                    case measure => simp [intOf]; omega
              · have hff : (f == t) = false := by simpa using c5
                clear c4 c5
                go_wp2_with fail
                go_loop [52] (fun j => ∃ i : Nat, i ≤ L.length ∧ j = .int .i64 i ∧ Hid ((L.take i).all lnB = true)) (fun j => L.length - (intOf j).toNat)
                case atStart => exact ⟨0, Nat.zero_le _, rfl, Lib.hid rfl⟩
                case round =>
                  obtain ⟨i, hi, rfl, HA⟩ := hrel
                  by_cases hit : i < L.length
                  · obtain ⟨x, hx⟩ : ∃ x, L[i]? = some x := ⟨_, List.getElem?_eq_getElem hit⟩
                    obtain ⟨b3, o3, rfl, hb3, hc3⟩ := (HRT.out.below (below_alloc wr (.cells #[.int .i64 f, .int .i64 t, .slice C L.length m] 45))).2.2 (by omega)
                    have hcx := hc3 i x hx
                    have hxz := HLZ.out x (List.mem_of_getElem? hx)
                    have HIX := Lib.hid (fun W => indexByte_any x 10 W)
                    rw [show ((10 : Int).toNat.toUInt8) = (10 : UInt8) from rfl] at HIX
                    have HX := Lib.hid hx
                    clear hc3 hx hb3
                    by_cases hz0 : 0 < x.size
                    · have hne := bytes_ne hz0
                      have hix := lnB_ix hz0
                      cases hl : lnB x with
                      | true =>
                        have HN : Hid ((L.take (i + 1)).all lnB = true) := Lib.hid (by rw [all_step HX.out, HA.out, hl]; rfl)
                        have hno : ¬ (0 ≤ Lib.indexByte x.data.toList 10 ∧ Lib.indexByte x.data.toList 10 < (x.size : Int) - 1) := fun hh => by rw [hix.2 hh] at hl; cases hl
                        generalize Lib.indexByte x.data.toList 10 = e at *
                        clear hix hl
                        by_cases he : 0 ≤ e
                        · have he2 : ¬ e < (x.size : Int) - 1 := fun h2 => hno ⟨he, h2⟩
                          clear hno
                          go_wp2_with (go_at_call 45; refine (HIX.out _).mono ?_; rintro e w' ⟨rfl, rfl⟩)
                          go_round
                          case rel => exact ⟨i + 1, by omega, by go_num, HN⟩
                          case measure => simp [intOf]; omega
                        · clear hno
                          go_wp2_with (go_at_call 45; refine (HIX.out _).mono ?_; rintro e w' ⟨rfl, rfl⟩)
                          go_round
                          case rel => exact ⟨i + 1, by omega, by go_num, HN⟩
                          case measure => simp [intOf]; omega
                      | false =>
                        obtain ⟨he, he2⟩ := hix.1 hl
                        have HBAD : Hid (scB n hs (-1) = false) := Lib.hid (by rw [HNX.out, all_miss HX.out hl, Bool.false_and])
                        clear hix hl
                        generalize Lib.indexByte x.data.toList 10 = e at *
                        go_wp2_with (go_at_call 45; refine (HIX.out _).mono ?_; rintro e w' ⟨rfl, rfl⟩)
                        go_ret
                        exact ⟨ret_bool HBAD.out.symm, HB.out.alloc hbs _⟩
                    · have HBAD : Hid (scB n hs (-1) = false) := Lib.hid (by rw [HNX.out, all_miss HX.out (lnB_empty hz0), Bool.false_and])
                      have hem : x.toList.isEmpty = true := by rw [Lib.toList_data, bytes_nil (by omega)]; rfl
                      generalize Lib.indexByte x.data.toList 10 = e at *
                      go_wp2_with (go_at_call 45; refine (HIX.out _).mono ?_; rintro e w' ⟨rfl, rfl⟩)
                      go_ret
                      exact ⟨ret_bool HBAD.out.symm, HB.out.alloc hbs _⟩
                  · obtain rfl : i = L.length := by omega
                    have HN : Hid (scB n hs (-1) = scB n (hs.drop (k + 1)) t) := Lib.hid (by
                      have := HA.out
                      rw [List.take_length] at this
                      rw [HNX.out, this, Bool.true_and])
                    go_wp2_with fail
                    go_roundw
                    case rel => exact ⟨k + 1, t, by omega, by go_num, rfl, HN, Lib.hid (HB.out.alloc hbs _)⟩
                    case measure => simp [intOf]; omega
    · obtain rfl : k = hs.length := by omega
      have HT : Hid (scB n hs (-1) = true) := Lib.hid (by rw [HS.out, List.drop_length]; rfl)
      go_wp2_with fail
      go_ret
      exact ⟨ret_bool HT.out.symm, HB.out⟩
end Go.Proofs.Ytfhkmmicdbblnaa

