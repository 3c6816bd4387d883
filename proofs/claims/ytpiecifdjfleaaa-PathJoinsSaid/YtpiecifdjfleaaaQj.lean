/-
  Words for slices of texts, and the contracts that the plain seat wants (it has no Split).
-/
import Derived.Test.YtpiecifdjfleaaaPw2
import Derived.SliceStrings
import Derived.OpenShut
import Derived.ProofKit
namespace Go.Proofs.Ytpiecifdjfleaaa
set_option linter.unusedSimpArgs false
set_option linter.unusedVariables false
open Go.RowKit Go.ChangeShapes Go.WideShapes
open Pm

def mkB (l : List UInt8) : ByteArray := ⟨l.toArray⟩
theorem mkB_data (l : List UInt8) : (mkB l).data.toList = l := by simp [mkB]
theorem mkB_size (l : List UInt8) : (mkB l).size = l.length := by rw [Lib.size_eq, mkB_data]
theorem mkB_back (s : ByteArray) : mkB s.data.toList = s := Lib.mk_data s

/-- A slice of texts that lies in the world: address A, capacity c, the texts xs. -/
def RT (w : World) (A : Option Addr) (c : Nat) (xs : List ByteArray) : Prop :=
  xs.length ≤ c ∧ c ≤ 9223372036854775807 ∧ (0 < xs.length → ∃ b o, A = some ⟨b, o, none⟩ ∧ b < w.heap.size ∧ ∀ j x, xs[j]? = some x → w.cell? ⟨b, o + j, none⟩ = some (.string x))

theorem RT.nil (w : World) (A : Option Addr) (c : Nat) (h : c ≤ 9223372036854775807) : RT w A c [] := ⟨Nat.zero_le _, h, fun h => absurd h (Nat.lt_irrefl 0)⟩
theorem RT.below {w w' : World} {A : Option Addr} {c : Nat} {xs : List ByteArray} (h : RT w A c xs) (hb : Below w.heap.size w w') : RT w' A c xs :=
  ⟨h.1, h.2.1, fun h0 => by
    obtain ⟨b, o, e, hlt, hc⟩ := h.2.2 h0
    exact ⟨b, o, e, Nat.lt_of_lt_of_le hlt hb.size, fun j x hx => (hb.cell (p := ⟨b, o + j, none⟩) hlt).trans (hc j x hx)⟩⟩
theorem RT.take {w : World} {A : Option Addr} {c : Nat} {xs : List ByteArray} (h : RT w A c xs) (m : Nat) : RT w A c (xs.take m) :=
  ⟨by rw [List.length_take]; have := h.1; omega, h.2.1, fun h0 => by
    rw [List.length_take] at h0
    obtain ⟨b, o, e, hlt, hc⟩ := h.2.2 (by omega)
    refine ⟨b, o, e, hlt, fun j x hx => hc j x ?_⟩
    rw [List.getElem?_take] at hx
    split at hx
    · exact hx
    · cases hx⟩

theorem indexByte_any (s : ByteArray) (c : Int) (w : World) :
    Calls Try.prog 17 #[.string s, .int .u8 c] w fun e w' => e = .returned (.int .i64 (Lib.indexByte s.data.toList c.toNat.toUInt8)) ∧ w = w' :=
  (Try.strings_IndexByte s c w).mono fun _ _ ⟨he, hw⟩ => ⟨he, hw.symm⟩
theorem bytes_inj {a b : List ByteArray} (h : a.map (·.data.toList) = b.map (·.data.toList)) : a = b := by
  have e : ∀ l : List ByteArray, (l.map (·.data.toList)).map mkB = l := fun l => by
    rw [List.map_map]
    conv => rhs; rw [← List.map_id l]
    exact List.map_congr_left fun x _ => mkB_back x
  rw [← e a, ← e b, h]
theorem join_any (A : Option Addr) (c : Nat) (xs : List ByteArray) (sep : ByteArray) (w : World) (h : RT w A c xs) (hN : xs.length ≤ 100000) (hlen : (Lib.join (xs.map (·.data.toList)) sep.data.toList).length ≤ 100000000) :
    Calls Try.prog 18 #[.slice A xs.length c, .string sep] w fun e w' => e = .returned (.string (mkB (Lib.join (xs.map (·.data.toList)) sep.data.toList))) ∧ Below w.heap.size w w' := by
  by_cases h0 : 0 < xs.length
  · obtain ⟨b, o, rfl, hb, hc⟩ := h.2.2 h0
    exact Try.strings_Join b o c xs sep w hc hb (by omega) h.1 (by omega)
  · have : xs = [] := List.eq_nil_of_length_eq_zero (by omega)
    subst this
    exact (Try.strings_Join_none A c sep w).mono fun e w' ⟨he, hw⟩ => ⟨he, hw ▸ Below.refl _ _⟩

theorem getD_cells {xs : List ByteArray} {w : World} {b o : Nat} (h : ∀ j x, xs[j]? = some x → w.cell? ⟨b, o + j, none⟩ = some (.string x)) :
    ∀ j, j < xs.length → w.cell? ⟨b, o + j, none⟩ = some (.string (xs.getD j ByteArray.empty)) := fun j hj => by
  refine h j _ ?_
  rw [List.getD, List.getElem?_eq_getElem hj]
  rfl
theorem below_drewN' (w : World) (n : Nat) : Below w.heap.size w (w.drewN n) := below_drewN (Below.refl _ _) n
def letters : List UInt8 := [65, 66, 67, 68, 69, 70, 71, 72, 73, 74, 75, 76, 77, 78, 79, 80, 81, 82, 83, 84, 85, 86, 87, 88, 89, 90, 97, 98, 99, 100, 101, 102, 103, 104, 105, 106, 107, 108, 109, 110, 111, 112, 113, 114, 115, 116, 117, 118, 119, 120, 121, 122, 48, 49, 50, 51, 52, 53, 54, 55, 56, 57, 95, 46, 43, 45]
def letIdx (x : UInt8) : Int := Lib.indexByte letters x
theorem letIdx_all : (List.range 256).all (fun n => decide (letIdx n.toUInt8 < 0) == !isB n.toUInt8) = true := by decide +kernel
theorem letIdx_eq (x : UInt8) : decide (letIdx x < 0) = !isB x := by
  have h := List.all_eq_true.1 letIdx_all x.toNat (List.mem_range.2 x.toNat_lt)
  have e : x.toNat.toUInt8 = x := by simp
  rw [e] at h
  exact beq_iff_eq.1 h
theorem letIdx_lo (x : UInt8) : -1 ≤ letIdx x := Lib.indexByte_ge _ _
theorem letters_any (s : ByteArray) (hs : s.data.toList = letters) (x : UInt8) (w : World) :
    Calls Try.prog 17 #[.string s, .int .u8 (x.toNat : Int)] w fun e w' => e = .returned (.int .i64 (letIdx x)) ∧ w = w' := by
  have := indexByte_any s (x.toNat : Int) w
  rw [Lib.byte_back, hs] at this
  exact this

set_option maxHeartbeats 400000 in
theorem rcomponent_any (s : ByteArray) (w : World) (hs : s.size ≤ 9223372036854775807) :
    Calls Try.prog 9 #[.string s] w fun e w' => e = .returned (.bool (comp s.data.toList)) ∧ w = w' := by
  by_cases h0 : s.size = 0
  · have hl := bytes_nil h0
    have he : s.toList = [] := by rw [Lib.toList_data, hl]
    go_enter Try.func9, Try.ntmps9
    go_wp2_with fail
    go_ret
    rw [hl]
    exact ⟨rfl, rfl⟩
  have hpos : 0 < s.size := by omega
  have hne := bytes_ne hpos
  clear h0
  by_cases hd : (s[0].toNat : Int) = 46
  · have HC := Lib.hid (comp_dot hpos hd)
    go_enter Try.func9, Try.ntmps9
    go_wp2_with fail
    go_ret
    exact ⟨ret_bool HC.out.symm, rfl⟩
  · have HC := Lib.hid (comp_ne hpos hd)
    have hdb : ((s[0].toNat : Int) == 46) = false := by rw [beq_eq_false_iff_ne]; exact hd
    clear hd
    go_enter Try.func9, Try.ntmps9
    go_wp2_with fail
    go_loop [3] (fun i => ∃ k : Nat, k ≤ s.size ∧ i = .int .i64 k ∧ Hid ((s.data.toList.take k).all isB = true)) (fun i => s.size - (intOf i).toNat)
    case atStart => exact ⟨0, Nat.zero_le _, rfl, Lib.hid (by simp)⟩
    case round =>
      obtain ⟨k, hk, rfl, HA⟩ := hrel
      by_cases hlt : k < s.size
      · have HS := Lib.hid (comp_step s k hlt)
        have HL := Lib.hid (letIdx_eq s[k])
        by_cases hb : letIdx s[k] < 0
        · have HF := Lib.hid (show isB s[k] = false by
            have := HL.out
            rw [decide_eq_true hb] at this
            cases h : isB s[k] with
            | false => rfl
            | true => rw [h] at this; cases this)
          go_wp2_with (go_at_call 17; refine (letters_any _ rfl _ _).mono ?_; rintro e w' ⟨rfl, rfl⟩)
          go_ret
          refine ⟨ret_bool ?_, rfl⟩
          rw [HC.out]
          symm
          rw [Bool.eq_false_iff]
          intro h
          rw [List.all_eq_true] at h
          have := h s[k] (List.mem_of_getElem? (Lib.data_getElem? s k hlt))
          rw [HF.out] at this
          cases this
        · have HT := Lib.hid (show isB s[k] = true by
            have := HL.out
            rw [decide_eq_false hb] at this
            cases h : isB s[k] with
            | true => rfl
            | false => rw [h] at this; cases this)
          go_wp2_with (go_at_call 17; refine (letters_any _ rfl _ _).mono ?_; rintro e w' ⟨rfl, rfl⟩)
          go_round
          case rel => exact ⟨k + 1, by omega, by go_num, Lib.hid (by rw [HS.out, HA.out, show isBI (s[k].toNat : Int) = true from HT.out]; rfl)⟩
          case measure => simp [intOf]; omega
      · go_wp2_with fail
        go_ret
        refine ⟨ret_bool ?_, rfl⟩
        rw [HC.out, ← HA.out, List.take_of_length_le (by rw [← Lib.size_eq]; omega)]

theorem all_step {xs : List ByteArray} {k : Nat} {x : ByteArray} {p : ByteArray → Bool} (hx : xs[k]? = some x) : (xs.take (k + 1)).all p = ((xs.take k).all p && p x) := by
  rw [List.take_add_one, hx, List.all_append]
  simp
theorem all_miss {xs : List ByteArray} {k : Nat} {x : ByteArray} {p : ByteArray → Bool} (hx : xs[k]? = some x) (h : p x = false) : xs.all p = false := by
  rw [Bool.eq_false_iff]
  intro hh
  have := List.all_eq_true.1 hh x (List.mem_of_getElem? hx)
  rw [h] at this
  cases this

/-- two lists of texts, held one against the other -/
theorem take_eq_step {α : Type} {a b : List α} {k : Nat} {x y : α} (ha : a[k]? = some x) (hb : b[k]? = some y) (h : a.take k = b.take k) (e : x = y) : a.take (k + 1) = b.take (k + 1) := by
  rw [List.take_add_one, List.take_add_one, ha, hb, h, e]

set_option maxHeartbeats 1000000 in
theorem same_any (A B : Option Addr) (c d : Nat) (xs ys : List ByteArray) (w : World) (h : RT w A c xs) (k : RT w B d ys) :
    Calls Try.prog 11 #[.slice A xs.length c, .slice B ys.length d] w fun e w' => e = .returned (.bool (decide (xs = ys))) ∧ Below w.heap.size w w' := by
  have h1 := h.1
  have h2 := h.2.1
  have k1 := k.1
  have k2 := k.2.1
  have hx9 : xs.length ≤ 9223372036854775807 := by omega
  clear h1 h2 k1 k2
  have HX := Lib.hid h
  have HY := Lib.hid k
  clear h k
  by_cases hl : xs.length = ys.length
  · have hlB : ((xs.length : Int) != (ys.length : Int)) = false := by rw [hl]; simp
    have HL := Lib.hid hl
    clear hl
    go_enter Try.func11, Try.ntmps11
    go_wp2_with fail
    go_loopw [13] (fun i wr => ∃ k : Nat, k ≤ xs.length ∧ i = .int .i64 k ∧ Hid (xs.take k = ys.take k) ∧ Below w.heap.size w wr)
      (fun i _ => xs.length - (intOf i).toNat)
    case atStart => exact ⟨0, Nat.zero_le _, rfl, Lib.hid (by simp), Below.refl _ _⟩
    case round =>
      obtain ⟨k, hka, rfl, HK, hbel⟩ := hrel
      by_cases g1 : k < xs.length
      · have g2 : k < ys.length := by rw [← HL.out]; exact g1
        obtain ⟨x, hx⟩ : ∃ x, xs[k]? = some x := ⟨_, List.getElem?_eq_getElem g1⟩
        obtain ⟨y, hy⟩ : ∃ y, ys[k]? = some y := ⟨_, List.getElem?_eq_getElem g2⟩
        obtain ⟨b1, o1, rfl, hb1, hc1⟩ := (HX.out.below hbel).2.2 (by omega)
        obtain ⟨b2, o2, rfl, hb2, hc2⟩ := (HY.out.below hbel).2.2 (by omega)
        have hcx := hc1 k x hx
        have hcy := hc2 k y hy
        have HHX := Lib.hid hx
        have HHY := Lib.hid hy
        clear hc1 hc2 hx hy hb1 hb2
        by_cases he : x = y
        · have heB : (x.toList == y.toList) = true := by rw [he]; simp
          have HN := Lib.hid (take_eq_step HHX.out HHY.out HK.out he)
          clear he
          go_wp2_with fail
          go_quiet (fail)
          go_wp2_with fail
          go_roundw
          case rel => exact ⟨k + 1, by omega, by go_num, HN, by repeat (first | exact hbel | apply Below.drew | apply below_drewN)⟩
          case measure => simp [intOf]; omega
        · have heB : (x.toList == y.toList) = false := by
            rw [beq_eq_false_iff_ne, Lib.toList_data, Lib.toList_data]
            intro e
            refine he ?_
            rw [← mkB_back x, ← mkB_back y, e]
          have HN : Hid (decide (xs = ys) = false) := Lib.hid (by
            rw [decide_eq_false_iff_not]
            intro e
            subst e
            rw [HHX.out] at *
            exact he (Option.some.inj HHY.out))
          clear he
          go_wp2_with fail
          go_quiet (fail)
          go_wp2_with fail
          go_ret
          exact ⟨ret_bool HN.out.symm, by repeat (first | exact hbel | apply Below.drew | apply below_drewN)⟩
      · have HN : Hid (decide (xs = ys) = true) := Lib.hid (by
          rw [decide_eq_true_iff]
          have := HK.out
          rw [List.take_of_length_le (by omega), List.take_of_length_le (by rw [← HL.out]; omega)] at this
          exact this)
        go_wp2_with fail
        go_ret
        exact ⟨ret_bool HN.out.symm, hbel⟩
  · have hlB : ((xs.length : Int) != (ys.length : Int)) = true := by
      rw [bne_iff_ne]
      omega
    have HN : Hid (decide (xs = ys) = false) := Lib.hid (by
      rw [decide_eq_false_iff_not]
      intro e
      exact hl (by rw [e]))
    clear hl
    go_enter Try.func11, Try.ntmps11
    go_wp2_with fail
    go_ret
    exact ⟨ret_bool HN.out.symm, Below.refl _ _⟩
end Go.Proofs.Ytpiecifdjfleaaa
