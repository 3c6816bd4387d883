/-
  The walks of the reference's Compare and Under, of Under, and of the helper same.
-/
import Derived.Test.YtpiecifdjfleaaaDoorPc1
namespace Go.Proofs.YtpiecifdjfleaaaDoor
set_option linter.unusedSimpArgs false
set_option linter.unusedVariables false
open Go.RowKit
open Pm

def dat (xs : List ByteArray) : List (List UInt8) := xs.map (·.data.toList)
theorem dat_len (xs : List ByteArray) : (dat xs).length = xs.length := List.length_map _
theorem dat_get {xs : List ByteArray} {k : Nat} {x : ByteArray} (h : xs[k]? = some x) : (dat xs)[k]? = some x.data.toList := by simp [dat, h]
theorem dat_inj {a b : List ByteArray} (h : dat a = dat b) : a = b := bytes_inj h
theorem dat_take (xs : List ByteArray) (n : Nat) : dat (xs.take n) = (dat xs).take n := List.map_take

theorem cc_drop (a b : List (List UInt8)) (k : Nat) (x y : List UInt8) (ha : a[k]? = some x) (hb : b[k]? = some y) (h : ccmp a b = ccmp (a.drop k) (b.drop k)) :
    (Lib.compareBytes x y = 0 → ccmp a b = ccmp (a.drop (k + 1)) (b.drop (k + 1))) ∧ (Lib.compareBytes x y ≠ 0 → ccmp a b = Lib.compareBytes x y) := by
  obtain ⟨ha1, rfl⟩ := List.getElem?_eq_some_iff.1 ha
  obtain ⟨hb1, rfl⟩ := List.getElem?_eq_some_iff.1 hb
  rw [List.drop_eq_getElem_cons ha1, List.drop_eq_getElem_cons hb1] at h
  constructor
  · intro e
    rw [h, ccmp, if_pos e]
  · intro e
    rw [h, ccmp, if_neg e]
theorem cc_end (a b : List (List UInt8)) (k : Nat) (h : ccmp a b = ccmp (a.drop k) (b.drop k)) (hk : k = a.length ∨ k = b.length) (hka : k ≤ a.length) (hkb : k ≤ b.length) :
    ccmp a b = Lib.compareInt (a.length : Int) (b.length : Int) := by
  rw [h]
  unfold Lib.compareInt
  by_cases ea : k = a.length
  · have : a.drop k = [] := List.drop_of_length_le (by omega)
    rw [this]
    by_cases eb : k = b.length
    · have : b.drop k = [] := List.drop_of_length_le (by omega)
      rw [this, if_neg (by omega), if_neg (by omega)]
      rfl
    · rw [List.drop_eq_getElem_cons (show k < b.length by omega), if_pos (by omega)]
      rfl
  · have eb : k = b.length := by omega
    have : b.drop k = [] := List.drop_of_length_le (by omega)
    rw [this, List.drop_eq_getElem_cons (show k < a.length by omega), if_neg (by omega), if_pos (by omega)]
    rfl
theorem compareBytes_range : ∀ (a b : List UInt8), -1 ≤ Lib.compareBytes a b ∧ Lib.compareBytes a b ≤ 1
  | [], [] => by decide
  | [], _ :: _ => by simp [Lib.compareBytes]
  | _ :: _, [] => by simp [Lib.compareBytes]
  | x :: a, y :: b => by
    unfold Lib.compareBytes
    split
    · decide
    · split
      · decide
      · exact compareBytes_range a b
theorem ccmp_self (a : List (List UInt8)) : ccmp a a = 0 := by
  induction a with
  | nil => rfl
  | cons x a ih => rw [ccmp, if_pos (compareBytes_self x), ih]
theorem ccmp_zero {a b : List (List UInt8)} (h : ccmp a b = 0) : a = b := by
  induction a generalizing b with
  | nil => cases b with
    | nil => rfl
    | cons y b => simp [ccmp] at h
  | cons x a ih =>
    cases b with
    | nil => simp [ccmp] at h
    | cons y b =>
      unfold ccmp at h
      split at h
      · rename_i e
        rw [compareBytes_eq e, ih h]
      · rename_i e
        exact absurd h e

set_option maxHeartbeats 1000000 in
theorem rcompare_any (A B : Option Addr) (c d : Nat) (xs ys : List ByteArray) (w : World) (h : RT w A c xs) (k : RT w B d ys) :
    Calls Tryd.prog 17 #[.slice A xs.length c, .slice B ys.length d] w fun e w' => e = .returned (.int .i64 (ccmp (dat xs) (dat ys))) ∧ Below w.heap.size w w' := by
  have h1 := h.1
  have h2 := h.2.1
  have k1 := k.1
  have k2 := k.2.1
  have hx9 : xs.length ≤ 9223372036854775807 := by omega
  have hy9 : ys.length ≤ 9223372036854775807 := by omega
  clear h1 h2 k1 k2
  have HX := Lib.hid h
  have HY := Lib.hid k
  clear h k
  go_enter Tryd.func17, Tryd.ntmps17
  go_wp2_with fail
  go_loopw [5] (fun i wr => ∃ k : Nat, k ≤ xs.length ∧ k ≤ ys.length ∧ i = .int .i64 k ∧ Hid (ccmp (dat xs) (dat ys) = ccmp ((dat xs).drop k) ((dat ys).drop k)) ∧ Below w.heap.size w wr)
    (fun i _ => xs.length - (intOf i).toNat)
  case atStart => exact ⟨0, Nat.zero_le _, Nat.zero_le _, rfl, Lib.hid rfl, Below.refl _ _⟩
  case round =>
    obtain ⟨k, hka, hkb, rfl, HK, hbel⟩ := hrel
    by_cases hlt : k < xs.length ∧ k < ys.length
    · obtain ⟨g1, g2⟩ := hlt
      obtain ⟨x, hx⟩ : ∃ x, xs[k]? = some x := ⟨_, List.getElem?_eq_getElem g1⟩
      obtain ⟨y, hy⟩ : ∃ y, ys[k]? = some y := ⟨_, List.getElem?_eq_getElem g2⟩
      obtain ⟨b1, o1, rfl, hb1, hc1⟩ := (HX.out.below hbel).2.2 (by omega)
      obtain ⟨b2, o2, rfl, hb2, hc2⟩ := (HY.out.below hbel).2.2 (by omega)
      have hcx := hc1 k x hx
      have hcy := hc2 k y hy
      have HD := Lib.hid (cc_drop _ _ k _ _ (dat_get hx) (dat_get hy) HK.out)
      have hr := compareBytes_range x.data.toList y.data.toList
      clear hc1 hc2 hx hy hb1 hb2
      by_cases he : Lib.compareBytes x.data.toList y.data.toList = 0
      · have heB : (Lib.compareBytes x.data.toList y.data.toList != 0) = false := by rw [he]; rfl
        have HN := Lib.hid (HD.out.1 he)
        clear he
        go_wp2_with fail
        go_quiet ((go_at_call 34; exact quiet_left (compareB_any _ _ _)))
        go_wp2_with fail
        go_roundw
        case rel => exact ⟨k + 1, by omega, by omega, by go_num, HN, by repeat (first | exact hbel | apply Below.drew | apply below_drewN)⟩
        case measure => simp [intOf]; omega
      · have heB : (Lib.compareBytes x.data.toList y.data.toList != 0) = true := by rw [bne_iff_ne]; exact he
        have HN := Lib.hid (HD.out.2 he)
        clear he
        go_wp2_with fail
        go_quiet ((go_at_call 34; exact quiet_left (compareB_any _ _ _)))
        go_wp2_with fail
        go_ret
        exact ⟨ret_int HN.out.symm, by repeat (first | exact hbel | apply Below.drew | apply below_drewN)⟩
    · have HE := Lib.hid (cc_end _ _ k HK.out (by rw [dat_len, dat_len]; omega) (by rw [dat_len]; omega) (by rw [dat_len]; omega))
      by_cases gx : k < xs.length
      · have gy : ¬ k < ys.length := fun g => hlt ⟨gx, g⟩
        clear hlt
        have e1 : ¬ xs.length < ys.length := by omega
        have e2 : ys.length < xs.length := by omega
        go_wp2_with fail
        go_ret
        exact ⟨ret_int (by rw [HE.out, dat_len, dat_len]; unfold Lib.compareInt; rw [if_neg (by omega), if_pos (by omega)]), hbel⟩
      · clear hlt
        by_cases e1 : xs.length < ys.length
        · go_wp2_with fail
          go_ret
          exact ⟨ret_int (by rw [HE.out, dat_len, dat_len]; unfold Lib.compareInt; rw [if_pos (by omega)]), hbel⟩
        · have e2 : ¬ ys.length < xs.length := by omega
          go_wp2_with fail
          go_ret
          exact ⟨ret_int (by rw [HE.out, dat_len, dat_len]; unfold Lib.compareInt; rw [if_neg (by omega), if_neg (by omega)]), hbel⟩

/-- ys lies below xs -/
def underB (xs ys : List ByteArray) : Bool := decide (xs.length < ys.length ∧ ys.take xs.length = xs)

set_option maxHeartbeats 1000000 in
theorem runder_any (A B : Option Addr) (c d : Nat) (xs ys : List ByteArray) (w : World) (h : RT w A c xs) (k : RT w B d ys) :
    Calls Tryd.prog 22 #[.slice A xs.length c, .slice B ys.length d] w fun e w' => e = .returned (.bool (underB xs ys)) ∧ Below w.heap.size w w' := by
  have h1 := h.1
  have h2 := h.2.1
  have k1 := k.1
  have k2 := k.2.1
  have HX := Lib.hid h
  have HY := Lib.hid k
  clear h k
  by_cases hlt : xs.length < ys.length
  · have hl : (ys.take xs.length).length = xs.length := by rw [List.length_take]; omega
    have hc := rcompare_any A B c d xs (ys.take xs.length) w HX.out (HY.out.take _)
    rw [hl] at hc
    have HC := Lib.hid hc
    have HU : Hid ((ccmp (dat xs) (dat (ys.take xs.length)) == 0) = underB xs ys) := Lib.hid (by
      unfold underB
      rw [Bool.eq_iff_iff, beq_iff_eq, decide_eq_true_iff]
      exact ⟨fun e => ⟨hlt, (dat_inj (ccmp_zero e)).symm⟩, fun e => by rw [e.2]; exact ccmp_self _⟩)
    clear hc hl
    go_enter Tryd.func22, Tryd.ntmps22
    go_wp2_with (go_at_call 17; refine HC.out.mono ?_; rintro e w1 ⟨rfl, hb⟩)
    go_ret
    exact ⟨ret_bool HU.out, hb⟩
  · have HU : Hid (underB xs ys = false) := Lib.hid (by
      unfold underB
      rw [decide_eq_false_iff_not]
      exact fun e => hlt e.1)
    go_enter Tryd.func22, Tryd.ntmps22
    go_wp2_with fail
    go_ret
    exact ⟨ret_bool HU.out.symm, Below.refl _ _⟩

def RetBE (w : World) (b : Bool) (n : Int) (e : Ending) (w' : World) : Prop := e = .returned (.tuple #[.bool b, .int .i64 n]) ∧ Below w.heap.size w w'

set_option maxHeartbeats 1000000 in
theorem under_yes (s p : ByteArray) (w : World) (hs : s.size ≤ 1000000) (hp : p.size ≤ 1000000) (hm : ML w) (hd : dirOk s.data.toList = true) (hv : pathOk p.data.toList = true) :
    Calls Tryd.prog 20 #[.string s, .string p] w (RetBE w (underB (compsB s) (compsB p)) 0) := by
  have HC := Lib.hid (components_yes s 1 w hs hm hd (spB_pos _))
  have HM := Lib.hid hm
  have hl1 := compsB_len s
  have hl2 := compsB_len p
  clear hm
  go_enter Tryd.func20, Tryd.ntmps20
  go_wp2_with (go_at_call 35; refine HC.out.mono ?_; rintro e w1 ⟨A, c, rfl, hr1, hb1⟩)
  have HR1 := Lib.hid hr1
  have h2 := hr1.1
  have h3 := hr1.2.1
  refine (psplit_yes p w1 hp (HM.out.below hb1) hv).mono ?_
  rintro e w2 ⟨B, d, rfl, hr2, hb2⟩
  have HR1' := Lib.hid (HR1.out.below hb2)
  have HR2 := Lib.hid hr2
  have k2 := hr2.1
  have k3 := hr2.2.1
  have HB := Lib.hid (hb1.trans (hb2.mono hb1.size))
  clear hr1 hr2 hb1 hb2
  generalize compsB s = xs at *
  generalize compsB p = ys at *
  by_cases hlt : xs.length < ys.length
  · have hl : (ys.take xs.length).length = xs.length := by rw [List.length_take]; omega
    have hc := equal_any B A d c (ys.take xs.length) xs w2 (HR2.out.take _) HR1'.out
    rw [hl] at hc
    have HE := Lib.hid hc
    have HU : Hid (decide (ys.take xs.length = xs) = underB xs ys) := Lib.hid (by
      unfold underB
      rw [decide_eq_decide]
      exact ⟨fun e => ⟨hlt, e⟩, fun e => e.2⟩)
    clear hc hl
    go_wp2_with (go_at_call 36; refine HE.out.mono ?_; rintro e w3 ⟨rfl, hb3⟩)
    go_ret2
    exact ⟨by rw [← HU.out]; rfl, HB.out.trans (hb3.mono HB.out.size)⟩
  · have HU : Hid (underB xs ys = false) := Lib.hid (by
      unfold underB
      rw [decide_eq_false_iff_not]
      exact fun e => hlt e.1)
    go_wp2_with fail
    go_ret2
    exact ⟨by rw [HU.out]; rfl, HB.out⟩

set_option maxHeartbeats 1000000 in
theorem under_no (s p : ByteArray) (w : World) (hs : s.size ≤ 1000000) (hp : p.size ≤ 1000000) (hm : ML w) (hd : dirOk s.data.toList = false ∨ pathOk p.data.toList = false) :
    Calls Tryd.prog 20 #[.string s, .string p] w (RetBE w false 20) := by
  cases hds : dirOk s.data.toList with
  | false =>
    have HC := Lib.hid (components_no s 1 w hs hm (.inl hds))
    clear hm
    go_enter Tryd.func20, Tryd.ntmps20
    go_wp2_with (go_at_call 35; refine HC.out.mono ?_; rintro e w1 ⟨rfl, hb1⟩)
    go_ret2
    exact ⟨rfl, hb1⟩
  | true =>
    have hv : pathOk p.data.toList = false := by
      rcases hd with h | h
      · rw [hds] at h; cases h
      · exact h
    have HC := Lib.hid (components_yes s 1 w hs hm hds (spB_pos _))
    have HM := Lib.hid hm
    have hl1 := compsB_len s
    clear hm
    go_enter Tryd.func20, Tryd.ntmps20
    go_wp2_with (go_at_call 35; refine HC.out.mono ?_; rintro e w1 ⟨A, c, rfl, hr1, hb1⟩)
    refine (psplit_no p w1 hp (HM.out.below hb1) hv).mono ?_
    rintro e w2 ⟨rfl, hb2⟩
    go_wp2_with fail
    go_ret2
    exact ⟨rfl, hb1.trans (hb2.mono hb1.size)⟩

/-- two lists of texts, held one against the other -/
theorem take_eq_step {α : Type} {a b : List α} {k : Nat} {x y : α} (ha : a[k]? = some x) (hb : b[k]? = some y) (h : a.take k = b.take k) (e : x = y) : a.take (k + 1) = b.take (k + 1) := by
  rw [List.take_add_one, List.take_add_one, ha, hb, h, e]

set_option maxHeartbeats 1000000 in
theorem same_any (A B : Option Addr) (c d : Nat) (xs ys : List ByteArray) (w : World) (h : RT w A c xs) (k : RT w B d ys) :
    Calls Tryd.prog 19 #[.slice A xs.length c, .slice B ys.length d] w fun e w' => e = .returned (.bool (decide (xs = ys))) ∧ Below w.heap.size w w' := by
  have h1 := h.1
  have h2 := h.2.1
  have k1 := k.1
  have k2 := k.2.1
  have hx9 : xs.length ≤ 9223372036854775807 := by omega
  clear h1 h2 k1 k2
  have HX := Lib.hid h
  have HY := Lib.hid k
  clear h k
  by_cases hl : xs.length = ys.length
  · have hlB : ((xs.length : Int) != (ys.length : Int)) = false := by rw [hl]; simp
    have HL := Lib.hid hl
    clear hl
    go_enter Tryd.func19, Tryd.ntmps19
    go_wp2_with fail
    go_loopw [13] (fun i wr => ∃ k : Nat, k ≤ xs.length ∧ i = .int .i64 k ∧ Hid (xs.take k = ys.take k) ∧ Below w.heap.size w wr)
      (fun i _ => xs.length - (intOf i).toNat)
    case atStart => exact ⟨0, Nat.zero_le _, rfl, Lib.hid (by simp), Below.refl _ _⟩
    case round =>
      obtain ⟨k, hka, rfl, HK, hbel⟩ := hrel
      by_cases g1 : k < xs.length
      · have g2 : k < ys.length := by rw [← HL.out]; exact g1
        obtain ⟨x, hx⟩ : ∃ x, xs[k]? = some x := ⟨_, List.getElem?_eq_getElem g1⟩
        obtain ⟨y, hy⟩ : ∃ y, ys[k]? = some y := ⟨_, List.getElem?_eq_getElem g2⟩
        obtain ⟨b1, o1, rfl, hb1, hc1⟩ := (HX.out.below hbel).2.2 (by omega)
        obtain ⟨b2, o2, rfl, hb2, hc2⟩ := (HY.out.below hbel).2.2 (by omega)
        have hcx := hc1 k x hx
        have hcy := hc2 k y hy
        have HHX := Lib.hid hx
        have HHY := Lib.hid hy
        clear hc1 hc2 hx hy hb1 hb2
        by_cases he : x = y
        · have heB : (x.toList == y.toList) = true := by rw [he]; simp
          have HN := Lib.hid (take_eq_step HHX.out HHY.out HK.out he)
          clear he
          go_wp2_with fail
          go_quiet (fail)
          go_wp2_with fail
          go_roundw
          case rel => exact ⟨k + 1, by omega, by go_num, HN, by repeat (first | exact hbel | apply Below.drew | apply below_drewN)⟩
          case measure => simp [intOf]; omega
        · have heB : (x.toList == y.toList) = false := by
            rw [beq_eq_false_iff_ne, Lib.toList_data, Lib.toList_data]
            intro e
            refine he ?_
            rw [← mkB_back x, ← mkB_back y, e]
          have HN : Hid (decide (xs = ys) = false) := Lib.hid (by
            rw [decide_eq_false_iff_not]
            intro e
            subst e
            rw [HHX.out] at *
            exact he (Option.some.inj HHY.out))
          clear he
          go_wp2_with fail
          go_quiet (fail)
          go_wp2_with fail
          go_ret
          exact ⟨ret_bool HN.out.symm, by repeat (first | exact hbel | apply Below.drew | apply below_drewN)⟩
      · have HN : Hid (decide (xs = ys) = true) := Lib.hid (by
          rw [decide_eq_true_iff]
          have := HK.out
          rw [List.take_of_length_le (by omega), List.take_of_length_le (by rw [← HL.out]; omega)] at this
          exact this)
        go_wp2_with fail
        go_ret
        exact ⟨ret_bool HN.out.symm, hbel⟩
  · have hlB : ((xs.length : Int) != (ys.length : Int)) = true := by
      rw [bne_iff_ne]
      omega
    have HN : Hid (decide (xs = ys) = false) := Lib.hid (by
      rw [decide_eq_false_iff_not]
      intro e
      exact hl (by rw [e]))
    clear hl
    go_enter Tryd.func19, Tryd.ntmps19
    go_wp2_with fail
    go_ret
    exact ⟨ret_bool HN.out.symm, Below.refl _ _⟩
end Go.Proofs.YtpiecifdjfleaaaDoor
