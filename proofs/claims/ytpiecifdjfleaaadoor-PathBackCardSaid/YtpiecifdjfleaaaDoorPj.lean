/-
  The walks of Join, and of the reference's Join.
-/
import Derived.Test.YtpiecifdjfleaaaDoorPc2
import Derived.Test.YtpiecifdjfleaaaDoorPa
namespace Go.Proofs.YtpiecifdjfleaaaDoor
set_option linter.unusedSimpArgs false
set_option linter.unusedVariables false
open Go.RowKit
open Pm

/-- the text of components -/
def joinL (xs : List (List UInt8)) : List UInt8 := 47 :: 47 :: Lib.join xs [47]
def datj (xs : List ByteArray) : List (List UInt8) := xs.map (·.data.toList)
/-- the path of components -/
def joinB (xs : List ByteArray) : ByteArray := mkB (joinL (datj xs))

def joinT (xs : List ByteArray) : ByteArray := mkB (Lib.join (datj xs) [47])
theorem joinT_size (xs : List ByteArray) : (joinT xs).size = (Lib.join (datj xs) [47]).length := mkB_size _
theorem cat_eq (xs : List ByteArray) : (⟨#[47, 47]⟩ : ByteArray) ++ joinT xs = joinB xs := by
  rw [← mkB_back ((⟨#[47, 47]⟩ : ByteArray) ++ joinT xs)]
  unfold joinB joinL
  refine congrArg mkB ?_
  rw [ByteArray.data_append, Array.toList_append]
  show 47 :: 47 :: (joinT xs).data.toList = _
  rw [joinT, mkB_data]
theorem ret_str {a b : ByteArray} (h : a = b) : Ending.returned (.string a) = .returned (.string b) := by rw [h]
theorem ret_si {k : IntKind} {a b : ByteArray} {n m : Int} (h : a = b) (h2 : n = m) : Ending.returned (.tuple #[.string a, .int k n]) = .returned (.tuple #[.string b, .int k m]) := by rw [h, h2]

set_option maxHeartbeats 400000 in
theorem rjoin_any (A : Option Addr) (c : Nat) (xs : List ByteArray) (w : World) (h : RT w A c xs) (hN : xs.length ≤ 100000) (hlen : (Lib.join (datj xs) [47]).length ≤ 100000000) :
    Calls Tryd.prog 26 #[.slice A xs.length c] w fun e w' => e = .returned (.string (joinB xs)) ∧ Below w.heap.size w w' := by
  have HJ : Hid (Calls Tryd.prog 39 #[.slice A xs.length c, .string ⟨#[47]⟩] w fun e w' => e = .returned (.string (joinT xs)) ∧ Below w.heap.size w w') := Lib.hid (join_any A c xs ⟨#[47]⟩ w h hN hlen)
  have hsz : (joinT xs).size ≤ 100000000 := by rw [joinT_size]; exact hlen
  have HC := Lib.hid (cat_eq xs)
  clear h
  go_enter Tryd.func26, Tryd.ntmps26
  go_wp2_with (go_at_call 39; refine HJ.out.mono ?_; rintro e w1 ⟨rfl, hb⟩)
  go_ret
  exact ⟨ret_str HC.out, hb⟩

/-- components that make a path -/
def joinOk (xs : List ByteArray) : Bool := decide (2 ≤ xs.length) && xs.all (fun x => comp x.data.toList)

set_option maxHeartbeats 1000000 in
theorem pjoin_any (A : Option Addr) (c : Nat) (xs : List ByteArray) (w : World) (h : RT w A c xs) (hN : xs.length ≤ 100000) (hlen : (Lib.join (datj xs) [47]).length ≤ 100000000) (hsz : ∀ x ∈ xs, x.size ≤ 1000000) :
    Calls Tryd.prog 28 #[.slice A xs.length c] w fun e w' => (e = .returned (.tuple #[.string (if joinOk xs = true then joinB xs else ⟨#[]⟩), .int .i64 (if joinOk xs = true then 0 else 21)])) ∧ Below w.heap.size w w' := by
  have h1 := h.1
  have h2 := h.2.1
  have HR := Lib.hid h
  have HJ : Hid (Calls Tryd.prog 39 #[.slice A xs.length c, .string ⟨#[47]⟩] w fun e w' => e = .returned (.string (joinT xs)) ∧ Below w.heap.size w w') := Lib.hid (join_any A c xs ⟨#[47]⟩ w h hN hlen)
  have hszT : (joinT xs).size ≤ 100000000 := by rw [joinT_size]; exact hlen
  have HC := Lib.hid (cat_eq xs)
  have HSZ := Lib.hid hsz
  clear h hsz
  by_cases hn : xs.length < 2
  · have HK : Hid (joinOk xs = false) := Lib.hid (by
      unfold joinOk
      rw [decide_eq_false (by omega)]
      rfl)
    rw [HK.out]
    go_enter Tryd.func28, Tryd.ntmps28
    go_wp2_with fail
    go_ret2
    exact ⟨rfl, Below.refl _ _⟩
  · have hnB : decide (xs.length < 2) = false := decide_eq_false hn
    have hpos : 0 < xs.length := by omega
    obtain ⟨b, o, rfl, hbl, hc⟩ := HR.out.2.2 hpos
    have HCE := Lib.hid hc
    clear hc
    cases hok : joinOk xs with
    | true =>
      have HA : Hid (∀ x ∈ xs, comp x.data.toList = true) := Lib.hid (by
        unfold joinOk at hok
        rw [Bool.and_eq_true] at hok
        exact List.all_eq_true.1 hok.2)
      have HOK := Lib.hid hok
      clear hok
      simp only [if_true]
      go_enter Tryd.func28, Tryd.ntmps28
      go_wp2_with fail
      go_loop [11] (fun i => ∃ k : Nat, k ≤ xs.length ∧ i = .int .i64 k) (fun i => xs.length - (intOf i).toNat)
      case atStart => exact ⟨0, Nat.zero_le _, rfl⟩
      case round =>
        obtain ⟨k, hk, rfl⟩ := hrel
        by_cases hlt : k < xs.length
        · obtain ⟨x, hx⟩ : ∃ x, xs[k]? = some x := ⟨_, List.getElem?_eq_getElem hlt⟩
          have hcell := HCE.out k x hx
          have hxs := HSZ.out x (List.mem_of_getElem? hx)
          have hcx := HA.out x (List.mem_of_getElem? hx)
          clear hx
          go_wp2_with (go_at_call 14; refine (component_any _ _ (by omega)).mono ?_; rintro e w' ⟨rfl, rfl⟩)
          go_round
          case rel => exact ⟨k + 1, by omega, by go_num⟩
          case measure => simp [intOf]; omega
        · go_wp2_with (go_at_call 39; refine HJ.out.mono ?_; rintro e w1 ⟨rfl, hb⟩)
          go_ret2
          exact ⟨ret_si HC.out rfl, hb⟩
    | false =>
      have HOK : Hid (xs.all (fun x => comp x.data.toList) = false) := Lib.hid (by
        unfold joinOk at hok
        rw [decide_eq_true (by omega), Bool.true_and] at hok
        exact hok)
      clear hok
      simp only [Bool.false_eq_true, if_false]
      go_enter Tryd.func28, Tryd.ntmps28
      go_wp2_with fail
      go_loop [11] (fun i => ∃ k : Nat, k ≤ xs.length ∧ i = .int .i64 k ∧ Hid ((xs.take k).all (fun x => comp x.data.toList) = true)) (fun i => xs.length - (intOf i).toNat)
      case atStart => exact ⟨0, Nat.zero_le _, rfl, Lib.hid (by simp)⟩
      case round =>
        obtain ⟨k, hk, rfl, HA⟩ := hrel
        by_cases hlt : k < xs.length
        · obtain ⟨x, hx⟩ : ∃ x, xs[k]? = some x := ⟨_, List.getElem?_eq_getElem hlt⟩
          have hcell := HCE.out k x hx
          have hxs := HSZ.out x (List.mem_of_getElem? hx)
          have HX := Lib.hid hx
          clear hx
          by_cases hcx : comp x.data.toList = true
          · go_wp2_with (go_at_call 14; refine (component_any _ _ (by omega)).mono ?_; rintro e w' ⟨rfl, rfl⟩)
            go_round
            case rel => exact ⟨k + 1, by omega, by go_num, Lib.hid (by rw [all_step HX.out, HA.out, hcx]; rfl)⟩
            case measure => simp [intOf]; omega
          · have hcx' : comp x.data.toList = false := by simpa using hcx
            clear hcx
            go_wp2_with (go_at_call 14; refine (component_any _ _ (by omega)).mono ?_; rintro e w' ⟨rfl, rfl⟩)
            go_ret2
            exact ⟨rfl, Below.refl _ _⟩
        · exfalso
          have := HA.out
          rw [List.take_of_length_le (by omega), HOK.out] at this
          cases this
end Go.Proofs.YtpiecifdjfleaaaDoor
