/-
  The walk of isBinding.
-/
import Derived.Test.YtofmngfmoagenaaDoorQ27
namespace Go.Proofs.YtofmngfmoagenaaDoor
set_option linter.unusedSimpArgs false
set_option linter.unusedVariables false
open Go.RowKit
open Pm

/-- a binding of a wildcard -/
def bindOk (xs : List ByteArray) (q rest : Bool) : Bool :=
  if (rest = false ∧ (xs.length ≠ 1 ∨ q = true)) ∨ (xs.length = 0 ∧ q = false) then false else xs.all partB
theorem ret_b {a b : Bool} (h : a = b) : Ending.returned (.bool a) = .returned (.bool b) := by rw [h]

set_option maxHeartbeats 1000000 in
theorem isBinding_any (A : Option Addr) (c : Nat) (xs : List ByteArray) (q rest : Bool) (w : World) (h : RT w A c xs) (hz : ∀ x ∈ xs, x.size ≤ 9223372036854775807) :
    Calls Tryd.prog 66 #[.agg #[.slice A xs.length c, .bool q], .bool rest] w fun e w' => e = .returned (.bool (bindOk xs q rest)) ∧ Below w.heap.size w w' := by
  have HX : At (fun w => RT w A c xs) (w.alloc (.cells #[.slice A xs.length c, .bool q] 52)) := ⟨kept_rt _ _ _, h.below (below_alloc _ _)⟩
  have HZ := Lib.hid hz
  have h1 := h.1
  have h2 := h.2.1
  clear h hz
  rcases (by omega : xs.length = 0 ∨ xs.length = 1 ∨ (¬ xs.length = 0 ∧ ¬ xs.length = 1)) with hl | hl | hl
  · have hn0 : ((xs.length : Int) == 0) = true := by rw [hl]; rfl
    have hn1 : ((xs.length : Int) == 1) = false := by rw [hl]; rfl
    have hm1 : ((xs.length : Int) != 1) = true := by rw [hl]; rfl
    have HL := Lib.hid hl
    clear hl
    cases rest with
    | false =>
      cases q with
      | false =>
        go_enter Tryd.func66, Tryd.ntmps66
        go_wp2_with fail
        go_ret
        exact ⟨ret_b (by unfold bindOk; simp [HL.out]), below_alloc _ _⟩
      | true =>
        go_enter Tryd.func66, Tryd.ntmps66
        go_wp2_with fail
        go_ret
        exact ⟨ret_b (by unfold bindOk; simp [HL.out]), below_alloc _ _⟩
    | true =>
      cases q with
      | false =>
        go_enter Tryd.func66, Tryd.ntmps66
        go_wp2_with fail
        go_ret
        exact ⟨ret_b (by unfold bindOk; simp [HL.out]), below_alloc _ _⟩
      | true =>
        have HB : Hid (bindOk xs true true = xs.all partB) := Lib.hid (by unfold bindOk; simp [HL.out])
        go_enter Tryd.func66, Tryd.ntmps66
        go_wp2_with fail
        go_loop [33] (fun i => ∃ k : Nat, k ≤ xs.length ∧ i = .int .i64 k ∧ Hid ((xs.take k).all partB = true)) (fun i => xs.length - (intOf i).toNat)
        case atStart => exact ⟨0, Nat.zero_le _, rfl, Lib.hid (by simp)⟩
        case round =>
          obtain ⟨k, hk, rfl, HS⟩ := hrel
          by_cases hlt : k < xs.length
          · obtain ⟨x, hx⟩ : ∃ x, xs[k]? = some x := ⟨_, List.getElem?_eq_getElem hlt⟩
            obtain ⟨b1, o1, rfl, hb1, hc1⟩ := HX.out.2.2 (by omega)
            have hcx := hc1 k x hx
            have hxz := HZ.out x (List.mem_of_getElem? hx)
            have HTK : Hid (xs.take (k + 1) = xs.take k ++ [x]) := Lib.hid (by rw [List.take_add_one, hx]; rfl)
            have HMX := Lib.hid (List.mem_of_getElem? hx)
            clear hc1 hx hb1
            cases hp : partB x with
            | false =>
              have hfb : (formB x == 0) = true := by rw [(form_zero x).2 hp]; rfl
              have HP := Lib.hid hp
              clear hp
              go_wp2_with (go_at_call 59; refine (formOf_any _ _ hxz).mono ?_; rintro e w' ⟨rfl, rfl⟩)
              go_ret
              exact ⟨ret_b (by rw [HB.out]; exact (List.all_eq_false.2 ⟨x, HMX.out, by rw [HP.out]; simp⟩).symm), below_alloc _ _⟩
            | true =>
              have hfb : (formB x == 0) = false := by
                rw [beq_eq_false_iff_ne]
                intro e
                rw [(form_zero x).1 e] at hp
                cases hp
              have HP := Lib.hid hp
              clear hp
              go_wp2_with (go_at_call 59; refine (formOf_any _ _ hxz).mono ?_; rintro e w' ⟨rfl, rfl⟩)
              go_round
              case rel => exact ⟨k + 1, by omega, by go_num, Lib.hid (by rw [HTK.out, List.all_append, HS.out]; simp [HP.out])⟩
              case measure => simp [intOf]; omega
          · obtain rfl : k = xs.length := by omega
            go_wp2_with fail
            go_ret
            exact ⟨ret_b (by rw [HB.out, ← HS.out, List.take_length]), below_alloc _ _⟩
  · have hn0 : ((xs.length : Int) == 0) = false := by rw [hl]; rfl
    have hn1 : ((xs.length : Int) == 1) = true := by rw [hl]; rfl
    have hm1 : ((xs.length : Int) != 1) = false := by rw [hl]; rfl
    have HL := Lib.hid hl
    clear hl
    cases rest with
    | false =>
      cases q with
      | false =>
        have HB : Hid (bindOk xs false false = xs.all partB) := Lib.hid (by unfold bindOk; simp [HL.out])
        go_enter Tryd.func66, Tryd.ntmps66
        go_wp2_with fail
        go_loop [33] (fun i => ∃ k : Nat, k ≤ xs.length ∧ i = .int .i64 k ∧ Hid ((xs.take k).all partB = true)) (fun i => xs.length - (intOf i).toNat)
        case atStart => exact ⟨0, Nat.zero_le _, rfl, Lib.hid (by simp)⟩
        case round =>
          obtain ⟨k, hk, rfl, HS⟩ := hrel
          by_cases hlt : k < xs.length
          · obtain ⟨x, hx⟩ : ∃ x, xs[k]? = some x := ⟨_, List.getElem?_eq_getElem hlt⟩
            obtain ⟨b1, o1, rfl, hb1, hc1⟩ := HX.out.2.2 (by omega)
            have hcx := hc1 k x hx
            have hxz := HZ.out x (List.mem_of_getElem? hx)
            have HTK : Hid (xs.take (k + 1) = xs.take k ++ [x]) := Lib.hid (by rw [List.take_add_one, hx]; rfl)
            have HMX := Lib.hid (List.mem_of_getElem? hx)
            clear hc1 hx hb1
            cases hp : partB x with
            | false =>
              have hfb : (formB x == 0) = true := by rw [(form_zero x).2 hp]; rfl
              have HP := Lib.hid hp
              clear hp
              go_wp2_with (go_at_call 59; refine (formOf_any _ _ hxz).mono ?_; rintro e w' ⟨rfl, rfl⟩)
              go_ret
              exact ⟨ret_b (by rw [HB.out]; exact (List.all_eq_false.2 ⟨x, HMX.out, by rw [HP.out]; simp⟩).symm), below_alloc _ _⟩
            | true =>
              have hfb : (formB x == 0) = false := by
                rw [beq_eq_false_iff_ne]
                intro e
                rw [(form_zero x).1 e] at hp
                cases hp
              have HP := Lib.hid hp
              clear hp
              go_wp2_with (go_at_call 59; refine (formOf_any _ _ hxz).mono ?_; rintro e w' ⟨rfl, rfl⟩)
              go_round
              case rel => exact ⟨k + 1, by omega, by go_num, Lib.hid (by rw [HTK.out, List.all_append, HS.out]; simp [HP.out])⟩
              case measure => simp [intOf]; omega
          · obtain rfl : k = xs.length := by omega
            go_wp2_with fail
            go_ret
            exact ⟨ret_b (by rw [HB.out, ← HS.out, List.take_length]), below_alloc _ _⟩
      | true =>
        go_enter Tryd.func66, Tryd.ntmps66
        go_wp2_with fail
        go_ret
        exact ⟨ret_b (by unfold bindOk; simp [HL.out]), below_alloc _ _⟩
    | true =>
      cases q with
      | false =>
        have HB : Hid (bindOk xs false true = xs.all partB) := Lib.hid (by unfold bindOk; simp [HL.out])
        go_enter Tryd.func66, Tryd.ntmps66
        go_wp2_with fail
        go_loop [33] (fun i => ∃ k : Nat, k ≤ xs.length ∧ i = .int .i64 k ∧ Hid ((xs.take k).all partB = true)) (fun i => xs.length - (intOf i).toNat)
        case atStart => exact ⟨0, Nat.zero_le _, rfl, Lib.hid (by simp)⟩
        case round =>
          obtain ⟨k, hk, rfl, HS⟩ := hrel
          by_cases hlt : k < xs.length
          · obtain ⟨x, hx⟩ : ∃ x, xs[k]? = some x := ⟨_, List.getElem?_eq_getElem hlt⟩
            obtain ⟨b1, o1, rfl, hb1, hc1⟩ := HX.out.2.2 (by omega)
            have hcx := hc1 k x hx
            have hxz := HZ.out x (List.mem_of_getElem? hx)
            have HTK : Hid (xs.take (k + 1) = xs.take k ++ [x]) := Lib.hid (by rw [List.take_add_one, hx]; rfl)
            have HMX := Lib.hid (List.mem_of_getElem? hx)
            clear hc1 hx hb1
            cases hp : partB x with
            | false =>
              have hfb : (formB x == 0) = true := by rw [(form_zero x).2 hp]; rfl
              have HP := Lib.hid hp
              clear hp
              go_wp2_with (go_at_call 59; refine (formOf_any _ _ hxz).mono ?_; rintro e w' ⟨rfl, rfl⟩)
              go_ret
              exact ⟨ret_b (by rw [HB.out]; exact (List.all_eq_false.2 ⟨x, HMX.out, by rw [HP.out]; simp⟩).symm), below_alloc _ _⟩
            | true =>
              have hfb : (formB x == 0) = false := by
                rw [beq_eq_false_iff_ne]
                intro e
                rw [(form_zero x).1 e] at hp
                cases hp
              have HP := Lib.hid hp
              clear hp
              go_wp2_with (go_at_call 59; refine (formOf_any _ _ hxz).mono ?_; rintro e w' ⟨rfl, rfl⟩)
              go_round
              case rel => exact ⟨k + 1, by omega, by go_num, Lib.hid (by rw [HTK.out, List.all_append, HS.out]; simp [HP.out])⟩
              case measure => simp [intOf]; omega
          · obtain rfl : k = xs.length := by omega
            go_wp2_with fail
            go_ret
            exact ⟨ret_b (by rw [HB.out, ← HS.out, List.take_length]), below_alloc _ _⟩
      | true =>
        have HB : Hid (bindOk xs true true = xs.all partB) := Lib.hid (by unfold bindOk; simp [HL.out])
        go_enter Tryd.func66, Tryd.ntmps66
        go_wp2_with fail
        go_loop [33] (fun i => ∃ k : Nat, k ≤ xs.length ∧ i = .int .i64 k ∧ Hid ((xs.take k).all partB = true)) (fun i => xs.length - (intOf i).toNat)
        case atStart => exact ⟨0, Nat.zero_le _, rfl, Lib.hid (by simp)⟩
        case round =>
          obtain ⟨k, hk, rfl, HS⟩ := hrel
          by_cases hlt : k < xs.length
          · obtain ⟨x, hx⟩ : ∃ x, xs[k]? = some x := ⟨_, List.getElem?_eq_getElem hlt⟩
            obtain ⟨b1, o1, rfl, hb1, hc1⟩ := HX.out.2.2 (by omega)
            have hcx := hc1 k x hx
            have hxz := HZ.out x (List.mem_of_getElem? hx)
            have HTK : Hid (xs.take (k + 1) = xs.take k ++ [x]) := Lib.hid (by rw [List.take_add_one, hx]; rfl)
            have HMX := Lib.hid (List.mem_of_getElem? hx)
            clear hc1 hx hb1
            cases hp : partB x with
            | false =>
              have hfb : (formB x == 0) = true := by rw [(form_zero x).2 hp]; rfl
              have HP := Lib.hid hp
              clear hp
              go_wp2_with (go_at_call 59; refine (formOf_any _ _ hxz).mono ?_; rintro e w' ⟨rfl, rfl⟩)
              go_ret
              exact ⟨ret_b (by rw [HB.out]; exact (List.all_eq_false.2 ⟨x, HMX.out, by rw [HP.out]; simp⟩).symm), below_alloc _ _⟩
            | true =>
              have hfb : (formB x == 0) = false := by
                rw [beq_eq_false_iff_ne]
                intro e
                rw [(form_zero x).1 e] at hp
                cases hp
              have HP := Lib.hid hp
              clear hp
              go_wp2_with (go_at_call 59; refine (formOf_any _ _ hxz).mono ?_; rintro e w' ⟨rfl, rfl⟩)
              go_round
              case rel => exact ⟨k + 1, by omega, by go_num, Lib.hid (by rw [HTK.out, List.all_append, HS.out]; simp [HP.out])⟩
              case measure => simp [intOf]; omega
          · obtain rfl : k = xs.length := by omega
            go_wp2_with fail
            go_ret
            exact ⟨ret_b (by rw [HB.out, ← HS.out, List.take_length]), below_alloc _ _⟩
  · have hn0 : ((xs.length : Int) == 0) = false := by rw [beq_eq_false_iff_ne]; omega
    have hn1 : ((xs.length : Int) == 1) = false := by rw [beq_eq_false_iff_ne]; omega
    have hm1 : ((xs.length : Int) != 1) = true := by rw [bne_iff_ne]; omega
    have HL := Lib.hid hl
    clear hl
    cases rest with
    | false =>
      cases q with
      | false =>
        go_enter Tryd.func66, Tryd.ntmps66
        go_wp2_with fail
        go_ret
        exact ⟨ret_b (by unfold bindOk; simp [HL.out]), below_alloc _ _⟩
      | true =>
        go_enter Tryd.func66, Tryd.ntmps66
        go_wp2_with fail
        go_ret
        exact ⟨ret_b (by unfold bindOk; simp [HL.out]), below_alloc _ _⟩
    | true =>
      cases q with
      | false =>
        have HB : Hid (bindOk xs false true = xs.all partB) := Lib.hid (by unfold bindOk; simp [HL.out])
        go_enter Tryd.func66, Tryd.ntmps66
        go_wp2_with fail
        go_loop [33] (fun i => ∃ k : Nat, k ≤ xs.length ∧ i = .int .i64 k ∧ Hid ((xs.take k).all partB = true)) (fun i => xs.length - (intOf i).toNat)
        case atStart => exact ⟨0, Nat.zero_le _, rfl, Lib.hid (by simp)⟩
        case round =>
          obtain ⟨k, hk, rfl, HS⟩ := hrel
          by_cases hlt : k < xs.length
          · obtain ⟨x, hx⟩ : ∃ x, xs[k]? = some x := ⟨_, List.getElem?_eq_getElem hlt⟩
            obtain ⟨b1, o1, rfl, hb1, hc1⟩ := HX.out.2.2 (by omega)
            have hcx := hc1 k x hx
            have hxz := HZ.out x (List.mem_of_getElem? hx)
            have HTK : Hid (xs.take (k + 1) = xs.take k ++ [x]) := Lib.hid (by rw [List.take_add_one, hx]; rfl)
            have HMX := Lib.hid (List.mem_of_getElem? hx)
            clear hc1 hx hb1
            cases hp : partB x with
            | false =>
              have hfb : (formB x == 0) = true := by rw [(form_zero x).2 hp]; rfl
              have HP := Lib.hid hp
              clear hp
              go_wp2_with (go_at_call 59; refine (formOf_any _ _ hxz).mono ?_; rintro e w' ⟨rfl, rfl⟩)
              go_ret
              exact ⟨ret_b (by rw [HB.out]; exact (List.all_eq_false.2 ⟨x, HMX.out, by rw [HP.out]; simp⟩).symm), below_alloc _ _⟩
            | true =>
              have hfb : (formB x == 0) = false := by
                rw [beq_eq_false_iff_ne]
                intro e
                rw [(form_zero x).1 e] at hp
                cases hp
              have HP := Lib.hid hp
              clear hp
              go_wp2_with (go_at_call 59; refine (formOf_any _ _ hxz).mono ?_; rintro e w' ⟨rfl, rfl⟩)
              go_round
              case rel => exact ⟨k + 1, by omega, by go_num, Lib.hid (by rw [HTK.out, List.all_append, HS.out]; simp [HP.out])⟩
              case measure => simp [intOf]; omega
          · obtain rfl : k = xs.length := by omega
            go_wp2_with fail
            go_ret
            exact ⟨ret_b (by rw [HB.out, ← HS.out, List.take_length]), below_alloc _ _⟩
      | true =>
        have HB : Hid (bindOk xs true true = xs.all partB) := Lib.hid (by unfold bindOk; simp [HL.out])
        go_enter Tryd.func66, Tryd.ntmps66
        go_wp2_with fail
        go_loop [33] (fun i => ∃ k : Nat, k ≤ xs.length ∧ i = .int .i64 k ∧ Hid ((xs.take k).all partB = true)) (fun i => xs.length - (intOf i).toNat)
        case atStart => exact ⟨0, Nat.zero_le _, rfl, Lib.hid (by simp)⟩
        case round =>
          obtain ⟨k, hk, rfl, HS⟩ := hrel
          by_cases hlt : k < xs.length
          · obtain ⟨x, hx⟩ : ∃ x, xs[k]? = some x := ⟨_, List.getElem?_eq_getElem hlt⟩
            obtain ⟨b1, o1, rfl, hb1, hc1⟩ := HX.out.2.2 (by omega)
            have hcx := hc1 k x hx
            have hxz := HZ.out x (List.mem_of_getElem? hx)
            have HTK : Hid (xs.take (k + 1) = xs.take k ++ [x]) := Lib.hid (by rw [List.take_add_one, hx]; rfl)
            have HMX := Lib.hid (List.mem_of_getElem? hx)
            clear hc1 hx hb1
            cases hp : partB x with
            | false =>
              have hfb : (formB x == 0) = true := by rw [(form_zero x).2 hp]; rfl
              have HP := Lib.hid hp
              clear hp
              go_wp2_with (go_at_call 59; refine (formOf_any _ _ hxz).mono ?_; rintro e w' ⟨rfl, rfl⟩)
              go_ret
              exact ⟨ret_b (by rw [HB.out]; exact (List.all_eq_false.2 ⟨x, HMX.out, by rw [HP.out]; simp⟩).symm), below_alloc _ _⟩
            | true =>
              have hfb : (formB x == 0) = false := by
                rw [beq_eq_false_iff_ne]
                intro e
                rw [(form_zero x).1 e] at hp
                cases hp
              have HP := Lib.hid hp
              clear hp
              go_wp2_with (go_at_call 59; refine (formOf_any _ _ hxz).mono ?_; rintro e w' ⟨rfl, rfl⟩)
              go_round
              case rel => exact ⟨k + 1, by omega, by go_num, Lib.hid (by rw [HTK.out, List.all_append, HS.out]; simp [HP.out])⟩
              case measure => simp [intOf]; omega
          · obtain rfl : k = xs.length := by omega
            go_wp2_with fail
            go_ret
            exact ⟨ret_b (by rw [HB.out, ← HS.out, List.take_length]), below_alloc _ _⟩
end Go.Proofs.YtofmngfmoagenaaDoor

