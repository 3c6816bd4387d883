/-
  The walks of Kinds and Literal, and of the reference's Kinds.
-/
import Derived.Test.YtidjmbmnfnnleaaDoorQ8
namespace Go.Proofs.YtidjmbmnfnnleaaDoor
set_option linter.unusedSimpArgs false
set_option linter.unusedVariables false
open Go.RowKit
open Pm

def countB (st : ByteArray → Bool) (xs : List ByteArray) : Nat := (xs.filter st).length
theorem count_step {st : ByteArray → Bool} {xs : List ByteArray} {k : Nat} {x : ByteArray} (h : xs[k]? = some x) : countB st (xs.take (k + 1)) = countB st (xs.take k) + (if st x = true then 1 else 0) := by
  unfold countB
  rw [List.take_add_one, h, List.filter_append, List.length_append]
  by_cases hx : st x = true
  · rw [if_pos hx]; simp [hx]
  · rw [if_neg hx]; simp [hx]
theorem count_le (st : ByteArray → Bool) (xs : List ByteArray) : countB st xs ≤ xs.length := List.length_filter_le _ _
theorem count_take (st : ByteArray → Bool) (xs : List ByteArray) (k : Nat) : countB st (xs.take k) ≤ k := by
  have := count_le st (xs.take k)
  rw [List.length_take] at this
  omega
theorem count_zero {st : ByteArray → Bool} {xs : List ByteArray} : countB st xs = 0 ↔ xs.any st = false := by
  unfold countB
  rw [List.length_eq_zero_iff, List.filter_eq_nil_iff, List.any_eq_false]
theorem count_agree {xs : List ByteArray} (h : ∀ x ∈ xs, partB x = true) : countB starOk xs = countB stB xs := by
  unfold countB
  refine congrArg List.length (List.filter_congr fun x hx => star_agree (h x hx))
theorem ret_ib {k : IntKind} {a b : Int} {n m : Bool} (h : a = b) (h2 : n = m) : Ending.returned (.tuple #[.int k a, .bool n]) = .returned (.tuple #[.int k b, .bool m]) := by rw [h, h2]

set_option maxHeartbeats 1000000 in
theorem rkinds_any (A : Option Addr) (c : Nat) (xs : List ByteArray) (r : Bool) (w : World) (h : RT w A c xs) (hsz : ∀ x ∈ xs, x.size ≤ 9223372036854775807) :
    Calls Tryd.prog 42 #[.agg #[.slice A xs.length c, .bool r]] w fun e w' => e = .returned (.tuple #[.int .i64 (countB starOk xs : Nat), .bool r]) ∧ Below w.heap.size w w' := by
  have h1 := h.1
  have h2 := h.2.1
  have HX := Lib.hid h
  have HS := Lib.hid hsz
  clear h hsz
  go_enter Tryd.func42, Tryd.ntmps42
  go_wp2_with fail
  go_loopw [4, 12] (fun n i wr => ∃ k : Nat, k ≤ xs.length ∧ i = .int .i64 k ∧ n = .int .i64 (countB starOk (xs.take k) : Nat) ∧ countB starOk (xs.take k) ≤ k ∧ Hid (Below w.heap.size w wr) ∧ wr.cell? ⟨w.heap.size, 1, none⟩ = some (.bool r)) (fun _ i _ => xs.length - (intOf i).toNat)
  case atStart => exact ⟨0, Nat.zero_le _, rfl, rfl, by simp [countB], Lib.hid (below_alloc _ _), by simp [World.cell?_alloc_new]⟩
  case round =>
    obtain ⟨k, hk, rfl, rfl, hcn, HBL, hc0⟩ := hrel
    by_cases hlt : k < xs.length
    · obtain ⟨x, hx⟩ : ∃ x, xs[k]? = some x := ⟨_, List.getElem?_eq_getElem hlt⟩
      obtain ⟨b1, o1, rfl, hb1, hc1⟩ := (HX.out.below HBL.out).2.2 (by omega)
      have hcx := hc1 k x hx
      have hxz := HS.out x (List.mem_of_getElem? hx)
      have hst := count_step (st := starOk) hx
      have hcn2 := count_take starOk xs (k + 1)
      clear hc1 hx hb1
      cases hs : starOk x with
      | true =>
        rw [hs] at hst
        simp only [if_true] at hst
        have HST := Lib.hid hst
        rw [hst] at hcn2
        clear hst
        generalize countB starOk (xs.take k) = m at *
        go_wp2_with (go_at_call 51; refine (rstar_any _ _ (by omega)).mono ?_; rintro e w' ⟨rfl, rfl⟩)
        go_roundw
        case rel => exact ⟨k + 1, by omega, by go_num, by rw [HST.out]; go_num, by rw [HST.out]; exact hcn2, HBL, hc0⟩
        case measure => simp [intOf]; omega
      | false =>
        rw [hs] at hst
        simp only [Bool.false_eq_true, if_false, Nat.add_zero] at hst
        have HST := Lib.hid hst
        rw [hst] at hcn2
        clear hst
        generalize countB starOk (xs.take k) = m at *
        go_wp2_with (go_at_call 51; refine (rstar_any _ _ (by omega)).mono ?_; rintro e w' ⟨rfl, rfl⟩)
        go_roundw
        case rel => exact ⟨k + 1, by omega, by go_num, by rw [HST.out], by rw [HST.out]; exact hcn2, HBL, hc0⟩
        case measure => simp [intOf]; omega
    · have HE : Hid (countB starOk (xs.take k) = countB starOk xs) := Lib.hid (by rw [List.take_of_length_le (by omega)])
      have he := HE.out
      rw [he]
      clear he
      go_wp2_with fail
      go_quiet (fail)
      go_wp2_with fail
      go_ret2
      exact ⟨rfl, by repeat (first | exact HBL.out | apply Below.drew | apply below_drewN)⟩

/-- what Kinds hands back -/
def kindN (xs : List ByteArray) (r : Bool) : Nat := if checkP xs r = 0 then countB stB xs else 0
def kindR (xs : List ByteArray) (r : Bool) : Bool := if checkP xs r = 0 then r else false

set_option maxHeartbeats 1000000 in
theorem kinds_any (A : Option Addr) (c : Nat) (xs : List ByteArray) (r : Bool) (w : World) (h : RT w A c xs) (hsz : ∀ x ∈ xs, x.size ≤ 9223372036854775807) :
    Calls Tryd.prog 40 #[.agg #[.slice A xs.length c, .bool r]] w fun e w' => e = .returned (.tuple #[.int .i64 (kindN xs r : Nat), .bool (kindR xs r), .int .i64 (checkP xs r)]) ∧ Below w.heap.size w w' := by
  have h1 := h.1
  have h2 := h.2.1
  have HX := Lib.hid h
  have HCK := Lib.hid (fun W (h : RT W A c xs) => check_any A c xs r W h hsz)
  have HK : Hid (kindN xs r = if checkP xs r = 0 then countB stB xs else 0) := Lib.hid rfl
  have HKR : Hid (kindR xs r = if checkP xs r = 0 then r else false) := Lib.hid rfl
  clear h hsz
  by_cases hn : checkP xs r = 0
  · rw [if_pos hn] at HK HKR
    rw [HK.out, HKR.out]
    have hnB : (checkP xs r != 0) = false := by rw [hn]; rfl
    have HN := Lib.hid hn
    rw [hn]
    rw [hn] at HCK
    clear hn hnB
    go_enter Tryd.func40, Tryd.ntmps40
    go_wp2_with (go_at_call 43; refine (HCK.out _ (HX.out.below (below_alloc _ _))).mono ?_; rintro e w1 ⟨rfl, hb⟩; have P1 := Lib.hid ((PX.new w (.slice A xs.length c) (.bool r) _).below hb); obtain ⟨p1, p2, p3, p4, p5⟩ := P1.out; have HB1 := Lib.hid ((below_alloc w _).trans (hb.mono (below_alloc w _).size)); clear hb)
    go_loopw [2, 16] (fun n i wr => ∃ k : Nat, k ≤ xs.length ∧ i = .int .i64 k ∧ n = .int .i64 (countB stB (xs.take k) : Nat) ∧ countB stB (xs.take k) ≤ k ∧ Hid (Below w.heap.size w wr) ∧ wr.cell? ⟨w.heap.size, 1, none⟩ = some (.bool r)) (fun _ i _ => xs.length - (intOf i).toNat)
    case atStart => exact ⟨0, Nat.zero_le _, rfl, rfl, by simp [countB], HB1, p2⟩
    case round =>
      obtain ⟨k, hk, rfl, rfl, hcn, HBL, hc0⟩ := hrel
      by_cases hlt : k < xs.length
      · obtain ⟨x, hx⟩ : ∃ x, xs[k]? = some x := ⟨_, List.getElem?_eq_getElem hlt⟩
        obtain ⟨b1, o1, rfl, hb1, hc1⟩ := (HX.out.below HBL.out).2.2 (by omega)
        have hcx := hc1 k x hx
        have hst := count_step (st := stB) hx
        have hcn2 := count_take stB xs (k + 1)
        clear hc1 hx hb1
        cases hs : stB x with
        | true =>
          rw [hs] at hst
          simp only [if_true] at hst
          have HST := Lib.hid hst
          rw [hst] at hcn2
          clear hst
          generalize countB stB (xs.take k) = m at *
          go_wp2_with (go_at_call 63; refine (isStar_any _ _).mono ?_; rintro e w' ⟨rfl, rfl⟩)
          go_roundw
          case rel => exact ⟨k + 1, by omega, by go_num, by rw [HST.out]; go_num, by rw [HST.out]; exact hcn2, HBL, hc0⟩
          case measure => simp [intOf]; omega
        | false =>
          rw [hs] at hst
          simp only [Bool.false_eq_true, if_false, Nat.add_zero] at hst
          have HST := Lib.hid hst
          rw [hst] at hcn2
          clear hst
          generalize countB stB (xs.take k) = m at *
          go_wp2_with (go_at_call 63; refine (isStar_any _ _).mono ?_; rintro e w' ⟨rfl, rfl⟩)
          go_roundw
          case rel => exact ⟨k + 1, by omega, by go_num, by rw [HST.out], by rw [HST.out]; exact hcn2, HBL, hc0⟩
          case measure => simp [intOf]; omega
      · have HE : Hid (countB stB (xs.take k) = countB stB xs) := Lib.hid (by rw [List.take_of_length_le (by omega)])
        have he := HE.out
        rw [he]
        clear he
        go_wp2_with fail
        go_quiet (fail)
        go_wp2_with fail
        go_ret3
        exact ⟨rfl, by repeat (first | exact HBL.out | apply Below.drew | apply below_drewN)⟩
  · rw [if_neg hn] at HK HKR
    rw [HK.out, HKR.out]
    have hnB : (checkP xs r != 0) = true := by rw [bne_iff_ne]; exact hn
    clear hn
    generalize checkP xs r = n at *
    go_enter Tryd.func40, Tryd.ntmps40
    go_wp2_with (go_at_call 43; refine (HCK.out _ (HX.out.below (below_alloc _ _))).mono ?_; rintro e w1 ⟨rfl, hb⟩; have HB1 := Lib.hid ((below_alloc w _).trans (hb.mono (below_alloc w _).size)); clear hb)
    go_ret3
    exact ⟨rfl, HB1.out⟩

end Go.Proofs.YtidjmbmnfnnleaaDoor

