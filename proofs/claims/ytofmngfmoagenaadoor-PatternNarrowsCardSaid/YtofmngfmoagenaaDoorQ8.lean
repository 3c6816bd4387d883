/-
  The walks of Text, and Format.
-/
import Derived.Test.YtofmngfmoagenaaDoorQ7
namespace Go.Proofs.YtofmngfmoagenaaDoor
set_option linter.unusedSimpArgs false
set_option linter.unusedVariables false
open Go.RowKit
open Pm

/-- the text of a pattern -/
def textB (xs : List ByteArray) (r : Bool) : ByteArray := if r = true then (⟨#[47, 47]⟩ ++ joinT xs) ++ ⟨#[47, 46, 46, 46]⟩ else ⟨#[47, 47]⟩ ++ joinT xs

set_option maxHeartbeats 400000 in
theorem text_any (A : Option Addr) (c : Nat) (xs : List ByteArray) (r : Bool) (w : World) (h : RT w A c xs) (hl : xs.length ≤ 20) (hz : ∀ x ∈ xs, x.size ≤ 1000000) :
    Calls Tryd.prog 56 #[.agg #[.slice A xs.length c, .bool r]] w fun e w' => e = .returned (.string (textB xs r)) ∧ Below w.heap.size w w' := by
  have hlen : (Lib.join (datj xs) [47]).length ≤ 100000000 := by
    have h5 := join_le hz
    have h6 : xs.length * (1000000 + 1) ≤ 20 * (1000000 + 1) := Nat.mul_le_mul_right _ hl
    omega
  have HJ : Hid (∀ W, RT W A c xs → Calls Tryd.prog 52 #[.slice A xs.length c, .string ⟨#[47]⟩] W fun e w' => e = .returned (.string (joinT xs)) ∧ Below W.heap.size W w') := Lib.hid (fun W hW => join_any A c xs ⟨#[47]⟩ W hW (by omega) hlen)
  have hsz : (joinT xs).size ≤ 100000000 := by rw [joinT_size]; exact hlen
  have HT : Hid (textB xs r = if r = true then (⟨#[47, 47]⟩ ++ joinT xs) ++ ⟨#[47, 46, 46, 46]⟩ else ⟨#[47, 47]⟩ ++ joinT xs) := Lib.hid rfl
  have HX := Lib.hid h
  clear h hz hlen
  generalize joinT xs = jt at *
  cases r <;>
  · go_enter Tryd.func56, Tryd.ntmps56
    go_wp2_with (go_at_call 52; refine (HJ.out _ (HX.out.below (below_alloc _ _))).mono ?_; rintro e w1 ⟨rfl, hb⟩; obtain ⟨p1, p2, p3, p4, p5⟩ := (PX.new w (.slice A xs.length c) (.bool _) _).below hb)
    go_ret
    exact ⟨ret_str HT.out.symm, (below_alloc w _).trans (hb.mono (below_alloc w _).size)⟩

set_option maxHeartbeats 400000 in
theorem rtext_any (A : Option Addr) (c : Nat) (xs : List ByteArray) (r : Bool) (w : World) (h : RT w A c xs) (hl : xs.length ≤ 20) (hz : ∀ x ∈ xs, x.size ≤ 1000000) :
    Calls Tryd.prog 30 #[.agg #[.slice A xs.length c, .bool r]] w fun e w' => e = .returned (.string (textB xs r)) ∧ Below w.heap.size w w' := by
  have hlen : (Lib.join (datj xs) [47]).length ≤ 100000000 := by
    have h5 := join_le hz
    have h6 : xs.length * (1000000 + 1) ≤ 20 * (1000000 + 1) := Nat.mul_le_mul_right _ hl
    omega
  have HJ : Hid (∀ W, RT W A c xs → Calls Tryd.prog 52 #[.slice A xs.length c, .string ⟨#[47]⟩] W fun e w' => e = .returned (.string (joinT xs)) ∧ Below W.heap.size W w') := Lib.hid (fun W hW => join_any A c xs ⟨#[47]⟩ W hW (by omega) hlen)
  have hsz : (joinT xs).size ≤ 100000000 := by rw [joinT_size]; exact hlen
  have HT : Hid (textB xs r = if r = true then (⟨#[47, 47]⟩ ++ joinT xs) ++ ⟨#[47, 46, 46, 46]⟩ else ⟨#[47, 47]⟩ ++ joinT xs) := Lib.hid rfl
  have HX := Lib.hid h
  clear h hz hlen
  generalize joinT xs = jt at *
  cases r <;>
  · go_enter Tryd.func30, Tryd.ntmps30
    go_wp2_with (go_at_call 52; refine (HJ.out _ (HX.out.below (below_alloc _ _))).mono ?_; rintro e w1 ⟨rfl, hb⟩; obtain ⟨p1, p2, p3, p4, p5⟩ := (PX.new w (.slice A xs.length c) (.bool _) _).below hb)
    go_ret
    exact ⟨ret_str HT.out.symm, (below_alloc w _).trans (hb.mono (below_alloc w _).size)⟩

/-- what Format hands back -/
def formatB (xs : List ByteArray) (r : Bool) : ByteArray := if checkP xs r = 0 then textB xs r else ⟨#[]⟩

set_option maxHeartbeats 400000 in
theorem format_any (A : Option Addr) (c : Nat) (xs : List ByteArray) (r : Bool) (w : World) (h : RT w A c xs) (hz : ∀ x ∈ xs, x.size ≤ 1000000) :
    Calls Tryd.prog 26 #[.agg #[.slice A xs.length c, .bool r]] w fun e w' => e = .returned (.tuple #[.string (formatB xs r), .int .i64 (checkP xs r)]) ∧ Below w.heap.size w w' := by
  have HCK := Lib.hid (fun W (h : RT W A c xs) => check_any A c xs r W h (fun x hx => by have := hz x hx; omega))
  have HX := Lib.hid h
  have HF : Hid (formatB xs r = if checkP xs r = 0 then textB xs r else ⟨#[]⟩) := Lib.hid rfl
  by_cases hn : checkP xs r = 0
  · have hl := (check_zero hn).2.1
    have HTX := Lib.hid (fun W (h : RT W A c xs) => text_any A c xs r W h (by omega) hz)
    rw [if_pos hn] at HF
    clear h hz
    have hnB : (checkP xs r != 0) = false := by rw [hn]; rfl
    have HN := Lib.hid hn
    clear hn
    generalize checkP xs r = n at *
    go_enter Tryd.func26, Tryd.ntmps26
    go_wp2_with (first
      | (go_at_call 29; refine (HCK.out _ (HX.out.below (below_alloc _ _))).mono ?_; rintro e w1 ⟨rfl, hb⟩; obtain ⟨p1, p2, p3, p4, p5⟩ := (PX.new w (.slice A xs.length c) (.bool r) _).below hb; have HB1 := Lib.hid ((below_alloc w _).trans (hb.mono (below_alloc w _).size)); clear hb)
      | (go_at_call 56; refine (HTX.out _ (HX.out.below HB1.out)).mono ?_; rintro e w2 ⟨rfl, hb2⟩))
    go_ret2
    exact ⟨ret_si HF.out.symm HN.out.symm, HB1.out.trans (hb2.mono HB1.out.size)⟩
  · rw [if_neg hn] at HF
    clear h hz
    have hnB : (checkP xs r != 0) = true := by rw [bne_iff_ne]; exact hn
    clear hn
    generalize checkP xs r = n at *
    go_enter Tryd.func26, Tryd.ntmps26
    go_wp2_with (go_at_call 29; refine (HCK.out _ (HX.out.below (below_alloc _ _))).mono ?_; rintro e w1 ⟨rfl, hb⟩; have HB1 := Lib.hid ((below_alloc w _).trans (hb.mono (below_alloc w _).size)); clear hb)
    go_ret2
    exact ⟨ret_si HF.out.symm rfl, HB1.out⟩
end Go.Proofs.YtofmngfmoagenaaDoor

