/-
  MergeMerges returns true.
-/
import Derived.Test.YtfhkmmicdbblnaaDoorG5
import Derived.Test.YtfhkmmicdbblnaaDoorE8
import Derived.Test.YtfhkmmicdbblnaaDoorMergeDiffs
namespace Go.Proofs.YtfhkmmicdbblnaaDoor
set_option linter.unusedSimpArgs false
set_option linter.unusedVariables false
open Go.RowKit

/-- the text of pieces is no longer than both sides -/
theorem tx_le : ∀ (ps : List (Pc ByteArray)), (catB (ps.flatMap lineP)).size ≤ (catB (ps.flatMap (·.a))).size + (catB (ps.flatMap (·.b))).size
  | [] => Nat.zero_le _
  | p :: ps => by
    have ih := tx_le ps
    have e : ∀ f : Pc ByteArray → List ByteArray, (catB ((p :: ps).flatMap f)).size = (catB (f p)).size + (catB (ps.flatMap f)).size := fun f => by
      rw [List.flatMap_cons]
      unfold catB
      rw [mkB_size, mkB_size, mkB_size, List.map_append, List.flatten_append, List.length_append]
    rw [e, e, e]
    have : (catB (lineP p)).size ≤ (catB p.a).size + (catB p.b).size := by
      unfold lineP
      split
      · exact Nat.le_add_left _ _
      · exact Nat.le_add_right _ _
    omega
theorem mergeT_small (o a b : ByteArray) : (catB (txL (mergeT o a b))).size ≤ a.size + b.size ∧ ∀ p ∈ mergeT o a b, p.a.length ≤ 400 ∧ p.b.length ≤ 400 := by
  unfold mergeT txL
  cases hf : fewB [o, a, b] with
  | false =>
    rw [if_neg (by simp)]
    exact ⟨Nat.zero_le _, fun p hp => by cases hp⟩
  | true =>
    rw [if_pos rfl]
    obtain ⟨f1, f2, f3⟩ := few3 hf
    obtain ⟨h1, h2, h3⟩ := (mrg_ok (lB o) (lB a) (lB b)).1
    have := tx_le (mrg (lB o) (lB a) (lB b))
    rw [h2, h3, cat_lB, cat_lB] at this
    refine ⟨this, fun p hp => ?_⟩
    have l2 := mem_len (f := (·.a)) hp
    have l3 := mem_len (f := (·.b)) hp
    rw [h2] at l2
    rw [h3] at l3
    exact ⟨Nat.le_trans l2 f2, Nat.le_trans l3 f3⟩
set_option maxHeartbeats 4000000 in
set_option maxRecDepth 100000 in
theorem mergeMerges_any (o a b : ByteArray) (w : World) (ho : o.size ≤ maxLen) (ha : a.size ≤ maxLen) (hb : b.size ≤ maxLen) (hsh : w.ShapedOpen Tryd.prog) :
    Calls Tryd.prog 6 #[.string o, .string a, .string b] w fun e w' => e = .returned (.bool true) ∧ Below w.heap.size w w' := by
  have HM := Lib.hid (ML.of hsh)
  clear hsh
  cases hq : longB [o, a, b] with
  | true =>
    have HLG := longQ2 hq
    clear hq ho ha hb
    go_enter Tryd.func6, Tryd.ntmps6
    go_wp2_with (first
      | (go_at_call 7; refine (HLG.out _ _ _ (RT.three rfl)).mono ?_; rintro e w' ⟨rfl, rfl⟩)
      | (go_at_call 8; refine (awake_any _).mono ?_; rintro e w' ⟨rfl, hbl⟩))
    go_ret
    exact ⟨rfl, go3 (below_alloc _ _) hbl⟩
  | false =>
    have HLG := longQ2 hq
    have so := long_no hq o (by simp)
    have sa := long_no hq a (by simp)
    have sb := long_no hq b (by simp)
    have HM1 := Lib.hid (fun W => merge_any o a b W (by omega) (by omega) (by omega))
    have HM2 := Lib.hid (fun W h => rmerge_any o a b W (by omega) (by omega) (by omega) h)
    obtain ⟨q1, q2⟩ := mergeT_small o a b
    have HT1 := Lib.hid (fun A c W h => text_any A c (mergeT o a b) W h (by omega))
    have HT2 := Lib.hid (fun A c W h => rtext_any A c (mergeT o a b) W h (by omega) (fun p hp => by have := q2 p hp; omega))
    have HPS := Lib.hid (fun A B c d W h k => pieces_any A B c d (mergeT o a b) W h k)
    unfold RetP at HM1 HM2
    unfold RetTB' at HT1 HT2
    have hss := str_self (txS (mergeT o a b))
    have hqq : (freeP (mergeT o a b) == freeP (mergeT o a b)) = true := by simp
    have b1 : ((dvE [o, a, b] : Int) != dvE [o, a, b]) = false := by simp
    clear hq ho ha hb so sa sb q1 q2
    generalize txS (mergeT o a b) = S at *
    generalize freeP (mergeT o a b) = q at *
    generalize mergeT o a b = ps at *
    generalize dvE [o, a, b] = E at *
    go_enter Tryd.func6, Tryd.ntmps6
    go_wp2_with (first
      | (go_at_call 7; refine (HLG.out _ _ _ (RT.three rfl)).mono ?_; rintro e w' ⟨rfl, rfl⟩)
      | (go_at_call 18; refine (HM1.out _).mono ?_; rintro e w1 ⟨A1, c1, rfl, hrf, hb⟩; have HR1 := Lib.hid hrf; have HB1 := Lib.hid (go3 (below_alloc _ _) hb); clear hrf hb)
      | (go_at_call 19; refine (HM2.out _ (HM.out.below HB1.out)).mono ?_; rintro e w2 ⟨A2, c2, rfl, hrf, hb⟩; have HR2 := Lib.hid hrf; have HR12 := Lib.hid (HR1.out.below hb); have HB2 := Lib.hid (go3 HB1.out hb); clear hrf hb)
      | (go_at_call 20; refine (HPS.out _ _ _ _ _ HR12.out HR2.out).mono ?_; rintro e w3 ⟨rfl, hb⟩; have HB3 := Lib.hid (go3 HB2.out hb); have HR13 := Lib.hid (HR12.out.below hb); have HR23 := Lib.hid (HR2.out.below hb); clear hb)
      | (go_at_call 21; refine (HT1.out _ _ _ HR13.out).mono ?_; rintro e w4 ⟨rfl, hb⟩; have HB4 := Lib.hid (go3 HB3.out hb); have HR24 := Lib.hid (HR23.out.below hb); clear hb)
      | (go_at_call 22; refine (HT2.out _ _ _ HR24.out).mono ?_; rintro e w5 ⟨rfl, hb⟩; have HB5 := Lib.hid (go3 HB4.out hb); clear hb)
      | (go_at_call 8; refine (awake_any _).mono ?_; rintro e w' ⟨rfl, hbl⟩))
    go_ret
    exact ⟨rfl, go3 HB5.out hbl⟩
end Go.Proofs.YtfhkmmicdbblnaaDoor

