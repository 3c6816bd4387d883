/-
  MergeTexts returns true.
-/
import Derived.Test.YtfhkmmicdbblnaaE8
import Derived.Test.YtfhkmmicdbblnaaB2
import Derived.Test.YtfhkmmicdbblnaaMergeBack
namespace Go.Proofs.Ytfhkmmicdbblnaa
set_option linter.unusedSimpArgs false
set_option linter.unusedVariables false
open Go.RowKit

/-- the pieces are few and short enough -/
def fineP (ps : List (Pc ByteArray)) : Bool := ps.all fun p => decide (p.a.length + p.b.length ≤ 30) && (!longB p.a && !longB p.b)
theorem fineP_all {ps : List (Pc ByteArray)} (h : fineP ps = true) : ∀ p ∈ ps, p.a.length + p.b.length ≤ 30 ∧ (∀ x ∈ p.a, x.size ≤ 1000) ∧ ∀ x ∈ p.b, x.size ≤ 1000 := by
  intro p hp
  have := List.all_eq_true.1 h p hp
  rw [Bool.and_eq_true, Bool.and_eq_true, decide_eq_true_eq] at this
  exact ⟨this.1, long_no (by simpa using this.2.1), long_no (by simpa using this.2.2)⟩
theorem tx_bound {ps : List (Pc ByteArray)} (h : fineP ps = true) (hn : ps.length ≤ 30) : (catB (txL ps)).size ≤ 100000000 := by
  have hx : ∀ x ∈ txL ps, x.size ≤ 1000 := by
    intro x hx
    obtain ⟨p, hp, hx⟩ := List.mem_flatMap.1 hx
    have := fineP_all h p hp
    unfold lineP at hx
    split at hx
    · exact this.2.2 x hx
    · exact this.2.1 x hx
  have hl : ∀ (qs : List (Pc ByteArray)), (∀ p ∈ qs, (lineP p).length ≤ 30) → (txL qs).length ≤ qs.length * 30 := by
    intro qs
    induction qs with
    | nil => intro _; simp [txL]
    | cons q qs ih =>
      intro hq
      have h1 := hq q List.mem_cons_self
      have h2 := ih (fun p hp => hq p (List.mem_cons_of_mem _ hp))
      have e : txL (q :: qs) = lineP q ++ txL qs := rfl
      rw [e, List.length_append, List.length_cons, Nat.succ_mul]
      omega
  have h1 := hl ps (fun p hp => by
    have := (fineP_all h p hp).1
    unfold lineP
    split <;> omega)
  have h2 := catB_size hx
  have h3 : (txL ps).length * 1000 ≤ 900 * 1000 := Nat.mul_le_mul_right _ (by omega)
  omega

set_option maxHeartbeats 4000000 in
set_option maxRecDepth 100000 in
theorem mergeTexts_any (A : Option Addr) (c : Nat) (ps : List (Pc ByteArray)) (w : World) (h : RF w A c 4 (ps.map pcF)) (hz : ∀ q ∈ ps, ∀ x ∈ q.a ++ q.b, x.size ≤ maxLen) (hw : ∀ q ∈ ps, q.a.length ≤ reachBytes ∧ q.b.length ≤ reachBytes) (hsh : w.ShapedOpen Try.prog) :
    Calls Try.prog 4 #[.slice A ps.length c] w fun e w' => e = .returned (.bool true) ∧ Below w.heap.size w w' := by
  clear hsh hz
  have h1 := h.1
  have h2 := h.2.1
  rw [List.length_map] at h1
  have HR := Lib.hid h
  have HW := Lib.hid hw
  clear h hw
  by_cases hn : 30 < ps.length
  · have hnI : (30 : Int) < (ps.length : Int) := by omega
    go_enter Try.func4, Try.ntmps4
    go_wp2_with (go_at_call 11; refine (awake_any _).mono ?_; rintro e w' ⟨rfl, hbl⟩)
    go_ret
    exact ⟨rfl, hbl⟩
  have hnI : ¬ (30 : Int) < (ps.length : Int) := by omega
  have HN30 := Lib.hid hn
  clear hn
  go_enter Try.func4, Try.ntmps4
  go_wp2_with fail
  go_loopw [15] (fun i wr => ∃ k : Nat, k ≤ ps.length ∧ i = .int .i64 k ∧ Hid (fineP (ps.take k) = true) ∧ Hid (Below w.heap.size w wr)) (fun i _ => ps.length - (intOf i).toNat)
  case atStart => exact ⟨0, Nat.zero_le _, rfl, Lib.hid rfl, Lib.hid (Below.refl _ _)⟩
  case round =>
    obtain ⟨k, hk, rfl, HF, HB⟩ := hrel
    have hbs := HB.out.size
    by_cases hlt : k < ps.length
    · obtain ⟨⟨kd, O, P, Q⟩, hx⟩ : ∃ x, ps[k]? = some x := ⟨_, List.getElem?_eq_getElem hlt⟩
      obtain ⟨b, o, C1, n1, C2, n2, C3, n3, rfl, hb1, x0, x1, x2, x3, r1, r2, r3⟩ := (HR.out.below HB.out).piece hx
      simp only at x0 x1 x2 x3 r1 r2 r3
      have s1 := r1.1
      have s2 := r1.2.1
      have s3 := r2.1
      have s4 := r2.2.1
      have s5 := r3.1
      have s6 := r3.2.1
      obtain ⟨l1, l2⟩ := HW.out _ (List.mem_of_getElem? hx)
      simp only [reachBytes] at l1 l2
      have l3 : P.length ≤ 140737488351232 := by omega
      have l4 : Q.length ≤ 140737488351232 := by omega
      clear l1 l2
      have HT : Hid (ps.take (k + 1) = ps.take k ++ [⟨kd, O, P, Q⟩]) := Lib.hid (by rw [List.take_add_one, hx]; rfl)
      have HR2 := Lib.hid (r2.below (below_alloc wr (.cells #[.int .i64 kd, .slice C1 O.length n1, .slice C2 P.length n2, .slice C3 Q.length n3] 30)))
      have HR3 := Lib.hid (r3.below (below_alloc wr (.cells #[.int .i64 kd, .slice C1 O.length n1, .slice C2 P.length n2, .slice C3 Q.length n3] 30)))
      clear hx hb1 r1 r2 r3
      by_cases hl : 30 < P.length + Q.length
      · have hlI : (30 : Int) < (P.length : Int) + (Q.length : Int) := by omega
        go_wp2_with (go_at_call 11; refine (awake_any _).mono ?_; rintro e w' ⟨rfl, hbl⟩)
        go_ret
        exact ⟨rfl, go3 (HB.out.alloc hbs _) hbl⟩
      · have hlI : ¬ (30 : Int) < (P.length : Int) + (Q.length : Int) := by omega
        cases hq : longB P with
        | true =>
          have HLG2 := longQ hq
          clear hq
          go_wp2_with (first
            | (go_at_call 10; refine (HLG2.out _ _ _ HR2.out).mono ?_; rintro e w' ⟨rfl, rfl⟩)
            | (go_at_call 11; refine (awake_any _).mono ?_; rintro e w' ⟨rfl, hbl⟩))
          go_ret
          exact ⟨rfl, go3 (HB.out.alloc hbs _) hbl⟩
        | false =>
          have HLG2 := longQ hq
          cases hq3 : longB Q with
          | true =>
            have HLG3 := longQ hq3
            clear hq hq3
            go_wp2_with (first
              | (go_at_call_of 10 (Value.slice C2 P.length n2); refine (HLG2.out _ _ _ HR2.out).mono ?_; rintro e w' ⟨rfl, rfl⟩)
              | (go_at_call 10; refine (HLG3.out _ _ _ HR3.out).mono ?_; rintro e w' ⟨rfl, rfl⟩)
              | (go_at_call 11; refine (awake_any _).mono ?_; rintro e w' ⟨rfl, hbl⟩))
            go_ret
            exact ⟨rfl, go3 (HB.out.alloc hbs _) hbl⟩
          | false =>
            have HLG3 := longQ hq3
            have HF2 : Hid (fineP (ps.take (k + 1)) = true) := Lib.hid (by
              rw [HT.out]
              unfold fineP at HF ⊢
              rw [List.all_append, HF.out]
              simp [hq, hq3]
              omega)
            clear hq hq3
            go_wp2_with (first
              | (go_at_call_of 10 (Value.slice C2 P.length n2); refine (HLG2.out _ _ _ HR2.out).mono ?_; rintro e w' ⟨rfl, rfl⟩)
              | (go_at_call 10; refine (HLG3.out _ _ _ HR3.out).mono ?_; rintro e w' ⟨rfl, rfl⟩))
            go_roundw
            case rel => exact ⟨k + 1, by omega, by go_num, HF2, Lib.hid (HB.out.alloc hbs _)⟩
            case measure => simp [intOf]; omega
    · obtain rfl : k = ps.length := by omega
      have hF := HF.out
      rw [List.take_length] at hF
      have hbd := tx_bound hF (by have := HN30.out; omega)
      have HT1 := Lib.hid (fun A c W h => text_any A c ps W h hbd)
      have HT2 := Lib.hid (fun A c W h => rtext_any A c ps W h hbd (fun p hp => by have := (fineP_all hF p hp).1; omega))
      unfold RetTB' at HT1 HT2
      have hss := str_self (txS ps)
      have hqq : (freeP ps == freeP ps) = true := by simp
      clear HF hF hbd
      generalize txS ps = S at *
      generalize freeP ps = q at *
      go_wp2_with (first
        | (go_at_call 15; refine (HT1.out _ _ _ (HR.out.below HB.out)).mono ?_; rintro e w1 ⟨rfl, hb⟩; have HB1 := Lib.hid (go3 HB.out hb); clear hb)
        | (go_at_call 16; refine (HT2.out _ _ _ (HR.out.below HB1.out)).mono ?_; rintro e w2 ⟨rfl, hb⟩; have HB2 := Lib.hid (go3 HB1.out hb); clear hb)
        | (go_at_call 11; refine (awake_any _).mono ?_; rintro e w' ⟨rfl, hbl⟩))
      go_ret
      exact ⟨rfl, go3 HB2.out hbl⟩
end Go.Proofs.Ytfhkmmicdbblnaa

