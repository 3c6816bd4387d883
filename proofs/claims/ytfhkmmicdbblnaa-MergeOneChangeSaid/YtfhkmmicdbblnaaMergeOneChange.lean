/-
  MergeOneChange returns true.
-/
import Derived.Test.YtfhkmmicdbblnaaL15
import Derived.Test.YtfhkmmicdbblnaaMergeUnchanged
namespace Go.Proofs.Ytfhkmmicdbblnaa
set_option linter.unusedSimpArgs false
set_option linter.unusedVariables false
open Go.RowKit

theorem nl_none {s : ByteArray} (h : Lib.indexByte s.data.toList 10 < 0) : nlC s = 0 := by
  have h1 : Lib.indexByte s.data.toList 10 = -1 := by have := Lib.indexByte_ge s.data.toList 10; omega
  unfold nlC
  rw [List.count_eq_zero]
  intro hm
  obtain ⟨k, hk⟩ := List.mem_iff_getElem?.1 hm
  exact Lib.indexByte_none h1 k hk
/-- the two texts after k lines -/
def OC (t : Int) (k : Nat) (B S : ByteArray) : Prop := B.size ≤ 43 * k ∧ nlC B ≤ k ∧ S.size ≤ 43 * k + (if t < k then 51 else 0) ∧ nlC S ≤ k + (if t < k then 1 else 0)
theorem OC.start {t : Int} (h : 0 ≤ t) : OC t 0 ⟨#[]⟩ ⟨#[]⟩ := by
  refine ⟨by decide, by decide, ?_, ?_⟩
  · show 0 ≤ _
    exact Nat.zero_le _
  · show nlC ⟨#[]⟩ ≤ _
    rw [show nlC ⟨#[]⟩ = 0 from rfl]
    exact Nat.zero_le _
theorem OC.small {t : Int} {k : Nat} {B S : ByteArray} (h : OC t k B S) (hk : k ≤ 40) : B.size ≤ 1720 ∧ S.size ≤ 1771 := by
  obtain ⟨h1, _, h3, _⟩ := h
  split at h3 <;> omega
/-- a line to both texts, with or without the one put in -/
theorem OC.plain {t : Int} {k : Nat} {B S L : ByteArray} (h : OC t k B S) (hL : L.size ≤ 43 ∧ nlC L = 1) : OC t (k + 1) (B ++ L) (S ++ L) ∧ OC t (k + 1) (B ++ L) S := by
  obtain ⟨h1, h2, h3, h4⟩ := h
  have e1 := nlC_app B L
  have e2 := nlC_app S L
  have e3 := ByteArray.size_append (a := B) (b := L)
  have e4 := ByteArray.size_append (a := S) (b := L)
  unfold OC
  rw [e1, e2, e3, e4]
  split at h3 <;> split at h4 <;> split <;> omega
theorem OC.putIn {t : Int} {k : Nat} {B S L I : ByteArray} (h : OC t k B S) (ht : t = k) (hL : L.size ≤ 43 ∧ nlC L = 1) (hI : I.size ≤ 51 ∧ nlC I = 1) : OC t (k + 1) (B ++ L) (S ++ I ++ L) ∧ OC t (k + 1) (B ++ L) (S ++ I) := by
  obtain ⟨h1, h2, h3, h4⟩ := h
  have e1 := nlC_app B L
  have e2 := nlC_app (S ++ I) L
  have e5 := nlC_app S I
  have e3 := ByteArray.size_append (a := B) (b := L)
  have e4 := ByteArray.size_append (a := S ++ I) (b := L)
  have e6 := ByteArray.size_append (a := S) (b := I)
  unfold OC
  rw [e1, e2, e3, e4, e5, e6]
  rw [if_neg (by omega)] at h3 h4
  rw [if_pos (by omega)]
  rw [if_pos (by omega)]
  omega
theorem OC.few {t : Int} {k : Nat} {B S : ByteArray} (h : OC t k B S) (hk : k ≤ 40) : fewB [B, S] = true := by
  obtain ⟨_, h2, _, h4⟩ := h
  have l1 := lB_cnt B
  have l2 := lB_cnt S
  unfold fewB
  simp only [List.all_cons, List.all_nil, Bool.and_true, Bool.and_eq_true, decide_eq_true_eq]
  split at h4 <;> omega
theorem OC.few2 {t : Int} {k : Nat} {B S I : ByteArray} (h : OC t k B S) (hk : k ≤ 40) (hI : nlC I = 1) : fewB [B, S ++ I] = true := by
  obtain ⟨_, h2, _, h4⟩ := h
  have l1 := lB_cnt B
  have l2 := lB_cnt (S ++ I)
  rw [nlC_app] at l2
  unfold fewB
  simp only [List.all_cons, List.all_nil, Bool.and_true, Bool.and_eq_true, decide_eq_true_eq]
  split at h4 <;> omega

theorem has_any (s : ByteArray) (c : UInt8) (w : World) : Calls Try.prog 21 #[.string s, .string ⟨#[c]⟩] w fun e w' => e = .returned (.bool (decide (0 ≤ Lib.indexByte s.data.toList c))) ∧ w = w' :=
  (Try.strings_Contains_one s c w).mono fun _ _ ⟨he, hw⟩ => ⟨he, hw.symm⟩
set_option maxHeartbeats 4000000 in
set_option maxRecDepth 100000 in
theorem mergeOneChange_any (n at_ by_ : Int) (I : ByteArray) (w : World) (_ : (Lit.int IntKind.i64 n).wf = true) (_ : (Lit.int IntKind.i64 at_).wf = true) (_ : (Lit.int IntKind.i64 by_).wf = true) (hI : I.size ≤ maxLen) (hsh : w.ShapedOpen Try.prog) :
    Calls Try.prog 9 #[.int .i64 n, .int .i64 at_, .int .i64 by_, .string I] w fun e w' => e = .returned (.bool true) ∧ Below w.heap.size w w' := by
  clear hsh
  rename_i wf1 wf2 wf3
  clear wf1 wf2 wf3
  have HC1 := Lib.hid (fun W => has_any I 10 W)
  have HC2 := Lib.hid (fun W => has_any I 60 W)
  by_cases c1 : n < 1
  · go_enter Try.func9, Try.ntmps9
    go_wp2_with (first
      | (go_at_call_of 21 (Value.string ⟨#[10]⟩); refine (HC1.out _).mono ?_; rintro e w' ⟨rfl, rfl⟩)
      | (go_at_call 21; refine (HC2.out _).mono ?_; rintro e w' ⟨rfl, rfl⟩)
      | (go_at_call 11; refine (awake_any _).mono ?_; rintro e w' ⟨rfl, hbl⟩))
    go_ret
    exact ⟨rfl, hbl⟩
  by_cases c2 : 40 < n
  · go_enter Try.func9, Try.ntmps9
    go_wp2_with (first
      | (go_at_call_of 21 (Value.string ⟨#[10]⟩); refine (HC1.out _).mono ?_; rintro e w' ⟨rfl, rfl⟩)
      | (go_at_call 21; refine (HC2.out _).mono ?_; rintro e w' ⟨rfl, rfl⟩)
      | (go_at_call 11; refine (awake_any _).mono ?_; rintro e w' ⟨rfl, hbl⟩))
    go_ret
    exact ⟨rfl, hbl⟩
  by_cases c3 : at_ < 0
  · go_enter Try.func9, Try.ntmps9
    go_wp2_with (first
      | (go_at_call_of 21 (Value.string ⟨#[10]⟩); refine (HC1.out _).mono ?_; rintro e w' ⟨rfl, rfl⟩)
      | (go_at_call 21; refine (HC2.out _).mono ?_; rintro e w' ⟨rfl, rfl⟩)
      | (go_at_call 11; refine (awake_any _).mono ?_; rintro e w' ⟨rfl, hbl⟩))
    go_ret
    exact ⟨rfl, hbl⟩
  by_cases c4 : n < at_
  · go_enter Try.func9, Try.ntmps9
    go_wp2_with (first
      | (go_at_call_of 21 (Value.string ⟨#[10]⟩); refine (HC1.out _).mono ?_; rintro e w' ⟨rfl, rfl⟩)
      | (go_at_call 21; refine (HC2.out _).mono ?_; rintro e w' ⟨rfl, rfl⟩)
      | (go_at_call 11; refine (awake_any _).mono ?_; rintro e w' ⟨rfl, hbl⟩))
    go_ret
    exact ⟨rfl, hbl⟩
  by_cases c5 : by_ < 0
  · go_enter Try.func9, Try.ntmps9
    go_wp2_with (first
      | (go_at_call_of 21 (Value.string ⟨#[10]⟩); refine (HC1.out _).mono ?_; rintro e w' ⟨rfl, rfl⟩)
      | (go_at_call 21; refine (HC2.out _).mono ?_; rintro e w' ⟨rfl, rfl⟩)
      | (go_at_call 11; refine (awake_any _).mono ?_; rintro e w' ⟨rfl, hbl⟩))
    go_ret
    exact ⟨rfl, hbl⟩
  by_cases c6 : n - at_ < by_
  · go_enter Try.func9, Try.ntmps9
    go_wp2_with (first
      | (go_at_call_of 21 (Value.string ⟨#[10]⟩); refine (HC1.out _).mono ?_; rintro e w' ⟨rfl, rfl⟩)
      | (go_at_call 21; refine (HC2.out _).mono ?_; rintro e w' ⟨rfl, rfl⟩)
      | (go_at_call 11; refine (awake_any _).mono ?_; rintro e w' ⟨rfl, hbl⟩))
    go_ret
    exact ⟨rfl, hbl⟩
  by_cases c7 : 0 ≤ Lib.indexByte I.data.toList 10
  · rw [decide_eq_true c7] at HC1
    clear c7
    go_enter Try.func9, Try.ntmps9
    go_wp2_with (first
      | (go_at_call_of 21 (Value.string ⟨#[10]⟩); refine (HC1.out _).mono ?_; rintro e w' ⟨rfl, rfl⟩)
      | (go_at_call 21; refine (HC2.out _).mono ?_; rintro e w' ⟨rfl, rfl⟩)
      | (go_at_call 11; refine (awake_any _).mono ?_; rintro e w' ⟨rfl, hbl⟩))
    go_ret
    exact ⟨rfl, hbl⟩
  rw [decide_eq_false c7] at HC1
  by_cases c8 : 0 ≤ Lib.indexByte I.data.toList 60
  · rw [decide_eq_true c8] at HC2
    clear c7 c8
    go_enter Try.func9, Try.ntmps9
    go_wp2_with (first
      | (go_at_call_of 21 (Value.string ⟨#[10]⟩); refine (HC1.out _).mono ?_; rintro e w' ⟨rfl, rfl⟩)
      | (go_at_call 21; refine (HC2.out _).mono ?_; rintro e w' ⟨rfl, rfl⟩)
      | (go_at_call 11; refine (awake_any _).mono ?_; rintro e w' ⟨rfl, hbl⟩))
    go_ret
    exact ⟨rfl, hbl⟩
  rw [decide_eq_false c8] at HC2
  have HNI := Lib.hid (nl_none (s := I) (by omega))
  clear c7 c8
  by_cases c9 : 50 < I.size
  · have c9I : (50 : Int) < (I.size : Int) := by omega
    go_enter Try.func9, Try.ntmps9
    go_wp2_with (first
      | (go_at_call_of 21 (Value.string ⟨#[10]⟩); refine (HC1.out _).mono ?_; rintro e w' ⟨rfl, rfl⟩)
      | (go_at_call 21; refine (HC2.out _).mono ?_; rintro e w' ⟨rfl, rfl⟩)
      | (go_at_call 11; refine (awake_any _).mono ?_; rintro e w' ⟨rfl, hbl⟩))
    go_ret
    exact ⟨rfl, hbl⟩
  obtain ⟨N, rfl⟩ : ∃ N : Nat, n = N := ⟨n.toNat, by omega⟩
  have g1 : 1 ≤ (N : Int) := by omega
  have g2 : (N : Int) ≤ 40 := by omega
  have g3 : 0 ≤ at_ := by omega
  have g4 : at_ ≤ N := by omega
  have g5 : 0 ≤ by_ := by omega
  have g6 : by_ ≤ (N : Int) - at_ := by omega
  have g9 : ¬ (50 : Int) < (I.size : Int) := by omega
  clear c1 c2 c3 c4 c5 c6
  have HST := Lib.hid (OC.start g3)
  have HC3 := Lib.hid (fun (S T : ByteArray) (h : S.size + T.size ≤ 4000) (w : World) => run_string_add_sum (P := Try.prog) w S T (by omega))
  have hz0 : I.size + (⟨#[10]⟩ : ByteArray).size = I.size + 1 := rfl
  have hadd0 := HC3.out I ⟨#[10]⟩ (by rw [hz0]; omega)
  have HI : Hid ((I ++ (⟨#[10]⟩ : ByteArray)).size ≤ 51 ∧ nlC (I ++ (⟨#[10]⟩ : ByteArray)) = 1) := Lib.hid ⟨by rw [ByteArray.size_append, hz0]; omega, by rw [nlC_app, HNI.out]; rfl⟩
  clear hz0 HNI
  generalize hJ : I ++ (⟨#[10]⟩ : ByteArray) = J at *
  clear hJ
  go_enter Try.func9, Try.ntmps9
  go_wp2_with (first
    | (go_at_call_of 21 (Value.string ⟨#[10]⟩); refine (HC1.out _).mono ?_; rintro e w' ⟨rfl, rfl⟩)
    | (go_at_call 21; refine (HC2.out _).mono ?_; rintro e w' ⟨rfl, rfl⟩))
  clear HC1 HC2
  go_loopw [9, 10, 11] (fun b s i wr => ∃ (k : Nat) (B S : ByteArray), k ≤ N ∧ i = .int .i64 k ∧ b = .string B ∧ s = .string S ∧ Hid (OC at_ k B S) ∧ Hid (Below w.heap.size w wr)) (fun _ _ i _ => N - (intOf i).toNat)
  case atStart => exact ⟨0, _, _, Nat.zero_le _, rfl, rfl, rfl, HST, Lib.hid (Below.refl _ _)⟩
  case round =>
    obtain ⟨k, B, S, hk, rfl, rfl, rfl, HO, HB⟩ := hrel
    obtain ⟨z1, z2⟩ := HO.out.small (by omega)
    by_cases hlt : k < N
    · have HLN := Lib.hid (fun W => line_any k W (by omega))
      have HLS : Hid ((lineT k).size ≤ 43 ∧ nlC (lineT k) = 1) := Lib.hid ⟨by rw [(line_size k).1]; omega, (line_size k).2⟩
      generalize lineT k = L at *
      have hls := HLS.out.1
      have his := HI.out.1
      have hsj : (S ++ J).size ≤ 1822 := by rw [ByteArray.size_append]; omega
      have hadd1 := HC3.out B L (by omega)
      have hadd2 := HC3.out S L (by omega)
      have hadd3 := HC3.out S J (by omega)
      have hadd4 := HC3.out (S ++ J) L (by omega)
      clear hsj
      by_cases d1 : (k : Int) = at_
      · have d2 : ((k : Int) == at_) = true := by simpa using d1
        have d3 : ¬ (k : Int) < at_ := by omega
        by_cases d4 : by_ = 0
        · have HN := Lib.hid (HO.out.putIn d1.symm HLS.out HI.out).1
          have d5 : at_ + by_ ≤ (k : Int) := by omega
          clear d1 d4
          go_wp2_with (go_at_call 22; refine (HLN.out _).mono ?_; rintro e w' ⟨rfl, hb⟩; replace HB := Lib.hid (go3 HB.out hb); clear hb)
          go_roundw
          case rel => exact ⟨k + 1, _, _, by omega, by go_num, rfl, rfl, HN, HB⟩
          case measure => simp [intOf]; omega
        · have HN := Lib.hid (HO.out.putIn d1.symm HLS.out HI.out).2
          have d5 : ¬ at_ + by_ ≤ (k : Int) := by omega
          clear d1 d4
          go_wp2_with (go_at_call 22; refine (HLN.out _).mono ?_; rintro e w' ⟨rfl, hb⟩; replace HB := Lib.hid (go3 HB.out hb); clear hb)
          go_roundw
          case rel => exact ⟨k + 1, _, _, by omega, by go_num, rfl, rfl, HN, HB⟩
          case measure => simp [intOf]; omega
      · have d2 : ((k : Int) == at_) = false := by simpa using d1
        by_cases d3 : (k : Int) < at_
        · have HN := Lib.hid (HO.out.plain HLS.out).1
          clear d1
          go_wp2_with (go_at_call 22; refine (HLN.out _).mono ?_; rintro e w' ⟨rfl, hb⟩; replace HB := Lib.hid (go3 HB.out hb); clear hb)
          go_roundw
          case rel => exact ⟨k + 1, _, _, by omega, by go_num, rfl, rfl, HN, HB⟩
          case measure => simp [intOf]; omega
        · by_cases d5 : at_ + by_ ≤ (k : Int)
          · have HN := Lib.hid (HO.out.plain HLS.out).1
            clear d1
            go_wp2_with (go_at_call 22; refine (HLN.out _).mono ?_; rintro e w' ⟨rfl, hb⟩; replace HB := Lib.hid (go3 HB.out hb); clear hb)
            go_roundw
            case rel => exact ⟨k + 1, _, _, by omega, by go_num, rfl, rfl, HN, HB⟩
            case measure => simp [intOf]; omega
          · have HN := Lib.hid (HO.out.plain HLS.out).2
            clear d1
            go_wp2_with (go_at_call 22; refine (HLN.out _).mono ?_; rintro e w' ⟨rfl, hb⟩; replace HB := Lib.hid (go3 HB.out hb); clear hb)
            go_roundw
            case rel => exact ⟨k + 1, _, _, by omega, by go_num, rfl, rfl, HN, HB⟩
            case measure => simp [intOf]; omega
    · obtain rfl : k = N := by omega
      by_cases d1 : at_ = (k : Int)
      · have d2 : (at_ == (k : Int)) = true := by simpa using d1
        have HFW := Lib.hid (HO.out.few2 (by omega) HI.out.2)
        have his := HI.out.1
        have hadd3 := HC3.out S J (by omega)
        have hsj : (S ++ J).size ≤ 1822 := by rw [ByteArray.size_append]; omega
        clear d1
        generalize S ++ J = SS at *
        have HM := Lib.hid (fun W => merge_any B (SS) B W (by omega) (by omega) (by omega))
        unfold RetP at HM
        rw [dvE_of (few_theirs B (SS)), (dv_good HFW.out).2] at HM
        have t2 := text_theirs (lB B) (lB (SS))
        rw [← mergeT_good ((few_theirs B (SS)).trans HFW.out)] at t2
        have HTX : Hid (freeP (mergeT B (SS) B) = true ∧ catB (txL (mergeT B (SS) B)) = SS) := Lib.hid ⟨t2.1, by unfold txL; rw [t2.2]; exact cat_lB _⟩
        clear t2
        generalize mergeT B (SS) B = ps at *
        have HT := Lib.hid (fun A c W h => text_any A c ps W h (by rw [HTX.out.2]; omega))
        unfold RetTB' at HT
        rw [tx_good HTX.out.1, HTX.out.2, HTX.out.1] at HT
        have hss := str_self (SS)
        go_wp2_with fail
        go_at_call 12
        refine (HM.out _).mono ?_
        rintro e w1 ⟨A1, c1, rfl, rf, hb⟩
        replace HB := Lib.hid (go3 HB.out hb)
        have HR1 := Lib.hid rf
        have k1 : ps.length ≤ c1 := by have := rf.1; rwa [List.length_map] at this
        have k2 := rf.2.1
        clear rf hb HM
        go_wp2_with (first
          | (go_at_call 15; refine (HT.out _ _ _ HR1.out).mono ?_; rintro e w5 ⟨rfl, hb⟩; replace HB := Lib.hid (go3 HB.out hb); clear hb)
          | (go_at_call 11; refine (awake_any _).mono ?_; rintro e w' ⟨rfl, hbl⟩))
        go_ret
        exact ⟨rfl, go3 HB.out hbl⟩
      · have d2 : (at_ == (k : Int)) = false := by simpa using d1
        have HFW := Lib.hid (HO.out.few (by omega))
        clear d1
        have HM := Lib.hid (fun W => merge_any B (S) B W (by omega) (by omega) (by omega))
        unfold RetP at HM
        rw [dvE_of (few_theirs B (S)), (dv_good HFW.out).2] at HM
        have t2 := text_theirs (lB B) (lB (S))
        rw [← mergeT_good ((few_theirs B (S)).trans HFW.out)] at t2
        have HTX : Hid (freeP (mergeT B (S) B) = true ∧ catB (txL (mergeT B (S) B)) = S) := Lib.hid ⟨t2.1, by unfold txL; rw [t2.2]; exact cat_lB _⟩
        clear t2
        generalize mergeT B (S) B = ps at *
        have HT := Lib.hid (fun A c W h => text_any A c ps W h (by rw [HTX.out.2]; omega))
        unfold RetTB' at HT
        rw [tx_good HTX.out.1, HTX.out.2, HTX.out.1] at HT
        have hss := str_self (S)
        go_wp2_with fail
        go_at_call 12
        refine (HM.out _).mono ?_
        rintro e w1 ⟨A1, c1, rfl, rf, hb⟩
        replace HB := Lib.hid (go3 HB.out hb)
        have HR1 := Lib.hid rf
        have k1 : ps.length ≤ c1 := by have := rf.1; rwa [List.length_map] at this
        have k2 := rf.2.1
        clear rf hb HM
        go_wp2_with (first
          | (go_at_call 15; refine (HT.out _ _ _ HR1.out).mono ?_; rintro e w5 ⟨rfl, hb⟩; replace HB := Lib.hid (go3 HB.out hb); clear hb)
          | (go_at_call 11; refine (awake_any _).mono ?_; rintro e w' ⟨rfl, hbl⟩))
        go_ret
        exact ⟨rfl, go3 HB.out hbl⟩
end Go.Proofs.Ytfhkmmicdbblnaa

