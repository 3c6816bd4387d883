/-
  RuleBack returns true.
-/
import Derived.Test.YtidjmbmnfnnleaaDoorMR
namespace Go.Proofs.YtidjmbmnfnnleaaDoor
set_option linter.unusedSimpArgs false
set_option linter.unusedVariables false
open Go.RowKit
open Pm

/-- there and back -/
theorem fwd_back {xs ys : List ByteArray} {r t : Bool} {s : ByteArray} (h : fwdO xs r ys t s = true) : fwdO ys t xs r (fwdT xs r ys t s) = true ∧ fwdT ys t xs r (fwdT xs r ys t s) = s := by
  unfold fwdO trO at h
  rw [Bool.and_eq_true, Bool.and_eq_true, beq_iff_eq, beq_iff_eq] at h
  obtain ⟨h0, hm, hf⟩ := h
  have ht := ruleE_turn.1 h0
  have hx : mxB xs r s = capsB stB mpCap xs r s := by unfold mxB; rw [if_pos hm]
  rw [hx] at hf
  have hT : fwdT xs r ys t s = fillT ys t (capsB stB mpCap xs r s) := by unfold fwdT trT; rw [if_pos h0, if_pos hm, hx]
  have hfm := fills_match hf
  have hmf := match_fills hm
  rw [hT]
  have hy : mxB ys t (fillT ys t (capsB stB mpCap xs r s)) = capsB stB mpCap xs r s := by unfold mxB; rw [if_pos hfm.1]; exact hfm.2
  constructor
  · unfold fwdO trO
    rw [ht, hfm.1, hy, hmf.1]
    rfl
  · unfold fwdT trT
    rw [if_pos ht, if_pos hfm.1, hy, hmf.2]
theorem fwd_ok {xs ys : List ByteArray} {r t : Bool} {s : ByteArray} (h : fwdO xs r ys t s = true) : ruleE xs r ys t = 0 := by
  unfold fwdO at h
  rw [Bool.and_eq_true, beq_iff_eq] at h
  exact h.1
theorem sum3 {xs : List ByteArray} (h : small4B xs = true) : sumB xs ≤ 400 := by
  unfold small4B at h
  rw [Bool.and_eq_true, decide_eq_true_iff, decide_eq_true_iff] at h
  omega
/-- the captures fit into the path -/
theorem mxB_len {xs : List ByteArray} {r : Bool} {s : ByteArray} : ∀ y ∈ mxB xs r s, y.size ≤ s.size := by
  unfold mxB
  split
  · exact caps_size
  · intro y hy; cases hy
theorem fillT_size12 {xs : List ByteArray} {r : Bool} {cs : List ByteArray} (h : ∀ x ∈ cs, x.size ≤ 300) (hs : sumB xs ≤ 400) : (fillT xs r cs).size ≤ 5000 := by
  unfold fillT
  split
  · rename_i he
    have hl := (check_zero (fill_fil he).1).2.1
    unfold joinB joinL
    rw [mkB_size]
    have h1 := join_len_le (datj (fillL stB tlB xs r cs))
    have h2 := flC_sum (st := stB) (tl := tlB) tlB_size (xs := xs) (cs := cs) h
    have h3 : xs.length * (300 + 1) ≤ 12 * (300 + 1) := Nat.mul_le_mul_right _ hl
    have h4 : ((datj (fillL stB tlB xs r cs)).map (fun x => x.length + 1)).sum ≤ ((datj (flC stB tlB xs cs)).map (fun x => x.length + 1)).sum + 301 := by
      unfold fillL datj
      rw [List.map_append, List.map_append, List.sum_append]
      refine Nat.add_le_add_left ?_ _
      cases r with
      | false => simp
      | true =>
        rw [if_pos rfl]
        have hh : (lastC stB xs cs).size ≤ 300 := by
          unfold lastC
          cases hd : cs.drop (countB stB xs) with
          | nil => exact Nat.zero_le _
          | cons y ys => exact h y (List.mem_of_mem_drop (i := countB stB xs) (by rw [hd]; simp))
        rw [Lib.size_eq] at hh
        simp
        exact hh
    simp only [List.length_cons]
    omega
  · exact Nat.zero_le _
theorem fwdT_size {xs ys : List ByteArray} {r t : Bool} {s : ByteArray} (hy : small4B ys = true) (hs : s.size ≤ 300) : (fwdT xs r ys t s).size ≤ 5000 := by
  unfold fwdT
  split
  · unfold trT
    split
    · exact fillT_size12 (fun y h => Nat.le_trans (mxB_len y h) hs) (sum3 hy)
    · exact Nat.zero_le _
  · exact Nat.zero_le _

set_option maxHeartbeats 8000000 in
theorem ruleBack_any (ex : Bool) (A : Option Addr) (c : Nat) (xs : List ByteArray) (r : Bool) (B : Option Addr) (d : Nat) (ys : List ByteArray) (t : Bool) (s : ByteArray) (W : World) (h : RT W A c xs) (hz : ∀ x ∈ xs, x.size ≤ maxLen) (hg : ∀ x ∈ xs, x.size ≤ reachBytes) (k : RT W B d ys) (kz : ∀ x ∈ ys, x.size ≤ maxLen) (kg : ∀ x ∈ ys, x.size ≤ reachBytes) (hs : s.size ≤ maxLen) (hsh : W.ShapedOpen Tryd.prog) :
    Calls Tryd.prog 5 #[ruV ex A c xs r B d ys t, .string s] W fun e w' => e = .returned (.bool true) ∧ Below W.heap.size W w' := by
  unfold maxLen at hz kz hs
  have HI := PR.enter h k (ML.of hsh) ex r t 26
  have HFIT := Lib.hid (fun w h k m => fit_any ex A B c d xs ys r t w h k m hg kg)
  have hx1 := h.1
  have hx2 := h.2.1
  have hy1 := k.1
  have hy2 := k.2.1
  cases hf : fitB xs ys with
  | false =>
    rw [hf] at HFIT
    unfold ruV at *
    clear hsh h hz hg k kz kg hf
    go_enter Tryd.func5, Tryd.ntmps5
    go_wp2_with (first
      | (go_at_call 14; refine (HFIT.out _ (PR.x (HI.go (by repeat (first | exact Below.refl _ _ | apply Below.drew | apply below_drewN | apply below_al)))) (PR.y (HI.go (by repeat (first | exact Below.refl _ _ | apply Below.drew | apply below_drewN | apply below_al)))) (PR.m (HI.go (by repeat (first | exact Below.refl _ _ | apply Below.drew | apply below_drewN | apply below_al))))).mono ?_; rintro e w1 ⟨rfl, hb⟩; replace HI := HI.go2 (by repeat (first | exact Below.refl _ _ | apply Below.drew | apply below_drewN | apply below_al)) hb; clear hb)
      | (go_at_call 15; refine (rawake_any _ (PR.m (HI.go (by repeat (first | exact Below.refl _ _ | apply Below.drew | apply below_drewN | apply below_al))))).mono ?_; rintro e w8 ⟨rfl, hb⟩; replace HI := HI.go2 (by repeat (first | exact Below.refl _ _ | apply Below.drew | apply below_drewN | apply below_al)) hb; clear hb))
    go_ret
    exact ⟨rfl, PR.b (HI.go (by repeat (first | exact Below.refl _ _ | apply Below.drew | apply below_drewN | apply below_al)))⟩
  | true =>
    rw [hf] at HFIT
    by_cases hsz : s.size ≤ 300
    · have hf2 := hf
      unfold fitB at hf2
      rw [Bool.and_eq_true] at hf2
      have hsx := (small4_yes hf2.1).2
      have hsy := (small4_yes hf2.2).2
      have hlx := (small4_yes hf2.1).1
      have hly := (small4_yes hf2.2).1
      have HF1 := Lib.hid (fun w h k m => forward_any ex A B c d xs ys r t s w h k m hsx hsy (by omega))
      have HB1 := Lib.hid (fun w h k m => backward_any ex A B c d xs ys r t s w h k m hsx hsy (by omega))
      have HTU := Lib.hid (fun w h k m => turn_any ex A B c d xs ys r t w h k m (by omega) (by omega))
      have HB2 := Lib.hid (fun A' c' B' d' w k h m => backward_any ex A' B' c' d' ys xs t r s w k h m hsy hsx (by omega))
      have HCK := Lib.hid (fun w h k m => ruleCheck_any ex A B c d xs ys r t w h k m hsx hsy)
      have HB3 : Hid (fwdO xs r ys t s = true → ∀ w, RT w A c xs → RT w B d ys → ML w → Calls Tryd.prog 18 #[ruV ex A c xs r B d ys t, .string (fwdT xs r ys t s)] w (RetSB w s true)) := Lib.hid (fun ho w h k m => by
        have := backward_any ex A B c d xs ys r t (fwdT xs r ys t s) w h k m hsx hsy (fwdT_size hf2.2 hsz)
        rw [(fwd_back ho).1, (fwd_back ho).2] at this
        exact this)
      have HF3 : Hid (fwdO ys t xs r s = true → ∀ w, RT w A c xs → RT w B d ys → ML w → Calls Tryd.prog 16 #[ruV ex A c xs r B d ys t, .string (fwdT ys t xs r s)] w (RetSB w s true)) := Lib.hid (fun ho w h k m => by
        have := forward_any ex A B c d xs ys r t (fwdT ys t xs r s) w h k m hsx hsy (fwdT_size hf2.1 hsz)
        rw [(fwd_back ho).1, (fwd_back ho).2] at this
        exact this)
      have HOK1 := Lib.hid (fun (ho : fwdO xs r ys t s = true) => fwd_ok ho)
      have htt : ∀ x : ByteArray, (x.toList == x.toList) = true := fun x => by simp
      have h11 := htt (fwdT xs r ys t s)
      have h12 := htt s
      unfold RetR at HTU
      unfold ruV at *
      generalize fwdT xs r ys t s = T1 at *
      generalize fwdT ys t xs r s = T2 at *
      generalize fwdO xs r ys t s = O1 at *
      generalize fwdO ys t xs r s = O2 at *
      clear hsh h hz hg k kz kg hf hsx hsy htt hf2
      cases O1 with
      | true =>
        replace HB3 := Lib.hid (HB3.out rfl)
        rw [HOK1.out rfl] at HCK
        cases O2 with
        | true =>
          replace HF3 := Lib.hid (HF3.out rfl)
          go_enter Tryd.func5, Tryd.ntmps5
          go_wp2_with (first
            | (go_at_call 14; refine (HFIT.out _ (PR.x (HI.go (by repeat (first | exact Below.refl _ _ | apply Below.drew | apply below_drewN | apply below_al)))) (PR.y (HI.go (by repeat (first | exact Below.refl _ _ | apply Below.drew | apply below_drewN | apply below_al)))) (PR.m (HI.go (by repeat (first | exact Below.refl _ _ | apply Below.drew | apply below_drewN | apply below_al))))).mono ?_; rintro e w1 ⟨rfl, hb⟩; replace HI := HI.go2 (by repeat (first | exact Below.refl _ _ | apply Below.drew | apply below_drewN | apply below_al)) hb; clear hb; obtain ⟨p1, p2, p3, p4, p5, p6⟩ := PR.cells HI)
            | (go_at_call 20; refine (HTU.out _ (PR.x (HI.go (by repeat (first | exact Below.refl _ _ | apply Below.drew | apply below_drewN | apply below_al)))) (PR.y (HI.go (by repeat (first | exact Below.refl _ _ | apply Below.drew | apply below_drewN | apply below_al)))) (PR.m (HI.go (by repeat (first | exact Below.refl _ _ | apply Below.drew | apply below_drewN | apply below_al))))).mono ?_; rintro e w2 ⟨A', c', B', d', rfl, hr, hr2, hb⟩; replace HI := HI.go2 (by repeat (first | exact Below.refl _ _ | apply Below.drew | apply below_drewN | apply below_al)) hb; clear hb; have HRT : At (fun w => P5 w w2.heap.size (.bool ex) (.slice A' ys.length c') (.bool t) (.slice B' xs.length d') (.bool r) ∧ (RT w A' c' ys ∧ RT w B' d' xs)) (w2.alloc (.cells #[.bool ex, .slice A' ys.length c', .bool t, .slice B' xs.length d', .bool r] 26)) := ⟨(kept_p5 _ _ _ _ _ _).both ((kept_rt _ _ _).both (kept_rt _ _ _)), P5.new _ _ _ _ _ _ _, hr.below (below_alloc _ _), hr2.below (below_alloc _ _)⟩; have g1 := hr.1; have g2 := hr.2.1; have g3 := hr2.1; have g4 := hr2.2.1; clear hr hr2; obtain ⟨p1, p2, p3, p4, p5, p6⟩ := PR.cells HI)
            | (go_at_call_of 16 (Value.string s); refine (HF1.out _ (PR.x (HI.go (by repeat (first | exact Below.refl _ _ | apply Below.drew | apply below_drewN | apply below_al)))) (PR.y (HI.go (by repeat (first | exact Below.refl _ _ | apply Below.drew | apply below_drewN | apply below_al)))) (PR.m (HI.go (by repeat (first | exact Below.refl _ _ | apply Below.drew | apply below_drewN | apply below_al))))).mono ?_; rintro e w3 ⟨rfl, hb⟩; replace HRT := HRT.go2 (by repeat (first | exact Below.refl _ _ | apply Below.drew | apply below_drewN | apply below_al)) hb; replace HI := HI.go2 (by repeat (first | exact Below.refl _ _ | apply Below.drew | apply below_drewN | apply below_al)) hb; clear hb; obtain ⟨p1, p2, p3, p4, p5, p6⟩ := PR.cells HI; obtain ⟨q1, q2, q3, q4, q5, q6⟩ := HRT.out.1)
            | (go_at_call_of 18 (Value.agg #[.bool ex, .slice A' ys.length c', .bool t, .slice B' xs.length d', .bool r]); refine (HB2.out _ _ _ _ _ (HRT.go (by repeat (first | exact Below.refl _ _ | apply Below.drew | apply below_drewN | apply below_al))).out.2.1 (HRT.go (by repeat (first | exact Below.refl _ _ | apply Below.drew | apply below_drewN | apply below_al))).out.2.2 (PR.m (HI.go (by repeat (first | exact Below.refl _ _ | apply Below.drew | apply below_drewN | apply below_al))))).mono ?_; rintro e w4 ⟨rfl, hb⟩; replace HI := HI.go2 (by repeat (first | exact Below.refl _ _ | apply Below.drew | apply below_drewN | apply below_al)) hb; clear hb; obtain ⟨p1, p2, p3, p4, p5, p6⟩ := PR.cells HI)
            | (go_at_call 21; refine (HCK.out _ (PR.x (HI.go (by repeat (first | exact Below.refl _ _ | apply Below.drew | apply below_drewN | apply below_al)))) (PR.y (HI.go (by repeat (first | exact Below.refl _ _ | apply Below.drew | apply below_drewN | apply below_al)))) (PR.m (HI.go (by repeat (first | exact Below.refl _ _ | apply Below.drew | apply below_drewN | apply below_al))))).mono ?_; rintro e w5 ⟨rfl, hb⟩; replace HI := HI.go2 (by repeat (first | exact Below.refl _ _ | apply Below.drew | apply below_drewN | apply below_al)) hb; clear hb; obtain ⟨p1, p2, p3, p4, p5, p6⟩ := PR.cells HI)
            | (go_at_call_of 18 (Value.string T1); refine (HB3.out _ (PR.x (HI.go (by repeat (first | exact Below.refl _ _ | apply Below.drew | apply below_drewN | apply below_al)))) (PR.y (HI.go (by repeat (first | exact Below.refl _ _ | apply Below.drew | apply below_drewN | apply below_al)))) (PR.m (HI.go (by repeat (first | exact Below.refl _ _ | apply Below.drew | apply below_drewN | apply below_al))))).mono ?_; rintro e w6 ⟨rfl, hb⟩; replace HI := HI.go2 (by repeat (first | exact Below.refl _ _ | apply Below.drew | apply below_drewN | apply below_al)) hb; clear hb; obtain ⟨p1, p2, p3, p4, p5, p6⟩ := PR.cells HI)
            | (go_at_call_of 18 (Value.string s); refine (HB1.out _ (PR.x (HI.go (by repeat (first | exact Below.refl _ _ | apply Below.drew | apply below_drewN | apply below_al)))) (PR.y (HI.go (by repeat (first | exact Below.refl _ _ | apply Below.drew | apply below_drewN | apply below_al)))) (PR.m (HI.go (by repeat (first | exact Below.refl _ _ | apply Below.drew | apply below_drewN | apply below_al))))).mono ?_; rintro e w7 ⟨rfl, hb⟩; replace HI := HI.go2 (by repeat (first | exact Below.refl _ _ | apply Below.drew | apply below_drewN | apply below_al)) hb; clear hb; obtain ⟨p1, p2, p3, p4, p5, p6⟩ := PR.cells HI)
            | (go_at_call_of 16 (Value.string T2); refine (HF3.out _ (PR.x (HI.go (by repeat (first | exact Below.refl _ _ | apply Below.drew | apply below_drewN | apply below_al)))) (PR.y (HI.go (by repeat (first | exact Below.refl _ _ | apply Below.drew | apply below_drewN | apply below_al)))) (PR.m (HI.go (by repeat (first | exact Below.refl _ _ | apply Below.drew | apply below_drewN | apply below_al))))).mono ?_; rintro e w8 ⟨rfl, hb⟩; replace HI := HI.go2 (by repeat (first | exact Below.refl _ _ | apply Below.drew | apply below_drewN | apply below_al)) hb; clear hb; obtain ⟨p1, p2, p3, p4, p5, p6⟩ := PR.cells HI)
            | (go_at_call 15; refine (rawake_any _ (PR.m (HI.go (by repeat (first | exact Below.refl _ _ | apply Below.drew | apply below_drewN | apply below_al))))).mono ?_; rintro e w9 ⟨rfl, hb⟩; replace HI := HI.go2 (by repeat (first | exact Below.refl _ _ | apply Below.drew | apply below_drewN | apply below_al)) hb; clear hb))
          all_goals go_ret
          all_goals exact ⟨rfl, PR.b (HI.go (by repeat (first | exact Below.refl _ _ | apply Below.drew | apply below_drewN | apply below_al)))⟩
        | false =>
          go_enter Tryd.func5, Tryd.ntmps5
          go_wp2_with (first
            | (go_at_call 14; refine (HFIT.out _ (PR.x (HI.go (by repeat (first | exact Below.refl _ _ | apply Below.drew | apply below_drewN | apply below_al)))) (PR.y (HI.go (by repeat (first | exact Below.refl _ _ | apply Below.drew | apply below_drewN | apply below_al)))) (PR.m (HI.go (by repeat (first | exact Below.refl _ _ | apply Below.drew | apply below_drewN | apply below_al))))).mono ?_; rintro e w1 ⟨rfl, hb⟩; replace HI := HI.go2 (by repeat (first | exact Below.refl _ _ | apply Below.drew | apply below_drewN | apply below_al)) hb; clear hb; obtain ⟨p1, p2, p3, p4, p5, p6⟩ := PR.cells HI)
            | (go_at_call 20; refine (HTU.out _ (PR.x (HI.go (by repeat (first | exact Below.refl _ _ | apply Below.drew | apply below_drewN | apply below_al)))) (PR.y (HI.go (by repeat (first | exact Below.refl _ _ | apply Below.drew | apply below_drewN | apply below_al)))) (PR.m (HI.go (by repeat (first | exact Below.refl _ _ | apply Below.drew | apply below_drewN | apply below_al))))).mono ?_; rintro e w2 ⟨A', c', B', d', rfl, hr, hr2, hb⟩; replace HI := HI.go2 (by repeat (first | exact Below.refl _ _ | apply Below.drew | apply below_drewN | apply below_al)) hb; clear hb; have HRT : At (fun w => P5 w w2.heap.size (.bool ex) (.slice A' ys.length c') (.bool t) (.slice B' xs.length d') (.bool r) ∧ (RT w A' c' ys ∧ RT w B' d' xs)) (w2.alloc (.cells #[.bool ex, .slice A' ys.length c', .bool t, .slice B' xs.length d', .bool r] 26)) := ⟨(kept_p5 _ _ _ _ _ _).both ((kept_rt _ _ _).both (kept_rt _ _ _)), P5.new _ _ _ _ _ _ _, hr.below (below_alloc _ _), hr2.below (below_alloc _ _)⟩; have g1 := hr.1; have g2 := hr.2.1; have g3 := hr2.1; have g4 := hr2.2.1; clear hr hr2; obtain ⟨p1, p2, p3, p4, p5, p6⟩ := PR.cells HI)
            | (go_at_call_of 16 (Value.string s); refine (HF1.out _ (PR.x (HI.go (by repeat (first | exact Below.refl _ _ | apply Below.drew | apply below_drewN | apply below_al)))) (PR.y (HI.go (by repeat (first | exact Below.refl _ _ | apply Below.drew | apply below_drewN | apply below_al)))) (PR.m (HI.go (by repeat (first | exact Below.refl _ _ | apply Below.drew | apply below_drewN | apply below_al))))).mono ?_; rintro e w3 ⟨rfl, hb⟩; replace HRT := HRT.go2 (by repeat (first | exact Below.refl _ _ | apply Below.drew | apply below_drewN | apply below_al)) hb; replace HI := HI.go2 (by repeat (first | exact Below.refl _ _ | apply Below.drew | apply below_drewN | apply below_al)) hb; clear hb; obtain ⟨p1, p2, p3, p4, p5, p6⟩ := PR.cells HI; obtain ⟨q1, q2, q3, q4, q5, q6⟩ := HRT.out.1)
            | (go_at_call_of 18 (Value.agg #[.bool ex, .slice A' ys.length c', .bool t, .slice B' xs.length d', .bool r]); refine (HB2.out _ _ _ _ _ (HRT.go (by repeat (first | exact Below.refl _ _ | apply Below.drew | apply below_drewN | apply below_al))).out.2.1 (HRT.go (by repeat (first | exact Below.refl _ _ | apply Below.drew | apply below_drewN | apply below_al))).out.2.2 (PR.m (HI.go (by repeat (first | exact Below.refl _ _ | apply Below.drew | apply below_drewN | apply below_al))))).mono ?_; rintro e w4 ⟨rfl, hb⟩; replace HI := HI.go2 (by repeat (first | exact Below.refl _ _ | apply Below.drew | apply below_drewN | apply below_al)) hb; clear hb; obtain ⟨p1, p2, p3, p4, p5, p6⟩ := PR.cells HI)
            | (go_at_call 21; refine (HCK.out _ (PR.x (HI.go (by repeat (first | exact Below.refl _ _ | apply Below.drew | apply below_drewN | apply below_al)))) (PR.y (HI.go (by repeat (first | exact Below.refl _ _ | apply Below.drew | apply below_drewN | apply below_al)))) (PR.m (HI.go (by repeat (first | exact Below.refl _ _ | apply Below.drew | apply below_drewN | apply below_al))))).mono ?_; rintro e w5 ⟨rfl, hb⟩; replace HI := HI.go2 (by repeat (first | exact Below.refl _ _ | apply Below.drew | apply below_drewN | apply below_al)) hb; clear hb; obtain ⟨p1, p2, p3, p4, p5, p6⟩ := PR.cells HI)
            | (go_at_call_of 18 (Value.string T1); refine (HB3.out _ (PR.x (HI.go (by repeat (first | exact Below.refl _ _ | apply Below.drew | apply below_drewN | apply below_al)))) (PR.y (HI.go (by repeat (first | exact Below.refl _ _ | apply Below.drew | apply below_drewN | apply below_al)))) (PR.m (HI.go (by repeat (first | exact Below.refl _ _ | apply Below.drew | apply below_drewN | apply below_al))))).mono ?_; rintro e w6 ⟨rfl, hb⟩; replace HI := HI.go2 (by repeat (first | exact Below.refl _ _ | apply Below.drew | apply below_drewN | apply below_al)) hb; clear hb; obtain ⟨p1, p2, p3, p4, p5, p6⟩ := PR.cells HI)
            | (go_at_call_of 18 (Value.string s); refine (HB1.out _ (PR.x (HI.go (by repeat (first | exact Below.refl _ _ | apply Below.drew | apply below_drewN | apply below_al)))) (PR.y (HI.go (by repeat (first | exact Below.refl _ _ | apply Below.drew | apply below_drewN | apply below_al)))) (PR.m (HI.go (by repeat (first | exact Below.refl _ _ | apply Below.drew | apply below_drewN | apply below_al))))).mono ?_; rintro e w7 ⟨rfl, hb⟩; replace HI := HI.go2 (by repeat (first | exact Below.refl _ _ | apply Below.drew | apply below_drewN | apply below_al)) hb; clear hb; obtain ⟨p1, p2, p3, p4, p5, p6⟩ := PR.cells HI)
            | (go_at_call_of 16 (Value.string T2); refine (HF3.out _ (PR.x (HI.go (by repeat (first | exact Below.refl _ _ | apply Below.drew | apply below_drewN | apply below_al)))) (PR.y (HI.go (by repeat (first | exact Below.refl _ _ | apply Below.drew | apply below_drewN | apply below_al)))) (PR.m (HI.go (by repeat (first | exact Below.refl _ _ | apply Below.drew | apply below_drewN | apply below_al))))).mono ?_; rintro e w8 ⟨rfl, hb⟩; replace HI := HI.go2 (by repeat (first | exact Below.refl _ _ | apply Below.drew | apply below_drewN | apply below_al)) hb; clear hb; obtain ⟨p1, p2, p3, p4, p5, p6⟩ := PR.cells HI)
            | (go_at_call 15; refine (rawake_any _ (PR.m (HI.go (by repeat (first | exact Below.refl _ _ | apply Below.drew | apply below_drewN | apply below_al))))).mono ?_; rintro e w9 ⟨rfl, hb⟩; replace HI := HI.go2 (by repeat (first | exact Below.refl _ _ | apply Below.drew | apply below_drewN | apply below_al)) hb; clear hb))
          all_goals go_ret
          all_goals exact ⟨rfl, PR.b (HI.go (by repeat (first | exact Below.refl _ _ | apply Below.drew | apply below_drewN | apply below_al)))⟩
      | false =>
        generalize ruleE xs r ys t = nn at *
        cases O2 with
        | true =>
          replace HF3 := Lib.hid (HF3.out rfl)
          go_enter Tryd.func5, Tryd.ntmps5
          go_wp2_with (first
            | (go_at_call 14; refine (HFIT.out _ (PR.x (HI.go (by repeat (first | exact Below.refl _ _ | apply Below.drew | apply below_drewN | apply below_al)))) (PR.y (HI.go (by repeat (first | exact Below.refl _ _ | apply Below.drew | apply below_drewN | apply below_al)))) (PR.m (HI.go (by repeat (first | exact Below.refl _ _ | apply Below.drew | apply below_drewN | apply below_al))))).mono ?_; rintro e w1 ⟨rfl, hb⟩; replace HI := HI.go2 (by repeat (first | exact Below.refl _ _ | apply Below.drew | apply below_drewN | apply below_al)) hb; clear hb; obtain ⟨p1, p2, p3, p4, p5, p6⟩ := PR.cells HI)
            | (go_at_call 20; refine (HTU.out _ (PR.x (HI.go (by repeat (first | exact Below.refl _ _ | apply Below.drew | apply below_drewN | apply below_al)))) (PR.y (HI.go (by repeat (first | exact Below.refl _ _ | apply Below.drew | apply below_drewN | apply below_al)))) (PR.m (HI.go (by repeat (first | exact Below.refl _ _ | apply Below.drew | apply below_drewN | apply below_al))))).mono ?_; rintro e w2 ⟨A', c', B', d', rfl, hr, hr2, hb⟩; replace HI := HI.go2 (by repeat (first | exact Below.refl _ _ | apply Below.drew | apply below_drewN | apply below_al)) hb; clear hb; have HRT : At (fun w => P5 w w2.heap.size (.bool ex) (.slice A' ys.length c') (.bool t) (.slice B' xs.length d') (.bool r) ∧ (RT w A' c' ys ∧ RT w B' d' xs)) (w2.alloc (.cells #[.bool ex, .slice A' ys.length c', .bool t, .slice B' xs.length d', .bool r] 26)) := ⟨(kept_p5 _ _ _ _ _ _).both ((kept_rt _ _ _).both (kept_rt _ _ _)), P5.new _ _ _ _ _ _ _, hr.below (below_alloc _ _), hr2.below (below_alloc _ _)⟩; have g1 := hr.1; have g2 := hr.2.1; have g3 := hr2.1; have g4 := hr2.2.1; clear hr hr2; obtain ⟨p1, p2, p3, p4, p5, p6⟩ := PR.cells HI)
            | (go_at_call_of 16 (Value.string s); refine (HF1.out _ (PR.x (HI.go (by repeat (first | exact Below.refl _ _ | apply Below.drew | apply below_drewN | apply below_al)))) (PR.y (HI.go (by repeat (first | exact Below.refl _ _ | apply Below.drew | apply below_drewN | apply below_al)))) (PR.m (HI.go (by repeat (first | exact Below.refl _ _ | apply Below.drew | apply below_drewN | apply below_al))))).mono ?_; rintro e w3 ⟨rfl, hb⟩; replace HRT := HRT.go2 (by repeat (first | exact Below.refl _ _ | apply Below.drew | apply below_drewN | apply below_al)) hb; replace HI := HI.go2 (by repeat (first | exact Below.refl _ _ | apply Below.drew | apply below_drewN | apply below_al)) hb; clear hb; obtain ⟨p1, p2, p3, p4, p5, p6⟩ := PR.cells HI; obtain ⟨q1, q2, q3, q4, q5, q6⟩ := HRT.out.1)
            | (go_at_call_of 18 (Value.agg #[.bool ex, .slice A' ys.length c', .bool t, .slice B' xs.length d', .bool r]); refine (HB2.out _ _ _ _ _ (HRT.go (by repeat (first | exact Below.refl _ _ | apply Below.drew | apply below_drewN | apply below_al))).out.2.1 (HRT.go (by repeat (first | exact Below.refl _ _ | apply Below.drew | apply below_drewN | apply below_al))).out.2.2 (PR.m (HI.go (by repeat (first | exact Below.refl _ _ | apply Below.drew | apply below_drewN | apply below_al))))).mono ?_; rintro e w4 ⟨rfl, hb⟩; replace HI := HI.go2 (by repeat (first | exact Below.refl _ _ | apply Below.drew | apply below_drewN | apply below_al)) hb; clear hb; obtain ⟨p1, p2, p3, p4, p5, p6⟩ := PR.cells HI)
            | (go_at_call 21; refine (HCK.out _ (PR.x (HI.go (by repeat (first | exact Below.refl _ _ | apply Below.drew | apply below_drewN | apply below_al)))) (PR.y (HI.go (by repeat (first | exact Below.refl _ _ | apply Below.drew | apply below_drewN | apply below_al)))) (PR.m (HI.go (by repeat (first | exact Below.refl _ _ | apply Below.drew | apply below_drewN | apply below_al))))).mono ?_; rintro e w5 ⟨rfl, hb⟩; replace HI := HI.go2 (by repeat (first | exact Below.refl _ _ | apply Below.drew | apply below_drewN | apply below_al)) hb; clear hb; obtain ⟨p1, p2, p3, p4, p5, p6⟩ := PR.cells HI)
            | (go_at_call_of 18 (Value.string T1); refine (HB3.out _ (PR.x (HI.go (by repeat (first | exact Below.refl _ _ | apply Below.drew | apply below_drewN | apply below_al)))) (PR.y (HI.go (by repeat (first | exact Below.refl _ _ | apply Below.drew | apply below_drewN | apply below_al)))) (PR.m (HI.go (by repeat (first | exact Below.refl _ _ | apply Below.drew | apply below_drewN | apply below_al))))).mono ?_; rintro e w6 ⟨rfl, hb⟩; replace HI := HI.go2 (by repeat (first | exact Below.refl _ _ | apply Below.drew | apply below_drewN | apply below_al)) hb; clear hb; obtain ⟨p1, p2, p3, p4, p5, p6⟩ := PR.cells HI)
            | (go_at_call_of 18 (Value.string s); refine (HB1.out _ (PR.x (HI.go (by repeat (first | exact Below.refl _ _ | apply Below.drew | apply below_drewN | apply below_al)))) (PR.y (HI.go (by repeat (first | exact Below.refl _ _ | apply Below.drew | apply below_drewN | apply below_al)))) (PR.m (HI.go (by repeat (first | exact Below.refl _ _ | apply Below.drew | apply below_drewN | apply below_al))))).mono ?_; rintro e w7 ⟨rfl, hb⟩; replace HI := HI.go2 (by repeat (first | exact Below.refl _ _ | apply Below.drew | apply below_drewN | apply below_al)) hb; clear hb; obtain ⟨p1, p2, p3, p4, p5, p6⟩ := PR.cells HI)
            | (go_at_call_of 16 (Value.string T2); refine (HF3.out _ (PR.x (HI.go (by repeat (first | exact Below.refl _ _ | apply Below.drew | apply below_drewN | apply below_al)))) (PR.y (HI.go (by repeat (first | exact Below.refl _ _ | apply Below.drew | apply below_drewN | apply below_al)))) (PR.m (HI.go (by repeat (first | exact Below.refl _ _ | apply Below.drew | apply below_drewN | apply below_al))))).mono ?_; rintro e w8 ⟨rfl, hb⟩; replace HI := HI.go2 (by repeat (first | exact Below.refl _ _ | apply Below.drew | apply below_drewN | apply below_al)) hb; clear hb; obtain ⟨p1, p2, p3, p4, p5, p6⟩ := PR.cells HI)
            | (go_at_call 15; refine (rawake_any _ (PR.m (HI.go (by repeat (first | exact Below.refl _ _ | apply Below.drew | apply below_drewN | apply below_al))))).mono ?_; rintro e w9 ⟨rfl, hb⟩; replace HI := HI.go2 (by repeat (first | exact Below.refl _ _ | apply Below.drew | apply below_drewN | apply below_al)) hb; clear hb))
          all_goals go_ret
          all_goals exact ⟨rfl, PR.b (HI.go (by repeat (first | exact Below.refl _ _ | apply Below.drew | apply below_drewN | apply below_al)))⟩
        | false =>
          go_enter Tryd.func5, Tryd.ntmps5
          go_wp2_with (first
            | (go_at_call 14; refine (HFIT.out _ (PR.x (HI.go (by repeat (first | exact Below.refl _ _ | apply Below.drew | apply below_drewN | apply below_al)))) (PR.y (HI.go (by repeat (first | exact Below.refl _ _ | apply Below.drew | apply below_drewN | apply below_al)))) (PR.m (HI.go (by repeat (first | exact Below.refl _ _ | apply Below.drew | apply below_drewN | apply below_al))))).mono ?_; rintro e w1 ⟨rfl, hb⟩; replace HI := HI.go2 (by repeat (first | exact Below.refl _ _ | apply Below.drew | apply below_drewN | apply below_al)) hb; clear hb; obtain ⟨p1, p2, p3, p4, p5, p6⟩ := PR.cells HI)
            | (go_at_call 20; refine (HTU.out _ (PR.x (HI.go (by repeat (first | exact Below.refl _ _ | apply Below.drew | apply below_drewN | apply below_al)))) (PR.y (HI.go (by repeat (first | exact Below.refl _ _ | apply Below.drew | apply below_drewN | apply below_al)))) (PR.m (HI.go (by repeat (first | exact Below.refl _ _ | apply Below.drew | apply below_drewN | apply below_al))))).mono ?_; rintro e w2 ⟨A', c', B', d', rfl, hr, hr2, hb⟩; replace HI := HI.go2 (by repeat (first | exact Below.refl _ _ | apply Below.drew | apply below_drewN | apply below_al)) hb; clear hb; have HRT : At (fun w => P5 w w2.heap.size (.bool ex) (.slice A' ys.length c') (.bool t) (.slice B' xs.length d') (.bool r) ∧ (RT w A' c' ys ∧ RT w B' d' xs)) (w2.alloc (.cells #[.bool ex, .slice A' ys.length c', .bool t, .slice B' xs.length d', .bool r] 26)) := ⟨(kept_p5 _ _ _ _ _ _).both ((kept_rt _ _ _).both (kept_rt _ _ _)), P5.new _ _ _ _ _ _ _, hr.below (below_alloc _ _), hr2.below (below_alloc _ _)⟩; have g1 := hr.1; have g2 := hr.2.1; have g3 := hr2.1; have g4 := hr2.2.1; clear hr hr2; obtain ⟨p1, p2, p3, p4, p5, p6⟩ := PR.cells HI)
            | (go_at_call_of 16 (Value.string s); refine (HF1.out _ (PR.x (HI.go (by repeat (first | exact Below.refl _ _ | apply Below.drew | apply below_drewN | apply below_al)))) (PR.y (HI.go (by repeat (first | exact Below.refl _ _ | apply Below.drew | apply below_drewN | apply below_al)))) (PR.m (HI.go (by repeat (first | exact Below.refl _ _ | apply Below.drew | apply below_drewN | apply below_al))))).mono ?_; rintro e w3 ⟨rfl, hb⟩; replace HRT := HRT.go2 (by repeat (first | exact Below.refl _ _ | apply Below.drew | apply below_drewN | apply below_al)) hb; replace HI := HI.go2 (by repeat (first | exact Below.refl _ _ | apply Below.drew | apply below_drewN | apply below_al)) hb; clear hb; obtain ⟨p1, p2, p3, p4, p5, p6⟩ := PR.cells HI; obtain ⟨q1, q2, q3, q4, q5, q6⟩ := HRT.out.1)
            | (go_at_call_of 18 (Value.agg #[.bool ex, .slice A' ys.length c', .bool t, .slice B' xs.length d', .bool r]); refine (HB2.out _ _ _ _ _ (HRT.go (by repeat (first | exact Below.refl _ _ | apply Below.drew | apply below_drewN | apply below_al))).out.2.1 (HRT.go (by repeat (first | exact Below.refl _ _ | apply Below.drew | apply below_drewN | apply below_al))).out.2.2 (PR.m (HI.go (by repeat (first | exact Below.refl _ _ | apply Below.drew | apply below_drewN | apply below_al))))).mono ?_; rintro e w4 ⟨rfl, hb⟩; replace HI := HI.go2 (by repeat (first | exact Below.refl _ _ | apply Below.drew | apply below_drewN | apply below_al)) hb; clear hb; obtain ⟨p1, p2, p3, p4, p5, p6⟩ := PR.cells HI)
            | (go_at_call 21; refine (HCK.out _ (PR.x (HI.go (by repeat (first | exact Below.refl _ _ | apply Below.drew | apply below_drewN | apply below_al)))) (PR.y (HI.go (by repeat (first | exact Below.refl _ _ | apply Below.drew | apply below_drewN | apply below_al)))) (PR.m (HI.go (by repeat (first | exact Below.refl _ _ | apply Below.drew | apply below_drewN | apply below_al))))).mono ?_; rintro e w5 ⟨rfl, hb⟩; replace HI := HI.go2 (by repeat (first | exact Below.refl _ _ | apply Below.drew | apply below_drewN | apply below_al)) hb; clear hb; obtain ⟨p1, p2, p3, p4, p5, p6⟩ := PR.cells HI)
            | (go_at_call_of 18 (Value.string T1); refine (HB3.out _ (PR.x (HI.go (by repeat (first | exact Below.refl _ _ | apply Below.drew | apply below_drewN | apply below_al)))) (PR.y (HI.go (by repeat (first | exact Below.refl _ _ | apply Below.drew | apply below_drewN | apply below_al)))) (PR.m (HI.go (by repeat (first | exact Below.refl _ _ | apply Below.drew | apply below_drewN | apply below_al))))).mono ?_; rintro e w6 ⟨rfl, hb⟩; replace HI := HI.go2 (by repeat (first | exact Below.refl _ _ | apply Below.drew | apply below_drewN | apply below_al)) hb; clear hb; obtain ⟨p1, p2, p3, p4, p5, p6⟩ := PR.cells HI)
            | (go_at_call_of 18 (Value.string s); refine (HB1.out _ (PR.x (HI.go (by repeat (first | exact Below.refl _ _ | apply Below.drew | apply below_drewN | apply below_al)))) (PR.y (HI.go (by repeat (first | exact Below.refl _ _ | apply Below.drew | apply below_drewN | apply below_al)))) (PR.m (HI.go (by repeat (first | exact Below.refl _ _ | apply Below.drew | apply below_drewN | apply below_al))))).mono ?_; rintro e w7 ⟨rfl, hb⟩; replace HI := HI.go2 (by repeat (first | exact Below.refl _ _ | apply Below.drew | apply below_drewN | apply below_al)) hb; clear hb; obtain ⟨p1, p2, p3, p4, p5, p6⟩ := PR.cells HI)
            | (go_at_call_of 16 (Value.string T2); refine (HF3.out _ (PR.x (HI.go (by repeat (first | exact Below.refl _ _ | apply Below.drew | apply below_drewN | apply below_al)))) (PR.y (HI.go (by repeat (first | exact Below.refl _ _ | apply Below.drew | apply below_drewN | apply below_al)))) (PR.m (HI.go (by repeat (first | exact Below.refl _ _ | apply Below.drew | apply below_drewN | apply below_al))))).mono ?_; rintro e w8 ⟨rfl, hb⟩; replace HI := HI.go2 (by repeat (first | exact Below.refl _ _ | apply Below.drew | apply below_drewN | apply below_al)) hb; clear hb; obtain ⟨p1, p2, p3, p4, p5, p6⟩ := PR.cells HI)
            | (go_at_call 15; refine (rawake_any _ (PR.m (HI.go (by repeat (first | exact Below.refl _ _ | apply Below.drew | apply below_drewN | apply below_al))))).mono ?_; rintro e w9 ⟨rfl, hb⟩; replace HI := HI.go2 (by repeat (first | exact Below.refl _ _ | apply Below.drew | apply below_drewN | apply below_al)) hb; clear hb))
          all_goals go_ret
          all_goals exact ⟨rfl, PR.b (HI.go (by repeat (first | exact Below.refl _ _ | apply Below.drew | apply below_drewN | apply below_al)))⟩
    · have hszI : (300 : Int) < (s.size : Int) := by omega
      unfold ruV at *
      clear hsh h hz hg k kz kg hf
      go_enter Tryd.func5, Tryd.ntmps5
      go_wp2_with (first
        | (go_at_call 14; refine (HFIT.out _ (PR.x (HI.go (by repeat (first | exact Below.refl _ _ | apply Below.drew | apply below_drewN | apply below_al)))) (PR.y (HI.go (by repeat (first | exact Below.refl _ _ | apply Below.drew | apply below_drewN | apply below_al)))) (PR.m (HI.go (by repeat (first | exact Below.refl _ _ | apply Below.drew | apply below_drewN | apply below_al))))).mono ?_; rintro e w1 ⟨rfl, hb⟩; replace HI := HI.go2 (by repeat (first | exact Below.refl _ _ | apply Below.drew | apply below_drewN | apply below_al)) hb; clear hb)
        | (go_at_call 15; refine (rawake_any _ (PR.m (HI.go (by repeat (first | exact Below.refl _ _ | apply Below.drew | apply below_drewN | apply below_al))))).mono ?_; rintro e w8 ⟨rfl, hb⟩; replace HI := HI.go2 (by repeat (first | exact Below.refl _ _ | apply Below.drew | apply below_drewN | apply below_al)) hb; clear hb))
      go_ret
      exact ⟨rfl, PR.b (HI.go (by repeat (first | exact Below.refl _ _ | apply Below.drew | apply below_drewN | apply below_al)))⟩
end Go.Proofs.YtidjmbmnfnnleaaDoor

