/-
  The walk of the reference's Fill.
-/
import Derived.Test.YtidjmbmnfnnleaaDoorQ17
namespace Go.Proofs.YtidjmbmnfnnleaaDoor
set_option linter.unusedSimpArgs false
set_option linter.unusedVariables false
open Go.RowKit
open Pm

theorem split_new (s : ByteArray) (w : World) (hs : s.size ≤ 1000000) (hm : ML w) :
    Calls Tryd.prog 60 #[.string s, .string ⟨#[47]⟩] w fun e w' => e = .returned (.slice (some ⟨w.heap.size, 0, none⟩) (spB s.data.toList).length (spB s.data.toList).length) ∧ RT w' (some ⟨w.heap.size, 0, none⟩) (spB s.data.toList).length (spB s.data.toList) ∧ Below w.heap.size w w' := by
  obtain ⟨m, hm⟩ := hm
  refine (Tryd.strings_Split s ⟨#[47]⟩ m w (by omega) hm (by decide)).mono fun e w' ⟨he, hw⟩ => ?_
  have hc := Lib.countB_le ⟨#[47]⟩ (by decide) _ s (Nat.le_refl _)
  rw [splitB_eq] at hw
  rw [count_eq] at he
  have hn := count_eq s
  refine ⟨he, ⟨Nat.le_refl _, by omega, fun _ => ⟨w.heap.size, 0, rfl, ?_, fun j x hx => ?_⟩⟩, ?_⟩
  · rw [hw]; simp
  · rw [hw]
    have : (⟨w.heap.size, 0 + j, none⟩ : Addr) = ⟨w.heap.size, j, none⟩ := by simp
    rw [this]
    simp [World.cell?_alloc_new, List.getElem?_map, hx]
  · rw [hw]
    exact (Below.refl _ _).alloc (Nat.le_refl _) _
theorem RT.grown {w w' : World} {b o c : Nat} {xs : List ByteArray} {row : Option Nat} (h : RT w (some ⟨b, o, none⟩) c xs) (hg : w.grownBy w' row) (hs : w.heap.size ≤ w'.heap.size) (hne : some b ≠ row) : RT w' (some ⟨b, o, none⟩) c xs :=
  ⟨h.1, h.2.1, fun h0 => by
    obtain ⟨b', o', e, hlt, hc⟩ := h.2.2 h0
    cases e
    exact ⟨b, o, rfl, Nat.lt_of_lt_of_le hlt hs, fun j x hx => hg.cell (hc j x hx) hne⟩⟩
theorem OT.fresh {w : World} {base : Nat} {v : Value} {xs : List ByteArray} (h : OT w base v xs) : v.ownBlock ≠ some w.heap.size := fun e => by
  have := (h.lt _ e).2
  omega

theorem wild_agree {xs : List ByteArray} {r : Bool} (h : ∀ x ∈ xs, partB x = true) : wildB starOk xs r = wildB stB xs r := by
  unfold wildB
  rw [count_agree h]

set_option maxHeartbeats 1000000 in
theorem rwild_any (A : Option Addr) (c : Nat) (xs : List ByteArray) (r : Bool) (w : World) (h : RT w A c xs) (hsz : ∀ x ∈ xs, x.size ≤ 9223372036854775807) (hl : xs.length ≤ 100000) :
    Calls Tryd.prog 58 #[.agg #[.slice A xs.length c, .bool r]] w fun e w' => e = .returned (.int .i64 (wildB starOk xs r : Nat)) ∧ Below w.heap.size w w' := by
  have HK := Lib.hid (fun W (h : RT W A c xs) => rkinds_any A c xs r W h hsz)
  have HX := Lib.hid h
  have hct := count_le starOk xs
  have HW : Hid (wildB starOk xs r = countB starOk xs + if r = true then 1 else 0) := Lib.hid rfl
  clear h hsz
  generalize countB starOk xs = n at *
  cases r with
  | true =>
    rw [HW.out, if_pos rfl]
    go_enter Tryd.func58, Tryd.ntmps58
    go_wp2_with (go_at_call 42; refine (HK.out _ (HX.out.below (below_alloc _ _))).mono ?_; rintro e w1 ⟨rfl, hb⟩)
    go_ret
    exact ⟨ret_int (by simp), (below_alloc w _).trans (hb.mono (below_alloc w _).size)⟩
  | false =>
    rw [HW.out, if_neg (by decide)]
    go_enter Tryd.func58, Tryd.ntmps58
    go_wp2_with (go_at_call 42; refine (HK.out _ (HX.out.below (below_alloc _ _))).mono ?_; rintro e w1 ⟨rfl, hb⟩)
    go_ret
    exact ⟨ret_int (by simp), (below_alloc w _).trans (hb.mono (below_alloc w _).size)⟩

set_option maxHeartbeats 1000000 in
theorem rfill_check (A B : Option Addr) (c d : Nat) (xs cs : List ByteArray) (r : Bool) (w : World) (h : RT w A c xs) (hsz : ∀ x ∈ xs, x.size ≤ 5000) (hn : checkP xs r ≠ 0) :
    Calls Tryd.prog 37 #[.agg #[.slice A xs.length c, .bool r], .slice B cs.length d] w fun e w' => e = .returned (.tuple #[.string (fillT xs r cs), .int .i64 (fillE xs r cs)]) ∧ Below w.heap.size w w' := by
  obtain ⟨e1, e2⟩ := fill_e0 (cs := cs) hn
  rw [e1, e2]
  have HK := Lib.hid (fun W (h : RT W A c xs) => rcheck_any A c xs r W h (fun x hx => by have := hsz x hx; omega))
  have HX := Lib.hid h
  have hnB : (checkP xs r != 0) = true := by rw [bne_iff_ne]; exact hn
  clear h hsz hn e1 e2
  generalize checkP xs r = n at *
  go_enter Tryd.func37, Tryd.ntmps37
  go_wp2_with (go_at_call 41; refine (HK.out _ (HX.out.below (below_alloc _ _))).mono ?_; rintro e w1 ⟨rfl, hb⟩)
  go_ret2
  exact ⟨rfl, (below_alloc w _).trans (hb.mono (below_alloc w _).size)⟩

set_option maxHeartbeats 1000000 in
theorem rfill_len (A B : Option Addr) (c d : Nat) (xs cs : List ByteArray) (r : Bool) (w : World) (h : RT w A c xs) (hm : ML w) (hsz : ∀ x ∈ xs, x.size ≤ 5000) (hcl : cs.length ≤ 9223372036854775807) (hn : checkP xs r = 0) (hw : cs.length ≠ wildB stB xs r) :
    Calls Tryd.prog 37 #[.agg #[.slice A xs.length c, .bool r], .slice B cs.length d] w fun e w' => e = .returned (.tuple #[.string (fillT xs r cs), .int .i64 (fillE xs r cs)]) ∧ Below w.heap.size w w' := by
  obtain ⟨e1, e2⟩ := fill_e1 hn (wild_bad hw)
  rw [e1, e2]
  have h12 := (check_zero hn).2.1
  have HCK := Lib.hid (fun W (h : RT W A c xs) => rcheck_any A c xs r W h (fun x hx => by have := hsz x hx; omega))
  have HWC := Lib.hid (fun W (h : RT W A c xs) => rwild_any A c xs r W h (fun x hx => by have := hsz x hx; omega) (by omega))
  rw [wild_agree (parts_all (check_zero hn).2.2)] at HWC
  rw [hn] at HCK
  have HI := P1.enter h hm r 24
  have hB : ((cs.length : Int) != (wildB stB xs r : Nat)) = true := by rw [bne_iff_ne]; omega
  clear h hsz hn e1 e2 hw
  generalize wildB stB xs r = n at *
  go_enter Tryd.func37, Tryd.ntmps37
  go_wp2_with (first
    | (go_at_call 41; refine (HCK.out _ (P1.x (HI.go (by repeat (first | exact Below.refl _ _ | apply Below.drew | apply below_drewN | apply below_al))))).mono ?_; rintro e w1 ⟨rfl, hb⟩; replace HI := HI.go2 (by repeat (first | exact Below.refl _ _ | apply Below.drew | apply below_drewN | apply below_al)) hb; clear hb; obtain ⟨p1, p2⟩ := P1.cells HI)
    | (go_at_call 58; refine (HWC.out _ (P1.x (HI.go (by repeat (first | exact Below.refl _ _ | apply Below.drew | apply below_drewN | apply below_al))))).mono ?_; rintro e w2 ⟨rfl, hb⟩; replace HI := HI.go2 (by repeat (first | exact Below.refl _ _ | apply Below.drew | apply below_drewN | apply below_al)) hb; clear hb))
  go_ret2
  exact ⟨rfl, P1.b (HI.go (by repeat (first | exact Below.refl _ _ | apply Below.drew | apply below_drewN | apply below_al)))⟩


theorem lastC_agree {xs : List ByteArray} (h : ∀ x ∈ xs, partB x = true) (cs : List ByteArray) : lastC starOk xs cs = lastC stB xs cs := by
  unfold lastC
  rw [count_agree h]

set_option maxHeartbeats 4000000 in
theorem rfill_plain (A B : Option Addr) (c d : Nat) (xs cs : List ByteArray) (w : World) (h : RT w A c xs) (k : RT w B d cs) (hm : ML w) (hsx : ∀ x ∈ xs, x.size ≤ 5000) (hsc : ∀ x ∈ cs, x.size ≤ 5000) (hn : checkP xs false = 0) (hw : cs.length = countB stB xs + 0) :
    Calls Tryd.prog 37 #[.agg #[.slice A xs.length c, .bool false], .slice B cs.length d] w fun e w' => e = .returned (.tuple #[.string (fillT xs false cs), .int .i64 (fillE xs false cs)]) ∧ Below w.heap.size w w' := by
  have h12 := (check_zero hn).2.1
  have hpa := parts_all (check_zero hn).2.2
  have HN := Lib.hid hn
  have HCK := Lib.hid (fun W (h : RT W A c xs) => rcheck_any A c xs false W h (fun x hx => by have := hsx x hx; omega))
  have HWC := Lib.hid (fun W (h : RT W A c xs) => rwild_any A c xs false W h (fun x hx => by have := hsx x hx; omega) (by omega))
  rw [wild_agree hpa] at HWC
  rw [hn] at HCK
  have HI := P1.enter h hm false 24
  have HSX := Lib.hid hsx
  have HSC := Lib.hid hsc
  have HC0 := Lib.hid (k.below (below_alloc w (.cells #[.slice A xs.length c, .bool false] 24)))
  have HW := Lib.hid hw
  have HPA := Lib.hid hpa
  have hdc := k.1
  have hd9 := k.2.1
  have HWN : Hid (wildB stB xs false = cs.length) := Lib.hid (by rw [hw]; rfl)
  rw [HWN.out] at HWC
  have hB : ((cs.length : Int) != (cs.length : Int)) = false := by simp
  clear h k hm hsx hsc hn hw hpa
  have HG := Lib.hid (fun h => fill_ret (s := joinB (flC stB tlB xs cs)) HN.out (fill_good (r := false) (by rw [HW.out]; rfl) h (fun h => by cases h)) (by unfold fillL; simp))
  have hjl : (Lib.join (datj (flC stB tlB xs cs)) [47]).length ≤ 100000000 := by
    have h5 := join_le (flC_size (st := stB) (tl := tlB) tlB_size HSX.out HSC.out)
    rw [flC_len] at h5
    have h6 : xs.length * (10000 + 1) ≤ 12 * (10000 + 1) := Nat.mul_le_mul_right _ h12
    exact Nat.le_trans h5 (by omega)
  have HJN : Hid (∀ W C e, RT W C e (flC stB tlB xs cs) → Calls Tryd.prog 61 #[.slice C (flC stB tlB xs cs).length e] W fun e w' => e = .returned (.string (joinB (flC stB tlB xs cs))) ∧ Below W.heap.size W w') := Lib.hid (fun W C e hW => rjoin_any C e _ W hW (by rw [flC_len]; omega) hjl)
  clear hjl
  go_enter Tryd.func37, Tryd.ntmps37
  go_wp2_with (first
    | (go_at_call 41; refine (HCK.out _ (P1.x (HI.go (by repeat (first | exact Below.refl _ _ | apply Below.drew | apply below_drewN | apply below_al))))).mono ?_; rintro e w0 ⟨rfl, hb⟩; have HC1 := Lib.hid (HC0.out.below hb); replace HI := HI.go2 (by repeat (first | exact Below.refl _ _ | apply Below.drew | apply below_drewN | apply below_al)) hb; clear hb; obtain ⟨p1, p2⟩ := P1.cells HI)
    | (go_at_call 58; refine (HWC.out _ (P1.x (HI.go (by repeat (first | exact Below.refl _ _ | apply Below.drew | apply below_drewN | apply below_al))))).mono ?_; rintro e w1 ⟨rfl, hb⟩; have HC := Lib.hid (HC1.out.below hb); replace HI := HI.go2 (by repeat (first | exact Below.refl _ _ | apply Below.drew | apply below_drewN | apply below_al)) hb; clear hb; obtain ⟨p1, p2⟩ := P1.cells HI))
  go_loopw [7, 8, 28] (fun ov jv i wr => ∃ (k j : Nat) (done : List ByteArray), k ≤ xs.length ∧ i = .int .i64 k ∧ jv = .int .i64 j ∧ j ≤ cs.length ∧ Hid (cs.length = j + countB stB (xs.drop k) + 0) ∧
      Hid (OT wr w1.heap.size ov done) ∧ Hid (FI starOk sufB xs cs k (cs.drop j) done) ∧ Hid (Below w1.heap.size w1 wr)) (fun _ _ i _ => xs.length - (intOf i).toNat)
  case atStart => exact ⟨0, 0, [], Nat.zero_le _, rfl, rfl, Nat.zero_le _, Lib.hid (by rw [List.drop_zero]; have := HW.out; omega), Lib.hid (OT.nil _ _), Lib.hid (FI.start _ _ _ _), Lib.hid (Below.refl _ _)⟩
  case round =>
    obtain ⟨k, j, done, hk, rfl, rfl, hjc, HML, HO, HF, HBL⟩ := hrel
    have HJ := HI.go HBL.out
    obtain ⟨z1, z2⟩ := P1.cells HJ
    have hsz2 := HBL.out.size
    by_cases hlt : k < xs.length
    · obtain ⟨x, hx⟩ : ∃ x, xs[k]? = some x := ⟨_, List.getElem?_eq_getElem hlt⟩
      obtain ⟨b1, o1, rfl, hb1, hc1⟩ := (P1.x HJ).2.2 (by omega)
      have hcx := hc1 k x hx
      have hxz := HSX.out x (List.mem_of_getElem? hx)
      have HHX := Lib.hid hx
      have HST := Lib.hid (star_agree (HPA.out x (List.mem_of_getElem? hx)))
      clear hc1 hx hb1
      have HDN := Lib.hid HF.out.1
      cases hst : starOk x with
      | false =>
        have HP := Lib.hid (HF.out.part HHX.out hst)
        have HCT : Hid (countB stB (xs.drop k) = countB stB (xs.drop (k + 1))) := Lib.hid (by
          rw [drop_cons HHX.out, count_cons, if_neg (by rw [← HST.out, hst]; decide), Nat.zero_add])
        go_wp2_with (first
          | (go_at_call 51; refine (rstar_any x _ (by omega)).mono ?_; rintro e w' ⟨rfl, rfl⟩)
          | (at_builtin; refine wpList_append_texts rfl _ _ rfl w1.heap.size _ _ [x] _ 1 rfl rfl (HO.out.below (below_alloc _ _)) (RT.one _ _ _) (by have := HDN.out; simp only [List.length_singleton]; omega) (by simp; omega) ?_; intro v1 w3 hown hg _; have HBL2 := Lib.hid ((HBL.out.alloc HBL.out.size _).grown hg (by simp; omega) HO.out.own); have HOW := Lib.hid hown; clear hown hg))
        go_roundw
        case rel => exact ⟨k + 1, j, done ++ [x], by omega, by go_num, rfl, hjc, Lib.hid (by rw [← HCT.out]; exact HML.out), HOW, Lib.hid HP.out.1, HBL2⟩
        case measure => simp [intOf]; omega
      | true =>
        have hst2 : stB x = true := by rw [← HST.out]; exact hst
        have HCT : Hid (countB stB (xs.drop k) = countB stB (xs.drop (k + 1)) + 1) := Lib.hid (by
          rw [drop_cons HHX.out, count_cons, if_pos hst2]; omega)
        have hj1 : j < cs.length := by have := HML.out; have := HCT.out; omega
        obtain ⟨y, hy⟩ : ∃ y, cs[j]? = some y := ⟨_, List.getElem?_eq_getElem hj1⟩
        have HF2 : Hid (FI starOk sufB xs cs k (y :: cs.drop (j + 1)) done) := Lib.hid (by have := HF.out; rw [drop_cons hy] at this; exact this)
        have HS := Lib.hid (HF2.out.star HHX.out hst)
        have hyz := HSC.out y (List.mem_of_getElem? hy)
        obtain ⟨b2, o2, rfl, hb2, hc2⟩ := (HC.out.below HBL.out).2.2 (by omega)
        have hcy := hc2 j y hy
        have HML' : Hid (cs.length = j + 1 + countB stB (xs.drop (k + 1)) + 0) := Lib.hid (by have := HML.out; have := HCT.out; omega)
        clear hc2 hb2 hy hst2
        have hsuz : (sufB x).size ≤ 5000 := by
          have hxm := HSX.out x (List.mem_of_getElem? HHX.out)
          have htz := tlB_size x
          unfold sufB
          rw [if_pos hst]
          omega
        cases hcm : comp y.data.toList with
        | false =>
          have HBAD := Lib.hid (fill_nor HN.out (fill_bad1 (r := false) (by rw [← flOk_agree HPA.out]; exact HS.out.2.1 hcm)))
          go_wp2_with (first
            | (go_at_call 51; refine (rstar_any x _ (by omega)).mono ?_; rintro e w' ⟨rfl, rfl⟩)
            | (go_at_call 59; refine (rcomponent_any y _ (by omega)).mono ?_; rintro e w' ⟨rfl, rfl⟩))
          go_ret2
          exact ⟨HBAD.out, P1.b HJ⟩
        | true =>
          have HN1 := Lib.hid (HS.out.1 hcm)
          go_wp2_with (first
            | (go_at_call 51; refine (rstar_any x _ (by omega)).mono ?_; rintro e w' ⟨rfl, rfl⟩)
            | (go_at_call 59; refine (rcomponent_any y _ (by omega)).mono ?_; rintro e w' ⟨rfl, rfl⟩)
            | (at_builtin; refine wpList_append_texts rfl _ _ rfl w1.heap.size _ _ [y ++ sufB x] _ 1 rfl rfl (HO.out.below (below_alloc _ _)) (RT.one _ _ _) (by have := HDN.out; simp only [List.length_singleton]; omega) (by simp; omega) ?_; intro v1 w3 hown hg _; have HBL2 := Lib.hid ((HBL.out.alloc HBL.out.size _).grown hg (by simp; omega) HO.out.own); have HOW := Lib.hid hown; clear hown hg))
          go_roundw
          case rel => exact ⟨k + 1, j + 1, done ++ [y ++ sufB x], by omega, by go_num, by go_num, by omega, HML', HOW, HN1, HBL2⟩
          case measure => simp [intOf]; omega
    · obtain ⟨e1, e2, e3, e4⟩ := HF.out.done (by omega)
      rw [flC_agree HPA.out] at e1
      rw [flOk_agree HPA.out] at e2
      have HGG := Lib.hid (HG.out e2)
      subst e1
      obtain ⟨C, cc, rfl, hrt⟩ := HO.out.read
      have HRT := Lib.hid hrt
      have hf1 := hrt.1
      have hf2 := hrt.2.1
      clear hrt e2 e3 e4 HF
      generalize joinB (flC stB tlB xs cs) = jt at *
      generalize flC stB tlB xs cs = fl at *
      go_wp2_with (go_at_call 61; refine (HJN.out _ _ _ HRT.out).mono ?_; rintro e w3 ⟨rfl, hb3⟩)
      go_ret2
      exact ⟨HGG.out, P1.b (HJ.go hb3)⟩

set_option maxHeartbeats 4000000 in
theorem rfill_rest (A B : Option Addr) (c d : Nat) (xs cs : List ByteArray) (w : World) (h : RT w A c xs) (k : RT w B d cs) (hm : ML w) (hsx : ∀ x ∈ xs, x.size ≤ 5000) (hsc : ∀ x ∈ cs, x.size ≤ 5000) (hn : checkP xs true = 0) (hw : cs.length = countB stB xs + 1) :
    Calls Tryd.prog 37 #[.agg #[.slice A xs.length c, .bool true], .slice B cs.length d] w fun e w' => e = .returned (.tuple #[.string (fillT xs true cs), .int .i64 (fillE xs true cs)]) ∧ Below w.heap.size w w' := by
  have h12 := (check_zero hn).2.1
  have hpa := parts_all (check_zero hn).2.2
  have HN := Lib.hid hn
  have HCK := Lib.hid (fun W (h : RT W A c xs) => rcheck_any A c xs true W h (fun x hx => by have := hsx x hx; omega))
  have HWC := Lib.hid (fun W (h : RT W A c xs) => rwild_any A c xs true W h (fun x hx => by have := hsx x hx; omega) (by omega))
  rw [wild_agree hpa] at HWC
  rw [hn] at HCK
  have HI := P1.enter h hm true 24
  have HSX := Lib.hid hsx
  have HSC := Lib.hid hsc
  have HC0 := Lib.hid (k.below (below_alloc w (.cells #[.slice A xs.length c, .bool true] 24)))
  have HW := Lib.hid hw
  have HPA := Lib.hid hpa
  have hdc := k.1
  have hd9 := k.2.1
  have HWN : Hid (wildB stB xs true = cs.length) := Lib.hid (by rw [hw]; rfl)
  rw [HWN.out] at HWC
  have hB : ((cs.length : Int) != (cs.length : Int)) = false := by simp
  clear h k hm hsx hsc hn hw hpa
  have HG := Lib.hid (fun h1 h2 => fill_ret (s := joinB (flC stB tlB xs cs ++ spB (lastC stB xs cs).data.toList)) HN.out (fill_good (r := true) (by rw [HW.out]; rfl) h1 (fun _ => h2)) (by rw [joinB_rest]; unfold fillL; simp))
  have HGB := Lib.hid (fun h => fill_nor HN.out (fill_bad2 (xs := xs) (cs := cs) h))
  have hlz : (lastC stB xs cs).size ≤ 5000 := by
    unfold lastC
    cases hd : cs.drop (countB stB xs) with
    | nil => decide
    | cons y ys => exact HSC.out y (List.mem_of_mem_drop (i := countB stB xs) (by rw [hd]; simp))
  have hsl : (spB (lastC stB xs cs).data.toList).length ≤ 5001 := by
    unfold spB
    rw [List.length_map]
    have := sp_count (lastC stB xs cs).data.toList
    rw [Lib.size_eq] at hlz
    omega
  have hjl : (Lib.join (datj (flC stB tlB xs cs ++ spB (lastC stB xs cs).data.toList)) [47]).length ≤ 100000000 := by
    have h5 := join_le (m := 10000) (xs := flC stB tlB xs cs ++ spB (lastC stB xs cs).data.toList) (fun x hx => by
      rcases List.mem_append.1 hx with hx | hx
      · exact flC_size (st := stB) (tl := tlB) tlB_size HSX.out HSC.out x hx
      · unfold spB at hx
        obtain ⟨l, hl, rfl⟩ := List.mem_map.1 hx
        have := sp_total _ l hl
        rw [mkB_size]
        rw [Lib.size_eq] at hlz
        omega)
    rw [List.length_append, flC_len] at h5
    have h6 : (xs.length + (spB (lastC stB xs cs).data.toList).length) * (10000 + 1) ≤ 5100 * (10000 + 1) := Nat.mul_le_mul_right _ (by omega)
    exact Nat.le_trans h5 (by omega)
  have HJN : Hid (∀ W C e, RT W C e (flC stB tlB xs cs ++ spB (lastC stB xs cs).data.toList) → Calls Tryd.prog 61 #[.slice C (flC stB tlB xs cs ++ spB (lastC stB xs cs).data.toList).length e] W fun e w' => e = .returned (.string (joinB (flC stB tlB xs cs ++ spB (lastC stB xs cs).data.toList))) ∧ Below W.heap.size W w') := Lib.hid (fun W C e hW => rjoin_any C e _ W hW (by rw [List.length_append, flC_len]; omega) hjl)
  have hfl : (flC stB tlB xs cs).length ≤ 12 := by rw [flC_len]; exact h12
  have hfs := HSX.out
  clear hjl hfs
  go_enter Tryd.func37, Tryd.ntmps37
  go_wp2_with (first
    | (go_at_call 41; refine (HCK.out _ (P1.x (HI.go (by repeat (first | exact Below.refl _ _ | apply Below.drew | apply below_drewN | apply below_al))))).mono ?_; rintro e w0 ⟨rfl, hb⟩; have HC1 := Lib.hid (HC0.out.below hb); replace HI := HI.go2 (by repeat (first | exact Below.refl _ _ | apply Below.drew | apply below_drewN | apply below_al)) hb; clear hb; obtain ⟨p1, p2⟩ := P1.cells HI)
    | (go_at_call 58; refine (HWC.out _ (P1.x (HI.go (by repeat (first | exact Below.refl _ _ | apply Below.drew | apply below_drewN | apply below_al))))).mono ?_; rintro e w1 ⟨rfl, hb⟩; have HC := Lib.hid (HC1.out.below hb); replace HI := HI.go2 (by repeat (first | exact Below.refl _ _ | apply Below.drew | apply below_drewN | apply below_al)) hb; clear hb; obtain ⟨p1, p2⟩ := P1.cells HI))
  go_loopw [7, 8, 28] (fun ov jv i wr => ∃ (k j : Nat) (done : List ByteArray), k ≤ xs.length ∧ i = .int .i64 k ∧ jv = .int .i64 j ∧ j ≤ cs.length ∧ Hid (cs.length = j + countB stB (xs.drop k) + 1) ∧
      Hid (OT wr w1.heap.size ov done) ∧ Hid (FI starOk sufB xs cs k (cs.drop j) done) ∧ Hid (Below w1.heap.size w1 wr)) (fun _ _ i _ => xs.length - (intOf i).toNat)
  case atStart => exact ⟨0, 0, [], Nat.zero_le _, rfl, rfl, Nat.zero_le _, Lib.hid (by rw [List.drop_zero]; have := HW.out; omega), Lib.hid (OT.nil _ _), Lib.hid (FI.start _ _ _ _), Lib.hid (Below.refl _ _)⟩
  case round =>
    obtain ⟨k, j, done, hk, rfl, rfl, hjc, HML, HO, HF, HBL⟩ := hrel
    have HJ := HI.go HBL.out
    obtain ⟨z1, z2⟩ := P1.cells HJ
    have hsz2 := HBL.out.size
    by_cases hlt : k < xs.length
    · obtain ⟨x, hx⟩ : ∃ x, xs[k]? = some x := ⟨_, List.getElem?_eq_getElem hlt⟩
      obtain ⟨b1, o1, rfl, hb1, hc1⟩ := (P1.x HJ).2.2 (by omega)
      have hcx := hc1 k x hx
      have hxz := HSX.out x (List.mem_of_getElem? hx)
      have HHX := Lib.hid hx
      have HST := Lib.hid (star_agree (HPA.out x (List.mem_of_getElem? hx)))
      clear hc1 hx hb1
      have HDN := Lib.hid HF.out.1
      cases hst : starOk x with
      | false =>
        have HP := Lib.hid (HF.out.part HHX.out hst)
        have HCT : Hid (countB stB (xs.drop k) = countB stB (xs.drop (k + 1))) := Lib.hid (by
          rw [drop_cons HHX.out, count_cons, if_neg (by rw [← HST.out, hst]; decide), Nat.zero_add])
        go_wp2_with (first
          | (go_at_call 51; refine (rstar_any x _ (by omega)).mono ?_; rintro e w' ⟨rfl, rfl⟩)
          | (at_builtin; refine wpList_append_texts rfl _ _ rfl w1.heap.size _ _ [x] _ 1 rfl rfl (HO.out.below (below_alloc _ _)) (RT.one _ _ _) (by have := HDN.out; simp only [List.length_singleton]; omega) (by simp; omega) ?_; intro v1 w3 hown hg _; have HBL2 := Lib.hid ((HBL.out.alloc HBL.out.size _).grown hg (by simp; omega) HO.out.own); have HOW := Lib.hid hown; clear hown hg))
        go_roundw
        case rel => exact ⟨k + 1, j, done ++ [x], by omega, by go_num, rfl, hjc, Lib.hid (by rw [← HCT.out]; exact HML.out), HOW, Lib.hid HP.out.1, HBL2⟩
        case measure => simp [intOf]; omega
      | true =>
        have hst2 : stB x = true := by rw [← HST.out]; exact hst
        have HCT : Hid (countB stB (xs.drop k) = countB stB (xs.drop (k + 1)) + 1) := Lib.hid (by
          rw [drop_cons HHX.out, count_cons, if_pos hst2]; omega)
        have hj1 : j < cs.length := by have := HML.out; have := HCT.out; omega
        obtain ⟨y, hy⟩ : ∃ y, cs[j]? = some y := ⟨_, List.getElem?_eq_getElem hj1⟩
        have HF2 : Hid (FI starOk sufB xs cs k (y :: cs.drop (j + 1)) done) := Lib.hid (by have := HF.out; rw [drop_cons hy] at this; exact this)
        have HS := Lib.hid (HF2.out.star HHX.out hst)
        have hyz := HSC.out y (List.mem_of_getElem? hy)
        obtain ⟨b2, o2, rfl, hb2, hc2⟩ := (HC.out.below HBL.out).2.2 (by omega)
        have hcy := hc2 j y hy
        have HML' : Hid (cs.length = j + 1 + countB stB (xs.drop (k + 1)) + 1) := Lib.hid (by have := HML.out; have := HCT.out; omega)
        clear hc2 hb2 hy hst2
        have hsuz : (sufB x).size ≤ 5000 := by
          have hxm := HSX.out x (List.mem_of_getElem? HHX.out)
          have htz := tlB_size x
          unfold sufB
          rw [if_pos hst]
          omega
        cases hcm : comp y.data.toList with
        | false =>
          have HBAD := Lib.hid (fill_nor HN.out (fill_bad1 (r := true) (by rw [← flOk_agree HPA.out]; exact HS.out.2.1 hcm)))
          go_wp2_with (first
            | (go_at_call 51; refine (rstar_any x _ (by omega)).mono ?_; rintro e w' ⟨rfl, rfl⟩)
            | (go_at_call 59; refine (rcomponent_any y _ (by omega)).mono ?_; rintro e w' ⟨rfl, rfl⟩))
          go_ret2
          exact ⟨HBAD.out, P1.b HJ⟩
        | true =>
          have HN1 := Lib.hid (HS.out.1 hcm)
          go_wp2_with (first
            | (go_at_call 51; refine (rstar_any x _ (by omega)).mono ?_; rintro e w' ⟨rfl, rfl⟩)
            | (go_at_call 59; refine (rcomponent_any y _ (by omega)).mono ?_; rintro e w' ⟨rfl, rfl⟩)
            | (at_builtin; refine wpList_append_texts rfl _ _ rfl w1.heap.size _ _ [y ++ sufB x] _ 1 rfl rfl (HO.out.below (below_alloc _ _)) (RT.one _ _ _) (by have := HDN.out; simp only [List.length_singleton]; omega) (by simp; omega) ?_; intro v1 w3 hown hg _; have HBL2 := Lib.hid ((HBL.out.alloc HBL.out.size _).grown hg (by simp; omega) HO.out.own); have HOW := Lib.hid hown; clear hown hg))
          go_roundw
          case rel => exact ⟨k + 1, j + 1, done ++ [y ++ sufB x], by omega, by go_num, by go_num, by omega, HML', HOW, HN1, HBL2⟩
          case measure => simp [intOf]; omega
    · obtain ⟨e1, e2, e3, e4⟩ := HF.out.done (by omega)
      rw [flC_agree HPA.out] at e1
      rw [flOk_agree HPA.out] at e2
      rw [lastC_agree HPA.out] at e3
      subst e1
      have hjl : cs.length = j + 1 := by
        have h1 := HML.out
        rw [List.drop_eq_nil_of_le (by omega)] at h1
        exact h1
      have HJL := Lib.hid hjl
      have hj2 : j < cs.length := by omega
      obtain ⟨y, hy⟩ : ∃ y, cs[j]? = some y := ⟨_, List.getElem?_eq_getElem hj2⟩
      have hyl : y = lastC stB xs cs := by
        rw [drop_cons hy] at e3
        exact e3
      have HG2 := Lib.hid (HG.out e2)
      obtain ⟨b2, o2, rfl, hb2, hc2⟩ := (HC.out.below HBL.out).2.2 (by omega)
      have hcy := hc2 j y hy
      rw [← hyl] at hlz hsl HG2 HGB HJN
      clear hc2 hb2 e2 e3 e4 HF hy hyl HG hjl
      generalize joinB (flC stB tlB xs cs ++ spB y.data.toList) = jt at *
      generalize flC stB tlB xs cs = fl at *
      have HSP := Lib.hid (fun W hW => split_new y W (by omega) hW)
      have HFR := Lib.hid HO.out.fresh
      have hsz3 : ∀ z ∈ spB y.data.toList, z.size ≤ 5000 := fun z hz => by
        unfold spB at hz
        obtain ⟨l, hl, rfl⟩ := List.mem_map.1 hz
        have := sp_total _ l hl
        rw [mkB_size]
        rw [Lib.size_eq] at hlz
        omega
      have HSZ := Lib.hid hsz3
      clear hsz3
      obtain ⟨wo, rfl⟩ : ∃ wo : World, wo = wr := ⟨_, rfl⟩
      have hsp := spB_pos y.data.toList
      generalize spB y.data.toList = sy at *
      go_wp2_with (go_at_call 60; refine (HSP.out _ (P1.m HJ)).mono ?_; rintro e w3 ⟨rfl, hrs, hb3⟩; have HRS := Lib.hid hrs; have hs1 := hrs.1; have hs2 := hrs.2.1; have HB3 := Lib.hid hb3; clear hrs hb3)
      have HO3 := Lib.hid (HO.out.below HB3.out)
      have HBL3 := Lib.hid (HBL.out.trans (HB3.out.mono HBL.out.size))
      have HBB := Lib.hid HBL3.out.size
      go_loopw [7, 65] (fun ov i wq => ∃ k2 : Nat, k2 ≤ sy.length ∧ i = .int .i64 k2 ∧ Hid ((sy.take k2).all (fun x => comp x.data.toList) = true) ∧ Hid (OT wq w1.heap.size ov (fl ++ sy.take k2)) ∧ Hid (Below w1.heap.size w1 wq) ∧ Hid (RT wq (some ⟨wo.heap.size, 0, none⟩) sy.length sy) ∧ Hid (ov.ownBlock ≠ some wo.heap.size) ∧ Hid (wo.heap.size < wq.heap.size)) (fun _ i _ => sy.length - (intOf i).toNat)
      case atStart => exact ⟨0, Nat.zero_le _, rfl, Lib.hid (by simp), Lib.hid (by rw [List.take_zero, List.append_nil]; exact HO3.out), HBL3, HRS, HFR, Lib.hid (by obtain ⟨b, o, e, hlt, _⟩ := HRS.out.2.2 hsp; cases e; exact hlt)⟩
      case round =>
        obtain ⟨k2, hk2, rfl, HA, HO4, HB4, HR4, HFR4, HLT4⟩ := hrel
        have hsz4 := HB4.out.size
        by_cases hlt2 : k2 < sy.length
        · obtain ⟨z, hz⟩ : ∃ z, sy[k2]? = some z := ⟨_, List.getElem?_eq_getElem hlt2⟩
          obtain ⟨b3, o3, hbo, hb3, hc3⟩ := HR4.out.2.2 (by omega)
          cases hbo
          have hcz : wr.cell? ⟨wo.heap.size, k2, none⟩ = some (.string z) := by have := hc3 k2 z hz; rwa [Nat.zero_add] at this
          have hzz := HSZ.out z (List.mem_of_getElem? hz)
          have HST := Lib.hid (all_step (p := fun x => comp x.data.toList) hz)
          have HMS := Lib.hid (fun h => all_miss (p := fun x => comp x.data.toList) hz h)
          have HTK : Hid (sy.take (k2 + 1) = sy.take k2 ++ [z]) := Lib.hid (by rw [List.take_add_one, hz]; rfl)
          clear hc3 hz hb3
          cases hcm : comp z.data.toList with
          | false =>
            have HBAD := Lib.hid (HGB.out (HMS.out hcm))
            go_wp2_with (go_at_call 59; refine (rcomponent_any z _ (by omega)).mono ?_; rintro e w' ⟨rfl, rfl⟩)
            go_ret2
            exact ⟨HBAD.out, P1.b (HI.go HB4.out)⟩
          | true =>
            have hln : (fl ++ sy.take k2).length ≤ 12 + k2 := by
              rw [List.length_append, List.length_take]
              have := hfl
              omega
            have HLN := Lib.hid hln
            clear hln
            go_wp2_with (first
              | (go_at_call 59; refine (rcomponent_any z _ (by omega)).mono ?_; rintro e w' ⟨rfl, rfl⟩)
              | (at_builtin; refine wpList_append_texts rfl _ _ rfl w1.heap.size _ _ [z] _ 1 rfl rfl (HO4.out.below (below_alloc _ _)) (RT.one _ _ _) (by have := HLN.out; simp only [List.length_singleton]; omega) (by simp; omega) ?_; intro v1 w6 hown hg hor; have HFR6 : Hid (v1.ownBlock ≠ some wo.heap.size) := Lib.hid (by rcases hor with e | e <;> rw [e]; exact HFR4.out; have := HLT4.out; intro h; simp at h; omega); have HBL6 := Lib.hid ((HB4.out.alloc HB4.out.size _).grown hg (by simp; omega) HO4.out.own); have HOW := Lib.hid hown; have hsz6 := hg.size; have HLT6 : Hid (wo.heap.size < w6.heap.size) := Lib.hid (by have := HLT4.out; simp at hsz6; omega); have HR6 := Lib.hid ((HR4.out.below (below_alloc _ _)).grown hg hg.size (fun h => HFR4.out h.symm)); clear hown hg hor hsz6))
            go_roundw
            case rel => exact ⟨k2 + 1, by omega, by go_num, Lib.hid (by rw [HST.out, HA.out, hcm]; rfl), Lib.hid (by rw [HTK.out, ← List.append_assoc]; exact HOW.out), HBL6, HR6, HFR6, HLT6⟩
            case measure => simp [intOf]; omega
        · have HGG := Lib.hid (HG2.out (by have := HA.out; rwa [List.take_of_length_le (by omega)] at this))
          have HO5 := Lib.hid HO4.out
          rw [List.take_of_length_le (by omega)] at HO5
          clear HO4
          generalize hfy : fl ++ sy = fy at *
          have HFY := Lib.hid hfy
          clear hfy
          obtain ⟨C, cc, rfl, hrt⟩ := HO5.out.read
          have HRT := Lib.hid hrt
          have hf1 := hrt.1
          have hf2 := hrt.2.1
          clear hrt
          go_wp2_with (go_at_call 61; refine (HJN.out _ _ _ HRT.out).mono ?_; rintro e w5 ⟨rfl, hb5⟩)
          go_ret2
          exact ⟨HGG.out, P1.b ((HI.go HB4.out).go hb5)⟩

theorem rfill_any (A B : Option Addr) (c d : Nat) (xs cs : List ByteArray) (r : Bool) (w : World) (h : RT w A c xs) (k : RT w B d cs) (hm : ML w) (hsx : ∀ x ∈ xs, x.size ≤ 5000) (hsc : ∀ x ∈ cs, x.size ≤ 5000) :
    Calls Tryd.prog 37 #[.agg #[.slice A xs.length c, .bool r], .slice B cs.length d] w fun e w' => e = .returned (.tuple #[.string (fillT xs r cs), .int .i64 (fillE xs r cs)]) ∧ Below w.heap.size w w' := by
  by_cases hn : checkP xs r = 0
  · by_cases hw : cs.length = wildB stB xs r
    · cases r with
      | false => exact rfill_plain A B c d xs cs w h k hm hsx hsc hn hw
      | true => exact rfill_rest A B c d xs cs w h k hm hsx hsc hn hw
    · exact rfill_len A B c d xs cs r w h hm hsx (by have := k.1; have := k.2.1; omega) hn hw
  · exact rfill_check A B c d xs cs r w h hsx hn
end Go.Proofs.YtidjmbmnfnnleaaDoor

