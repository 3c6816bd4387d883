/-
  Filling and matching undo each other: plain facts.
-/
import Derived.Test.YtidjmbmnfnnleaaDoorQ18
namespace Go.Proofs.YtidjmbmnfnnleaaDoor
set_option linter.unusedSimpArgs false
set_option linter.unusedVariables false
open Go.RowKit
open Pm

theorem trim_app (a b : List UInt8) : Lib.hasSuffix (a ++ b) b = true ∧ Lib.trimSuffix (a ++ b) b = a := by
  have h : Lib.hasSuffix (a ++ b) b = true := by
    unfold Lib.hasSuffix
    rw [List.isSuffixOf_iff_suffix]
    exact ⟨a, rfl⟩
  refine ⟨h, ?_⟩
  unfold Lib.trimSuffix
  rw [if_pos h]
  simp
theorem app_trim {x p : List UInt8} (h : Lib.hasSuffix x p = true) : Lib.trimSuffix x p ++ p = x := by
  have k := h
  unfold Lib.hasSuffix at k
  rw [List.isSuffixOf_iff_suffix] at k
  obtain ⟨a, rfl⟩ := k
  rw [(trim_app a p).2]
theorem app_data (a b : ByteArray) : (a ++ b).data.toList = a.data.toList ++ b.data.toList := by rw [ByteArray.data_append, Array.toList_append]
theorem mkB_app (l : List UInt8) (b : ByteArray) : mkB l ++ b = mkB (l ++ b.data.toList) := by
  rw [← mkB_back (mkB l ++ b), app_data, mkB_data]
theorem app_inj {x : ByteArray} {l : List UInt8} (h : x.data.toList = l) : x = mkB l := by rw [← h, mkB_back]

/-- a part and a component: what is captured, and what makes the component -/
theorem part_cap {p x : ByteArray} (hx : comp x.data.toList = true) (hs : stB p = true) (ho : mpOk p x = true) : comp (mpCap p x).data.toList = true ∧ mpCap p x ++ tlB p = x := by
  unfold mpOk at ho
  rw [if_pos hs, Bool.and_eq_true] at ho
  have hc : mpCap p x = mkB (Lib.trimSuffix x.data.toList (tlB p).data.toList) := by unfold mpCap; rw [if_pos hs]
  rw [hc]
  refine ⟨?_, ?_⟩
  · rw [mkB_data]
    have hsf := ho.1
    have hne := ho.2
    unfold Lib.trimSuffix at hne ⊢
    rw [if_pos hsf] at hne ⊢
    rw [comp_prefix hx]
    exact hne
  · rw [mkB_app, app_trim ho.1, mkB_back]
theorem part_lit {p x : ByteArray} (hs : stB p = false) (ho : mpOk p x = true) : p = x := by
  unfold mpOk at ho
  rw [if_neg (by rw [hs]; decide)] at ho
  exact of_decide_eq_true ho

theorem fill_of_match : ∀ (xs ys : List ByteArray), xs.length ≤ ys.length → okOf mpOk (xs.zip ys) = true → (∀ y ∈ ys, comp y.data.toList = true) → ∀ tail,
    flC stB tlB xs (capsOf stB mpCap (xs.zip ys) ++ tail) = ys.take xs.length ∧ flOk stB xs (capsOf stB mpCap (xs.zip ys) ++ tail) = true ∧ (capsOf stB mpCap (xs.zip ys)).length = countB stB xs
  | [], ys, _, _, _, tail => ⟨rfl, rfl, rfl⟩
  | x :: xs, [], h, _, _, _ => by simp at h
  | x :: xs, y :: ys, h, ho, hc, tail => by
    have hz : (x :: xs).zip (y :: ys) = (x, y) :: xs.zip ys := rfl
    rw [hz] at ho ⊢
    have ho2 : mpOk x y = true ∧ okOf mpOk (xs.zip ys) = true := by
      unfold okOf at ho
      rw [List.all_cons, Bool.and_eq_true] at ho
      exact ho
    have ih := fill_of_match xs ys (by simpa using h) ho2.2 (fun z hz => hc z (by simp [hz])) tail
    have hy := hc y (by simp)
    cases hs : stB x with
    | true =>
      have hcap : capsOf stB mpCap ((x, y) :: xs.zip ys) = mpCap x y :: capsOf stB mpCap (xs.zip ys) := by
        unfold capsOf
        rw [List.filter_cons_of_pos (by exact hs), List.map_cons]
      obtain ⟨k1, k2⟩ := part_cap hy hs ho2.1
      rw [hcap, List.cons_append]
      refine ⟨?_, ?_, ?_⟩
      · unfold flC
        rw [if_pos hs]
        simp only [List.headD_cons, List.tail_cons, List.length_cons, List.take_succ_cons]
        rw [k2, ih.1]
      · unfold flOk
        rw [if_pos hs]
        simp only [List.headD_cons, List.tail_cons]
        rw [k1, ih.2.1]
        rfl
      · rw [List.length_cons, ih.2.2, count_cons, if_pos hs]
        omega
    | false =>
      have hcap : capsOf stB mpCap ((x, y) :: xs.zip ys) = capsOf stB mpCap (xs.zip ys) := by
        unfold capsOf
        rw [List.filter_cons_of_neg (by show ¬ stB x = true; rw [hs]; decide)]
      have k := part_lit hs ho2.1
      rw [hcap]
      refine ⟨?_, ?_, ?_⟩
      · unfold flC
        rw [if_neg (by rw [hs]; decide), ih.1, k]
        rfl
      · unfold flOk
        rw [if_neg (by rw [hs]; decide)]
        exact ih.2.1
      · rw [ih.2.2, count_cons, if_neg (by rw [hs]; decide), Nat.zero_add]

theorem star_tail {x : ByteArray} (hx : partB x = true) (hs : stB x = true) : (tlB x).data.toList.all isB = true := by
  have h := star_agree hx
  rw [hs] at h
  unfold starOk at h
  rw [Bool.and_eq_true] at h
  rw [tlB_data]
  exact h.2
theorem part_name {x : ByteArray} (hx : partB x = true) (hs : stB x = false) : comp x.data.toList = true := by
  have h := star_agree hx
  unfold partB at hx
  rw [h, hs, Bool.false_or] at hx
  exact hx
theorem comp_app {a b : List UInt8} (h : comp a = true) (k : b.all isB = true) : comp (a ++ b) = true := by
  cases a with
  | nil => cases h
  | cons c a =>
    unfold comp at h ⊢
    rw [Bool.and_eq_true] at h
    rw [List.cons_append]
    simp only [Bool.and_eq_true]
    refine ⟨h.1, ?_⟩
    have := h.2
    rw [← List.cons_append, List.all_append, this, k]
    rfl
theorem comp_ne_nil {a : List UInt8} (h : comp a = true) : a.isEmpty = false := by
  cases a with
  | nil => cases h
  | cons c a => rfl

theorem match_of_fill : ∀ (xs cs L : List ByteArray), (∀ x ∈ xs, partB x = true) → flOk stB xs cs = true → countB stB xs ≤ cs.length →
    okOf mpOk (xs.zip (flC stB tlB xs cs ++ L)) = true ∧ capsOf stB mpCap (xs.zip (flC stB tlB xs cs ++ L)) = cs.take (countB stB xs) ∧ ∀ y ∈ flC stB tlB xs cs, comp y.data.toList = true
  | [], cs, L, _, _, _ => ⟨rfl, by simp [capsOf, countB], fun y hy => by cases hy⟩
  | x :: xs, cs, L, hp, ho, hl => by
    have hpx := hp x (by simp)
    have hpr : ∀ z ∈ xs, partB z = true := fun z hz => hp z (by simp [hz])
    cases hs : stB x with
    | true =>
      rw [count_cons, if_pos hs] at hl
      cases cs with
      | nil => simp at hl <;> omega
      | cons y cs =>
        unfold flOk at ho
        rw [if_pos hs] at ho
        simp only [List.headD_cons, List.tail_cons, Bool.and_eq_true] at ho
        have ih := match_of_fill xs cs L hpr ho.2 (by simp at hl; omega)
        have e : flC stB tlB (x :: xs) (y :: cs) = (y ++ tlB x) :: flC stB tlB xs cs := by
          conv => lhs; unfold flC
          rw [if_pos hs]
          rfl
        have ht := trim_app y.data.toList (tlB x).data.toList
        have hm : mpOk x (y ++ tlB x) = true := by
          unfold mpOk
          rw [if_pos hs, app_data, ht.1, ht.2, comp_ne_nil ho.1]
          rfl
        have hc : mpCap x (y ++ tlB x) = y := by
          unfold mpCap
          rw [if_pos hs, app_data, ht.2, mkB_back]
        have hz : (x :: xs).zip ((y ++ tlB x) :: flC stB tlB xs cs ++ L) = (x, y ++ tlB x) :: xs.zip (flC stB tlB xs cs ++ L) := rfl
        rw [e, hz, count_cons, if_pos hs]
        refine ⟨?_, ?_, ?_⟩
        · unfold okOf
          rw [List.all_cons]
          rw [Bool.and_eq_true]
          exact ⟨hm, ih.1⟩
        · have hcap : capsOf stB mpCap ((x, y ++ tlB x) :: xs.zip (flC stB tlB xs cs ++ L)) = mpCap x (y ++ tlB x) :: capsOf stB mpCap (xs.zip (flC stB tlB xs cs ++ L)) := by
            unfold capsOf
            rw [List.filter_cons_of_pos (by exact hs), List.map_cons]
          rw [hcap, hc, ih.2.1, Nat.add_comm 1 (countB stB xs), List.take_succ_cons]
        · intro z hz
          rcases List.mem_cons.1 hz with rfl | hz
          · rw [app_data]
            exact comp_app ho.1 (star_tail hpx hs)
          · exact ih.2.2 z hz
    | false =>
      rw [count_cons, if_neg (by rw [hs]; decide), Nat.zero_add] at hl
      unfold flOk at ho
      rw [if_neg (by rw [hs]; decide)] at ho
      have ih := match_of_fill xs cs L hpr ho hl
      have e : flC stB tlB (x :: xs) cs = x :: flC stB tlB xs cs := by
        conv => lhs; unfold flC
        rw [if_neg (by rw [hs]; decide)]
      have hm : mpOk x x = true := by
        unfold mpOk
        rw [if_neg (by rw [hs]; decide)]
        simp
      have hz : (x :: xs).zip (x :: flC stB tlB xs cs ++ L) = (x, x) :: xs.zip (flC stB tlB xs cs ++ L) := rfl
      rw [e, hz, count_cons, if_neg (by rw [hs]; decide), Nat.zero_add]
      refine ⟨?_, ?_, ?_⟩
      · unfold okOf
        rw [List.all_cons, Bool.and_eq_true]
        exact ⟨hm, ih.1⟩
      · have hcap : capsOf stB mpCap ((x, x) :: xs.zip (flC stB tlB xs cs ++ L)) = capsOf stB mpCap (xs.zip (flC stB tlB xs cs ++ L)) := by
          unfold capsOf
          rw [List.filter_cons_of_neg (by show ¬ stB x = true; rw [hs]; decide)]
        rw [hcap, ih.2.1]
      · intro z hz
        rcases List.mem_cons.1 hz with rfl | hz
        · exact part_name hpx hs
        · exact ih.2.2 z hz

/-- splitting a joined text -/
theorem spB_join {L : List ByteArray} (h0 : L ≠ []) (h : ∀ y ∈ L, comp y.data.toList = true) : spB (Lib.join (datj L) [47]) = L := by
  unfold spB
  rw [sp_join (datj L) (by intro e; exact h0 (List.map_eq_nil_iff.1 e)) (fun l hl => by
    obtain ⟨y, hy, rfl⟩ := List.mem_map.1 hl
    exact comp_no_slash (h y hy))]
  unfold datj
  rw [List.map_map]
  conv => rhs; rw [← List.map_id L]
  exact List.map_congr_left fun x _ => mkB_back x
theorem joinB_comps {L : List ByteArray} (h0 : L ≠ []) (h : ∀ y ∈ L, comp y.data.toList = true) : compsB (joinB L) = L := by
  unfold compsB joinB joinL
  rw [mkB_data]
  exact spB_join h0 h
theorem joinB_path {L : List ByteArray} (h2 : 2 ≤ L.length) (h : ∀ y ∈ L, comp y.data.toList = true) : pathOk (joinB L).data.toList = true := by
  have h0 : L ≠ [] := by intro e; rw [e] at h2; simp at h2
  rw [pathOk_iff, joinB_comps h0 h]
  refine ⟨?_, h2⟩
  unfold dirOk
  rw [comps_all, joinB_comps h0 h, Bool.and_eq_true, List.all_eq_true]
  refine ⟨?_, h⟩
  unfold joinB joinL
  rw [mkB_data]
  rfl
theorem comps_joinB {s : ByteArray} (h : pathOk s.data.toList = true) : joinB (compsB s) = s ∧ ∀ y ∈ compsB s, comp y.data.toList = true := by
  have h1 := ((pathOk_iff s).1 h).1
  unfold dirOk at h1
  rw [comps_all, Bool.and_eq_true, List.all_eq_true] at h1
  refine ⟨?_, h1.2⟩
  unfold joinB joinL compsB spB datj
  rw [List.map_map]
  have e : ((fun x : ByteArray => x.data.toList) ∘ mkB) = id := by funext l; exact mkB_data l
  rw [e, List.map_id, join_sp]
  have hp := h1.1
  unfold Lib.hasPrefix at hp
  obtain ⟨t, ht⟩ := List.isPrefixOf_iff_prefix.1 hp
  conv => rhs; rw [← mkB_back s, ← ht]
  rw [← ht]
  rfl
theorem lens_in {n m : Nat} {r : Bool} (h : n ≤ m) (h1 : r = true → n < m) (h2 : r = false → n = m) : lensOk n m r = true := by
  unfold lensOk
  rw [Bool.and_eq_true, Bool.not_eq_true', decide_eq_false_iff_not, beq_iff_eq]
  refine ⟨by omega, ?_⟩
  cases r with
  | true => exact decide_eq_true (h1 rfl)
  | false => exact decide_eq_false (by have := h2 rfl; omega)

/-- a matching path is what its captures make -/
theorem match_fills {xs : List ByteArray} {r : Bool} {s : ByteArray} (h : matchOk mpOk xs r s = true) : fillE xs r (capsB stB mpCap xs r s) = 0 ∧ fillT xs r (capsB stB mpCap xs r s) = s := by
  unfold matchOk at h
  rw [Bool.and_eq_true, Bool.and_eq_true, Bool.and_eq_true, beq_iff_eq] at h
  obtain ⟨⟨⟨hp, hc⟩, hl⟩, ho⟩ := h
  obtain ⟨l1, l2, l3⟩ := lens_lo hl
  obtain ⟨e1, e2⟩ := comps_joinB hp
  obtain ⟨f1, f2, f3⟩ := fill_of_match xs (compsB s) l1 ho e2 (restL xs r s)
  have hcb : capsB stB mpCap xs r s = capsOf stB mpCap (xs.zip (compsB s)) ++ restL xs r s := rfl
  have hlast : lastC stB xs (capsB stB mpCap xs r s) = (restL xs r s).headD ⟨#[]⟩ := by
    unfold lastC
    rw [hcb, ← f3, List.drop_left']
    rfl
  have hdr : r = true → (compsB s).drop xs.length ≠ [] := fun e => by
    intro k
    have := l2 e
    have := congrArg List.length k
    rw [List.length_drop] at this
    simp at this
    omega
  have hrs : r = true → spB (lastC stB xs (capsB stB mpCap xs r s)).data.toList = (compsB s).drop xs.length := fun e => by
    rw [hlast]
    unfold restL
    rw [if_pos e]
    show spB (joinT _).data.toList = _
    unfold joinT
    rw [mkB_data]
    exact spB_join (hdr e) (fun y hy => e2 y (List.mem_of_mem_drop hy))
  have hok : fillOk stB xs r (capsB stB mpCap xs r s) = true := by
    refine fill_good ?_ (by rw [hcb]; exact f2) (fun e => ?_)
    · rw [hcb, List.length_append, f3]
      unfold wildB restL
      cases r <;> simp
    · rw [hrs e, List.all_eq_true]
      exact fun y hy => e2 y (List.mem_of_mem_drop hy)
  obtain ⟨k1, k2⟩ := fill_e2 hc hok
  refine ⟨k1, ?_⟩
  rw [k2]
  unfold fillL
  rw [hcb, f1, ← hcb]
  cases r with
  | true =>
    rw [if_pos rfl, ← joinB_rest, hrs rfl, List.take_append_drop, e1]
  | false =>
    rw [if_neg (by decide), List.append_nil, List.take_of_length_le (by have := l3 rfl; omega), e1]

/-- what captures make is matched with these captures -/
theorem fills_match {xs : List ByteArray} {r : Bool} {cs : List ByteArray} (h : fillE xs r cs = 0) : matchOk mpOk xs r (fillT xs r cs) = true ∧ capsB stB mpCap xs r (fillT xs r cs) = cs := by
  have hc : checkP xs r = 0 := by
    apply Classical.byContradiction
    intro k
    rw [(fill_e0 k).1] at h
    exact k h
  have hok : fillOk stB xs r cs = true := by
    cases hk : fillOk stB xs r cs with
    | true => rfl
    | false => rw [(fill_e1 hc hk).1] at h; cases h
  rw [(fill_e2 hc hok).2]
  have hpa := parts_all (check_zero hc).2.2
  have hpos := (check_zero hc).1
  unfold fillOk at hok
  rw [Bool.and_eq_true, Bool.and_eq_true, decide_eq_true_iff] at hok
  obtain ⟨hl, hf, hr⟩ := hok
  unfold wildB at hl
  have hcl : countB stB xs ≤ cs.length := by omega
  cases r with
  | false =>
    rw [if_neg (by decide)] at hl
    obtain ⟨m1, m2, m3⟩ := match_of_fill xs cs [] hpa hf hcl
    rw [List.append_nil] at m1 m2
    have hL : fillL stB tlB xs false cs = flC stB tlB xs cs := by unfold fillL; simp
    rw [hL]
    have hx2 : 2 ≤ xs.length := by
      apply Classical.byContradiction
      intro k
      have : checkP xs false = 30 := check_short (.inr ⟨by omega, rfl⟩)
      rw [hc] at this
      cases this
    have hne : flC stB tlB xs cs ≠ [] := by
      intro e
      have := flC_len stB tlB xs cs
      rw [e] at this
      simp at this
      omega
    have hcm := joinB_comps hne m3
    have hpt := joinB_path (by rw [flC_len]; exact hx2) m3
    refine ⟨?_, ?_⟩
    · unfold matchOk
      rw [hpt, hc, hcm, m1, lens_in (by rw [flC_len]; omega) (fun e => by cases e) (fun _ => (flC_len _ _ _ _).symm)]
      rfl
    · unfold capsB restL
      rw [hcm, m2, if_neg (by decide), List.append_nil, List.take_of_length_le (by omega)]
  | true =>
    rw [if_pos rfl] at hl
    have hlc : ∃ y, cs.drop (countB stB xs) = [y] ∧ lastC stB xs cs = y := by
      have hd : (cs.drop (countB stB xs)).length = 1 := by rw [List.length_drop]; omega
      unfold lastC
      match cs.drop (countB stB xs), hd with
      | [y], _ => exact ⟨y, rfl, rfl⟩
    obtain ⟨y, hd, hy⟩ := hlc
    rw [hy] at hr
    have hr2 : (spB y.data.toList).all (fun x => comp x.data.toList) = true := by simpa using hr
    obtain ⟨m1, m2, m3⟩ := match_of_fill xs cs (spB y.data.toList) hpa hf hcl
    have hL : joinB (fillL stB tlB xs true cs) = joinB (flC stB tlB xs cs ++ spB y.data.toList) := by
      unfold fillL
      rw [if_pos rfl, hy, joinB_rest]
    rw [hL]
    have hsp := spB_pos y.data.toList
    have hall : ∀ z ∈ flC stB tlB xs cs ++ spB y.data.toList, comp z.data.toList = true := fun z hz => by
      rcases List.mem_append.1 hz with hz | hz
      · exact m3 z hz
      · exact List.all_eq_true.1 hr2 z hz
    have hlen : (flC stB tlB xs cs ++ spB y.data.toList).length = xs.length + (spB y.data.toList).length := by rw [List.length_append, flC_len]
    have hne : flC stB tlB xs cs ++ spB y.data.toList ≠ [] := by
      intro e
      rw [e] at hlen
      simp at hlen
      omega
    have hcm := joinB_comps hne hall
    have hpt := joinB_path (by rw [hlen]; omega) hall
    refine ⟨?_, ?_⟩
    · unfold matchOk
      rw [hpt, hc, hcm, m1, lens_in (by rw [hlen]; omega) (fun _ => by rw [hlen]; omega) (fun e => by cases e)]
      rfl
    · unfold capsB restL
      rw [hcm, m2, if_pos rfl]
      have e1 : (flC stB tlB xs cs ++ spB y.data.toList).drop xs.length = spB y.data.toList := by
        rw [← flC_len stB tlB xs cs, List.drop_left']
        rfl
      have e2 : joinT (spB y.data.toList) = y := by
        unfold joinT datj spB
        rw [List.map_map]
        have : ((fun x : ByteArray => x.data.toList) ∘ mkB) = id := by funext l; exact mkB_data l
        rw [this, List.map_id, join_sp, mkB_back]
      rw [e1, e2, ← hd, List.take_append_drop]

/-- lengths -/
theorem tail_len (l : List (List UInt8)) : (Lib.joinTail [47] l).length = (l.map (fun x => x.length + 1)).sum := by
  induction l with
  | nil => rfl
  | cons x l ih =>
    have e : Lib.joinTail [47] (x :: l) = 47 :: (x ++ Lib.joinTail [47] l) := by simp [Lib.joinTail]
    rw [e, List.length_cons, List.length_append, ih, List.map_cons, List.sum_cons]
    omega
theorem join_len_le (l : List (List UInt8)) : (Lib.join l [47]).length ≤ (l.map (fun x => x.length + 1)).sum := by
  cases l with
  | nil => simp [Lib.join_nil]
  | cons x l =>
    rw [Lib.join_cons, List.length_append, tail_len, List.map_cons, List.sum_cons]
    omega
theorem join_drop_len : ∀ (l : List (List UInt8)) (k : Nat), (Lib.join (l.drop k) [47]).length ≤ (Lib.join l [47]).length
  | l, 0 => Nat.le_refl _
  | [], k + 1 => by simp [Lib.join_nil]
  | x :: l, k + 1 => by
    have ih := join_drop_len l k
    rw [List.drop_succ_cons]
    refine Nat.le_trans ih ?_
    rw [Lib.join_cons, List.length_append]
    cases l with
    | nil => simp [Lib.join_nil]
    | cons y l =>
      rw [Lib.join_cons]
      have e : Lib.joinTail [47] (y :: l) = 47 :: (y ++ Lib.joinTail [47] l) := by simp [Lib.joinTail]
      rw [e, List.length_cons]
      omega
theorem caps_size {xs : List ByteArray} {r : Bool} {s : ByteArray} : ∀ y ∈ capsB stB mpCap xs r s, y.size ≤ s.size := by
  intro y hy
  unfold capsB at hy
  rcases List.mem_append.1 hy with hy | hy
  · unfold capsOf at hy
    obtain ⟨z, hz, rfl⟩ := List.mem_map.1 hy
    have hz2 := List.of_mem_zip (show (z.1, z.2) ∈ xs.zip (compsB s) from (List.mem_filter.1 hz).1)
    have hz3 := compsB_size s _ hz2.2
    unfold mpCap
    split
    · rw [mkB_size]
      have := Lib.trimSuffix_le z.2.data.toList (tlB z.1).data.toList
      rw [Lib.size_eq] at hz3
      omega
    · show 0 ≤ _
      omega
  · unfold restL at hy
    split at hy
    · obtain rfl := List.mem_singleton.1 hy
      rw [joinT_size]
      unfold datj
      rw [List.map_drop]
      refine Nat.le_trans (join_drop_len _ _) ?_
      unfold compsB spB
      rw [List.map_map]
      have e : ((fun x : ByteArray => x.data.toList) ∘ mkB) = id := by funext l; exact mkB_data l
      rw [e, List.map_id, join_sp, List.length_drop, Lib.size_eq]
      omega
    · cases hy
theorem flC_sum {st : ByteArray → Bool} {tl : ByteArray → ByteArray} (htl : ∀ x, (tl x).size ≤ x.size) {m : Nat} : ∀ {xs cs : List ByteArray}, (∀ x ∈ cs, x.size ≤ m) → ((datj (flC st tl xs cs)).map (fun x => x.length + 1)).sum ≤ sumB xs + xs.length * (m + 1)
  | [], cs, _ => by simp [flC, datj]
  | x :: xs, cs, h => by
    have e : sumB (x :: xs) = x.size + sumB xs := by simp [sumB]
    have e2 : (x :: xs).length * (m + 1) = xs.length * (m + 1) + (m + 1) := by rw [List.length_cons, Nat.succ_mul]
    rw [e, e2]
    unfold flC
    split
    · have ih := flC_sum (st := st) htl (xs := xs) (cs := cs.tail) (fun y hy => h y (List.mem_of_mem_tail hy))
      have hh : (cs.headD ⟨#[]⟩).size ≤ m := by
        cases cs with
        | nil => exact Nat.zero_le _
        | cons c cs => exact h c (by simp)
      have e3 : datj ((cs.headD ⟨#[]⟩ ++ tl x) :: flC st tl xs cs.tail) = (cs.headD ⟨#[]⟩ ++ tl x).data.toList :: datj (flC st tl xs cs.tail) := rfl
      rw [e3, List.map_cons, List.sum_cons, ← Lib.size_eq, ByteArray.size_append]
      have := htl x
      omega
    · have ih := flC_sum (st := st) htl (xs := xs) (cs := cs) h
      have e3 : datj (x :: flC st tl xs cs) = x.data.toList :: datj (flC st tl xs cs) := rfl
      rw [e3, List.map_cons, List.sum_cons, ← Lib.size_eq]
      omega
theorem fillT_size {xs : List ByteArray} {r : Bool} {cs : List ByteArray} (h : ∀ x ∈ cs, x.size ≤ 100) (hs : sumB xs ≤ 400) (hl : xs.length ≤ 20) : (fillT xs r cs).size ≤ 5000 := by
  unfold fillT
  split
  · unfold joinB joinL
    rw [mkB_size]
    have h1 := join_len_le (datj (fillL stB tlB xs r cs))
    have h2 := flC_sum (st := stB) (tl := tlB) tlB_size (xs := xs) (cs := cs) h
    have h3 : xs.length * (100 + 1) ≤ 20 * (100 + 1) := Nat.mul_le_mul_right _ hl
    have h4 : ((datj (fillL stB tlB xs r cs)).map (fun x => x.length + 1)).sum ≤ ((datj (flC stB tlB xs cs)).map (fun x => x.length + 1)).sum + 101 := by
      unfold fillL datj
      rw [List.map_append, List.map_append, List.sum_append]
      refine Nat.add_le_add_left ?_ _
      cases r with
      | false => simp
      | true =>
        rw [if_pos rfl]
        have hh : (lastC stB xs cs).size ≤ 100 := by
          unfold lastC
          cases hd : cs.drop (countB stB xs) with
          | nil => exact Nat.zero_le _
          | cons y ys => exact h y (List.mem_of_mem_drop (i := countB stB xs) (by rw [hd]; simp))
        rw [Lib.size_eq] at hh
        simp
        exact hh
    simp only [List.length_cons]
    omega
  · exact Nat.zero_le _
end Go.Proofs.YtidjmbmnfnnleaaDoor

