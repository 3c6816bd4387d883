/-
  The walks of the reference's Equal and Lines, and of the law's same.
-/
import Derived.Test.YtfhkmmicdbblnaaDoorL7
import Derived.Test.YtfhkmmicdbblnaaDoorME
namespace Go.Proofs.YtfhkmmicdbblnaaDoor
set_option linter.unusedSimpArgs false
set_option linter.unusedVariables false
open Go.RowKit

theorem count_one : ∀ (l : List UInt8), Lib.count l [10] = l.count 10
  | [] => rfl
  | c :: l => by
    have ih := count_one l
    have h1 := index_one 10 (c :: l)
    have h2 := index_one 10 l
    by_cases e : c = 10
    · subst e
      rw [Lib.count_hit (i := 0) (by simp) (by rw [h1]; unfold Lib.indexByte; rw [if_pos (by decide)]; rfl)]
      simp only [List.length_singleton, Nat.zero_add, List.drop_succ_cons, List.drop_zero]
      rw [ih]
      simp
      omega
    · have hstep : Lib.indexByte (c :: l) 10 = if Lib.indexByte l 10 = -1 then -1 else Lib.indexByte l 10 + 1 := by
        conv => lhs; unfold Lib.indexByte
        rw [if_neg (by simpa using e)]
        by_cases hk : Lib.indexByte l 10 = -1
        · rw [if_pos (by simpa using hk), if_pos hk]
        · rw [if_neg (by simpa using hk), if_neg hk]
      have hc : (c :: l).count 10 = l.count 10 := by
        rw [List.count_cons_of_ne]
        simpa using e
      rw [hc, ← ih]
      have hg := Lib.indexByte_ge l 10
      by_cases hk : Lib.indexByte l 10 = -1
      · rw [Lib.count_miss (by rw [h1, hstep, if_pos hk]), Lib.count_miss (by rw [h2, hk])]
      · obtain ⟨i, hi⟩ : ∃ i : Nat, Lib.indexByte l 10 = i := ⟨(Lib.indexByte l 10).toNat, by omega⟩
        rw [Lib.count_hit (i := i + 1) (by simp) (by rw [h1, hstep, if_neg hk, hi]; rfl), Lib.count_hit (s := l) (i := i) (by simp) (by rw [h2, hi])]
        simp only [List.length_singleton, List.drop_succ_cons]

theorem drewN_more {w wr : World} (h : ∃ n, wr = w.drewN n) (q : Nat) : ∃ n, wr.drewN q = w.drewN n := by
  obtain ⟨n, rfl⟩ := h
  exact ⟨n + q, World.drewN_drewN _ _ _⟩
theorem drewN_below {w wr : World} (h : ∃ n, wr = w.drewN n) : Below w.heap.size w wr := by
  obtain ⟨n, rfl⟩ := h
  exact below_drewN' w n
set_option maxHeartbeats 1000000 in
theorem eqT_any (A B : Option Addr) (c d : Nat) (xs ys : List ByteArray) (w : World) (h : RT w A c xs) (k : RT w B d ys) :
    Calls Tryd.prog 13 #[.slice A xs.length c, .slice B ys.length d] w fun e w' => e = .returned (.bool (decide (xs = ys))) ∧ ∃ n, w' = w.drewN n := by
  have h1 := h.1
  have h2 := h.2.1
  have k1 := k.1
  have k2 := k.2.1
  have hx9 : xs.length ≤ 9223372036854775807 := by omega
  clear h1 h2 k1 k2
  have HX := Lib.hid h
  have HY := Lib.hid k
  clear h k
  by_cases hl : xs.length = ys.length
  · have hlB : ((xs.length : Int) != (ys.length : Int)) = false := by rw [hl]; simp
    have HL := Lib.hid hl
    clear hl
    go_enter Tryd.func13, Tryd.ntmps13
    go_wp2_with fail
    go_loopw [13] (fun i wr => ∃ k : Nat, k ≤ xs.length ∧ i = .int .i64 k ∧ Hid (xs.take k = ys.take k) ∧ Hid (∃ n, wr = w.drewN n)) (fun i _ => xs.length - (intOf i).toNat)
    case atStart => exact ⟨0, Nat.zero_le _, rfl, Lib.hid (by simp), Lib.hid ⟨0, rfl⟩⟩
    case round =>
      obtain ⟨k, hka, rfl, HK, HB⟩ := hrel
      by_cases g1 : k < xs.length
      · have g2 : k < ys.length := by rw [← HL.out]; exact g1
        obtain ⟨x, hx⟩ : ∃ x, xs[k]? = some x := ⟨_, List.getElem?_eq_getElem g1⟩
        obtain ⟨y, hy⟩ : ∃ y, ys[k]? = some y := ⟨_, List.getElem?_eq_getElem g2⟩
        obtain ⟨b1, o1, rfl, hb1, hc1⟩ := (HX.out.below (drewN_below HB.out)).2.2 (by omega)
        obtain ⟨b2, o2, rfl, hb2, hc2⟩ := (HY.out.below (drewN_below HB.out)).2.2 (by omega)
        have hcx := hc1 k x hx
        have hcy := hc2 k y hy
        have HHX := Lib.hid hx
        have HHY := Lib.hid hy
        clear hc1 hc2 hx hy hb1 hb2
        by_cases he : x = y
        · have heB : (x.toList == y.toList) = true := by rw [he]; simp
          have HN := Lib.hid (take_eq_step HHX.out HHY.out HK.out he)
          clear he
          go_wp2_with fail
          go_quiet (fail)
          go_wp2_with fail
          go_roundw
          case rel => exact ⟨k + 1, by omega, by go_num, HN, Lib.hid (drewN_more HB.out _)⟩
          case measure => simp [intOf]; omega
        · have heB := txt_ne he
          have HN : Hid (decide (xs = ys) = false) := Lib.hid (by
            rw [decide_eq_false_iff_not]
            intro e
            subst e
            rw [HHX.out] at *
            exact he (Option.some.inj HHY.out))
          clear he
          go_wp2_with fail
          go_quiet (fail)
          go_wp2_with fail
          go_ret
          exact ⟨ret_bool HN.out.symm, drewN_more HB.out _⟩
      · have HN : Hid (decide (xs = ys) = true) := Lib.hid (by
          have := HK.out
          have hl := HL.out
          rw [List.take_of_length_le (by omega), List.take_of_length_le (by omega)] at this
          simpa using this)
        go_wp2_with fail
        go_ret
        exact ⟨ret_bool HN.out.symm, HB.out⟩
  · have HN : Hid (decide (xs = ys) = false) := Lib.hid (by
      rw [decide_eq_false_iff_not]
      intro e
      exact hl (by rw [e]))
    have hlB : ((xs.length : Int) != (ys.length : Int)) = true := by
      rw [bne_iff_ne]
      intro e
      exact hl (by omega)
    clear hl
    go_enter Tryd.func13, Tryd.ntmps13
    go_wp2_with fail
    go_ret
    exact ⟨ret_bool HN.out.symm, 0, rfl⟩

/-- what the library's split leaves -/
theorem split_lines (s : ByteArray) : cutEnd ((Lib.splitB ⟨#[10]⟩ 1 (Lib.countB s ⟨#[10]⟩) s).map dT) = (lB s).map dT ∧ (Lib.splitB ⟨#[10]⟩ 1 (Lib.countB s ⟨#[10]⟩) s).length = Lib.countB s ⟨#[10]⟩ + 1 := by
  refine ⟨?_, Lib.splitB_all _ (by decide) 1 _ s rfl⟩
  have e : (Lib.splitB ⟨#[10]⟩ 1 (Lib.countB s ⟨#[10]⟩) s).map dT = Lib.splitK [10] 1 (Lib.countB s ⟨#[10]⟩) s.data.toList := Lib.splitB_data _ 1 _ s
  rw [e, lns_split _ _ (count_one _).symm]
  exact (lB_data s).symm
theorem cut_last {xs : List ByteArray} (h : xs ≠ []) : ∃ x, xs[xs.length - 1]? = some x ∧ cutEnd (xs.map dT) = (if 0 < x.size then xs else xs.dropLast).map dT := by
  refine ⟨xs.getLast h, by rw [List.getLast_eq_getElem]; exact List.getElem?_eq_getElem _, ?_⟩
  unfold cutEnd
  rw [List.getLast?_map, List.getLast?_eq_some_getLast h, Option.map_some]
  by_cases h0 : 0 < (xs.getLast h).size
  · rw [if_pos h0, if_neg]
    intro e
    have e2 : dT (xs.getLast h) = [] := Option.some.inj e
    rw [Lib.size_eq] at h0
    unfold dT at e2
    rw [e2] at h0
    exact Nat.lt_irrefl 0 h0
  · rw [if_neg h0, if_pos, List.map_dropLast]
    exact congrArg some (bytes_nil (by omega))
theorem dT_map_inj {a b : List ByteArray} (h : a.map dT = b.map dT) : a = b := bytes_inj h
theorem RT.cells {w : World} (xs : List ByteArray) (t : TypeId) (hl : xs.length ≤ 1000000) {g : Nat} (hg : g = w.heap.size) : RT (w.alloc (.cells (xs.map Value.string).toArray t)) (some ⟨g, 0, none⟩) xs.length xs := by
  subst hg
  refine ⟨Nat.le_refl _, by omega, fun _ => ⟨w.heap.size, 0, rfl, by simp, fun j x hx => ?_⟩⟩
  rw [World.cell?_alloc_new, Nat.zero_add]
  simp [hx]

theorem ML.of {w : World} (h : w.ShapedOpen Tryd.prog) : ML w := Go.Proofs.cell_of_shapedOpen_int (zero := #[.int .i64 0]) (t := 3) h (of_decide_eq_true (by kernel_rfl)) (by kernel_rfl) rfl (by kernel_rfl) (by kernel_rfl) Tryd.underlying3
set_option maxHeartbeats 1000000 in
theorem rLines_any (s : ByteArray) (w : World) (hs : s.size ≤ 100000) (hm : ML w) :
    Calls Tryd.prog 14 #[.string s] w (RetT w (lB s) id) := by
  obtain ⟨m, hm⟩ := hm
  obtain ⟨hc, hl⟩ := split_lines s
  have hcl := Lib.countB_le ⟨#[10]⟩ (by decide) _ s (Nat.le_refl _)
  have HG : Hid (Calls Tryd.prog 47 #[.string s, .string ⟨#[10]⟩, .int .i64 1, .int .i64 (-1)] w fun e w' => ∃ xs : List ByteArray, cutEnd (xs.map dT) = (lB s).map dT ∧ 0 < xs.length ∧ xs.length ≤ 100001 ∧ e = .returned (.slice (some ⟨w.heap.size, 0, none⟩) xs.length xs.length) ∧ RT w' (some ⟨w.heap.size, 0, none⟩) xs.length xs ∧ Below w.heap.size w w') := Lib.hid (by
    refine (Tryd.strings_genSplit s ⟨#[10]⟩ 1 (-1) (Lib.countB s ⟨#[10]⟩ + 1) m w (by omega) hm (by decide) (by decide) (by decide) (by omega) (by rw [if_pos (by decide)]; omega)).mono fun e w' ⟨he, hw⟩ => ?_
    rw [Nat.add_sub_cancel] at he hw
    refine ⟨_, hc, by omega, by omega, by rw [he, hl], ?_, ?_⟩
    · rw [hw, ← hl, Lib.cellsOf_full]
      exact RT.cells _ _ (by omega) rfl
    · rw [hw]; exact below_alloc _ _)
  clear hc hl hcl hm
  have HS : Hid (Calls Tryd.prog 31 #[.string s, .string ⟨#[10]⟩] w fun e w' => ∃ xs : List ByteArray, cutEnd (xs.map dT) = (lB s).map dT ∧ 0 < xs.length ∧ xs.length ≤ 100001 ∧ e = .returned (.slice (some ⟨w.heap.size, 0, none⟩) xs.length xs.length) ∧ RT w' (some ⟨w.heap.size, 0, none⟩) xs.length xs ∧ Below w.heap.size w w') := Lib.hid (by
    go_enter Tryd.func31, Tryd.ntmps31
    go_wp2_with (go_at_call 47; refine HG.out.mono ?_; rintro e w1 ⟨xs, h1, h2, h3, rfl, h4, h5⟩; have H1 := Lib.hid h1; have H4 := Lib.hid h4; have H5 := Lib.hid h5; clear h1 h4 h5)
    go_ret
    exact ⟨xs, H1.out, h2, h3, rfl, H4.out, H5.out⟩)
  go_enter Tryd.func14, Tryd.ntmps14
  go_wp2_with fail
  refine HS.out.mono ?_
  rintro e w1 ⟨xs, hcut, hx0, hx1, rfl, hrt, hb⟩
  have HRT := Lib.hid hrt
  have HB := Lib.hid hb
  obtain ⟨x, hx, hce⟩ := cut_last (List.ne_nil_of_length_pos hx0)
  rw [hcut] at hce
  have HCE := Lib.hid hce
  obtain ⟨b, o, e2, hb1, hc1⟩ := hrt.2.2 hx0
  cases e2
  have hcx := hc1 _ x hx
  rw [Nat.zero_add] at hcx
  clear hrt hb hcut hce hb1 hc1 hx
  by_cases hz : 0 < x.size
  · rw [if_pos hz] at HCE
    have hne := bytes_ne hz
    go_wp2_with fail
    go_ret
    have hrt := HRT.out
    obtain rfl := dT_map_inj HCE.out
    exact ⟨_, _, rfl, hrt, HB.out⟩
  · rw [if_neg hz] at HCE
    have hem : x.toList.isEmpty = true := by rw [Lib.toList_data, bytes_nil (by omega)]; rfl
    go_wp2_with fail
    go_ret
    have hrt := HRT.out.take (xs.length - 1)
    rw [← List.dropLast_eq_take] at hrt
    have e := dT_map_inj HCE.out
    refine ⟨some ⟨w.heap.size, 0, none⟩, xs.length, ?_, by rw [e]; exact hrt, HB.out⟩
    rw [e, List.length_dropLast]
    first | rfl | (simp; done)

set_option maxHeartbeats 1000000 in
theorem same_any (A B : Option Addr) (c d : Nat) (hs : List (Nat × Nat × List ByteArray)) (w : World) (h : RF w A c 3 (hs.map hkF)) (k : RF w B d 3 (hs.map hkF)) :
    Calls Tryd.prog 11 #[.slice A hs.length c, .slice B hs.length d] w fun e w' => e = .returned (.bool true) ∧ ∃ n, w' = w.drewN n := by
  have h1 := h.1
  have h2 := h.2.1
  have k1 := k.1
  have k2 := k.2.1
  rw [List.length_map] at h1 k1
  have hx9 : hs.length ≤ 9223372036854775807 := by omega
  clear h1 h2 k1 k2
  have HX := Lib.hid h
  have HY := Lib.hid k
  clear h k
  go_enter Tryd.func11, Tryd.ntmps11
  go_wp2_with fail
  go_loopw [13] (fun i wr => ∃ k : Nat, k ≤ hs.length ∧ i = .int .i64 k ∧ Hid (∃ n, wr = w.drewN n)) (fun i _ => hs.length - (intOf i).toNat)
  case atStart => exact ⟨0, Nat.zero_le _, rfl, Lib.hid ⟨0, rfl⟩⟩
  case round =>
    obtain ⟨k, hka, rfl, HB⟩ := hrel
    by_cases g1 : k < hs.length
    · obtain ⟨x, hx⟩ : ∃ x, hs[k]? = some x := ⟨_, List.getElem?_eq_getElem g1⟩
      obtain ⟨b1, o1, C1, n1, rfl, hb1, x0, x1, x2, r1⟩ := (HX.out.below (drewN_below HB.out)).hunk hx
      obtain ⟨b2, o2, C2, n2, rfl, hb2, y0, y1, y2, r2⟩ := (HY.out.below (drewN_below HB.out)).hunk hx
      obtain ⟨a1, a2, L⟩ := x
      simp only at r1 r2 x0 x1 x2 y0 y1 y2
      have HEQ := Lib.hid (fun n => (eqT_any C1 C2 n1 n2 L L (wr.drewN n) (r1.below (below_drewN' _ _)) (r2.below (below_drewN' _ _))).mono fun e w' ⟨he, hw⟩ => (⟨he.trans (ret_bool (decide_eq_true rfl)), hw⟩ : e = Ending.returned (.bool true) ∧ ∃ m, w' = (wr.drewN n).drewN m))
      have e1 : ((a1 : Int) != (a1 : Int)) = false := by simp
      have e2 : ((a2 : Int) != (a2 : Int)) = false := by simp
      clear hx hb1 hb2 r1 r2
      go_wp2_with fail
      go_quiet ((go_at_call 13; exact Calls.quiet_of (HEQ.out _)))
      go_wp2_with fail
      go_roundw
      case rel => exact ⟨k + 1, by omega, by go_num, Lib.hid (drewN_more HB.out _)⟩
      case measure => simp [intOf]; omega
    · go_wp2_with fail
      go_ret
      exact ⟨rfl, HB.out⟩
end Go.Proofs.YtfhkmmicdbblnaaDoor

