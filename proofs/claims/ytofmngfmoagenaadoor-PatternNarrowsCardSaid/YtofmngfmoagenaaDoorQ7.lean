/-
  The words of the statements on patterns: equal, small, copied, awake.
-/
import Derived.Test.YtofmngfmoagenaaDoorQ6
import Derived.Deep.RegionHeld3
namespace Go.Proofs.YtofmngfmoagenaaDoor
set_option linter.unusedSimpArgs false
set_option linter.unusedVariables false
open Go.RowKit
open Pm

set_option maxHeartbeats 1000000 in
theorem eq_any (A B : Option Addr) (c d : Nat) (xs ys : List ByteArray) (w : World) (h : RT w A c xs) (k : RT w B d ys) :
    Calls Tryd.prog 25 #[.slice A xs.length c, .slice B ys.length d] w fun e w' => e = .returned (.bool (decide (xs = ys))) ∧ Below w.heap.size w w' := by
  have h1 := h.1
  have h2 := h.2.1
  have k1 := k.1
  have k2 := k.2.1
  have hx9 : xs.length ≤ 9223372036854775807 := by omega
  clear h1 h2 k1 k2
  have HX := Lib.hid h
  have HY := Lib.hid k
  clear h k
  by_cases hl : xs.length = ys.length
  · have hlB : ((xs.length : Int) != (ys.length : Int)) = false := by rw [hl]; simp
    have HL := Lib.hid hl
    clear hl
    go_enter Tryd.func25, Tryd.ntmps25
    go_wp2_with fail
    go_loopw [13] (fun i wr => ∃ k : Nat, k ≤ xs.length ∧ i = .int .i64 k ∧ Hid (xs.take k = ys.take k) ∧ Below w.heap.size w wr)
      (fun i _ => xs.length - (intOf i).toNat)
    case atStart => exact ⟨0, Nat.zero_le _, rfl, Lib.hid (by simp), Below.refl _ _⟩
    case round =>
      obtain ⟨k, hka, rfl, HK, hbel⟩ := hrel
      by_cases g1 : k < xs.length
      · have g2 : k < ys.length := by rw [← HL.out]; exact g1
        obtain ⟨x, hx⟩ : ∃ x, xs[k]? = some x := ⟨_, List.getElem?_eq_getElem g1⟩
        obtain ⟨y, hy⟩ : ∃ y, ys[k]? = some y := ⟨_, List.getElem?_eq_getElem g2⟩
        obtain ⟨b1, o1, rfl, hb1, hc1⟩ := (HX.out.below hbel).2.2 (by omega)
        obtain ⟨b2, o2, rfl, hb2, hc2⟩ := (HY.out.below hbel).2.2 (by omega)
        have hcx := hc1 k x hx
        have hcy := hc2 k y hy
        have HHX := Lib.hid hx
        have HHY := Lib.hid hy
        clear hc1 hc2 hx hy hb1 hb2
        by_cases he : x = y
        · have heB : (x.toList == y.toList) = true := by rw [he]; simp
          have HN := Lib.hid (take_eq_step HHX.out HHY.out HK.out he)
          clear he
          go_wp2_with fail
          go_quiet (fail)
          go_wp2_with fail
          go_roundw
          case rel => exact ⟨k + 1, by omega, by go_num, HN, by repeat (first | exact hbel | apply Below.drew | apply below_drewN)⟩
          case measure => simp [intOf]; omega
        · have heB : (x.toList == y.toList) = false := by
            rw [beq_eq_false_iff_ne, Lib.toList_data, Lib.toList_data]
            intro e
            refine he ?_
            rw [← mkB_back x, ← mkB_back y, e]
          have HN : Hid (decide (xs = ys) = false) := Lib.hid (by
            rw [decide_eq_false_iff_not]
            intro e
            subst e
            rw [HHX.out] at *
            exact he (Option.some.inj HHY.out))
          clear he
          go_wp2_with fail
          go_quiet (fail)
          go_wp2_with fail
          go_ret
          exact ⟨ret_bool HN.out.symm, by repeat (first | exact hbel | apply Below.drew | apply below_drewN)⟩
      · have HN : Hid (decide (xs = ys) = true) := Lib.hid (by
          rw [decide_eq_true_iff]
          have := HK.out
          rw [List.take_of_length_le (by omega), List.take_of_length_le (by rw [← HL.out]; omega)] at this
          exact this)
        go_wp2_with fail
        go_ret
        exact ⟨ret_bool HN.out.symm, hbel⟩
  · have hlB : ((xs.length : Int) != (ys.length : Int)) = true := by
      rw [bne_iff_ne]
      omega
    have HN : Hid (decide (xs = ys) = false) := Lib.hid (by
      rw [decide_eq_false_iff_not]
      intro e
      exact hl (by rw [e]))
    clear hl
    go_enter Tryd.func25, Tryd.ntmps25
    go_wp2_with fail
    go_ret
    exact ⟨ret_bool HN.out.symm, Below.refl _ _⟩

def sumB (xs : List ByteArray) : Nat := (xs.map (·.size)).sum
def smallB (xs : List ByteArray) : Bool := decide (xs.length ≤ 20) && decide (sumB xs ≤ 400)
theorem sum_step {xs : List ByteArray} {k : Nat} {x : ByteArray} (h : xs[k]? = some x) : sumB (xs.take (k + 1)) = sumB (xs.take k) + x.size := by
  unfold sumB
  rw [List.take_add_one, h, List.map_append, List.sum_append]
  simp
theorem sum_mem {xs : List ByteArray} {x : ByteArray} (h : x ∈ xs) : x.size ≤ sumB xs := by
  induction xs with
  | nil => cases h
  | cons y xs ih =>
    have e : sumB (y :: xs) = y.size + sumB xs := by simp [sumB]
    rcases List.mem_cons.1 h with rfl | h
    · omega
    · have := ih h
      omega
theorem small_yes {xs : List ByteArray} (h : smallB xs = true) : xs.length ≤ 20 ∧ sumB xs ≤ 400 ∧ ∀ x ∈ xs, x.size ≤ 400 := by
  unfold smallB at h
  rw [Bool.and_eq_true, decide_eq_true_iff, decide_eq_true_iff] at h
  exact ⟨h.1, h.2, fun x hx => Nat.le_trans (sum_mem hx) h.2⟩

set_option maxHeartbeats 1000000 in
theorem small_any (A : Option Addr) (c : Nat) (xs : List ByteArray) (r : Bool) (w : World) (h : RT w A c xs) (hsz : ∀ x ∈ xs, x.size ≤ 140737488351232) :
    Calls Tryd.prog 22 #[.agg #[.slice A xs.length c, .bool r]] w fun e w' => e = .returned (.bool (smallB xs)) ∧ Below w.heap.size w w' := by
  have h1 := h.1
  have h2 := h.2.1
  have HX := Lib.hid h
  have HS := Lib.hid hsz
  clear h hsz
  by_cases h20 : xs.length ≤ 20
  · have HR : Hid (smallB xs = decide (sumB xs ≤ 400)) := Lib.hid (by unfold smallB; rw [decide_eq_true h20, Bool.true_and])
    go_enter Tryd.func22, Tryd.ntmps22
    go_wp2_with fail
    go_loopw [3, 9] (fun n i wr => ∃ k : Nat, k ≤ xs.length ∧ i = .int .i64 k ∧ n = .int .i64 (sumB (xs.take k) : Nat) ∧ sumB (xs.take k) ≤ k * 140737488351232 ∧ Hid (Below w.heap.size w wr) ∧ wr.cell? ⟨w.heap.size, 0, none⟩ = some (.slice A xs.length c)) (fun _ i _ => xs.length - (intOf i).toNat)
    case atStart => exact ⟨0, Nat.zero_le _, rfl, rfl, by simp [sumB], Lib.hid (below_alloc _ _), by simp [World.cell?_alloc_new]⟩
    case round =>
      obtain ⟨k, hk, rfl, rfl, hsum, HBL, hc0⟩ := hrel
      by_cases hlt : k < xs.length
      · obtain ⟨x, hx⟩ : ∃ x, xs[k]? = some x := ⟨_, List.getElem?_eq_getElem hlt⟩
        obtain ⟨b1, o1, rfl, hb1, hc1⟩ := (HX.out.below HBL.out).2.2 (by omega)
        have hcx := hc1 k x hx
        have hxz := HS.out x (List.mem_of_getElem? hx)
        have HST := Lib.hid (sum_step hx)
        clear hc1 hx hb1
        have hbnd : sumB (xs.take k) + x.size ≤ (k + 1) * 140737488351232 := by omega
        generalize hm : sumB (xs.take k) = m at *
        go_wp2_with fail
        go_roundw
        case rel => exact ⟨k + 1, by omega, by go_num, by rw [HST.out]; go_num, by rw [HST.out]; exact hbnd, HBL, hc0⟩
        case measure => simp [intOf]; omega
      · have HE : Hid (sumB (xs.take k) = sumB xs) := Lib.hid (by rw [List.take_of_length_le (by omega)])
        have he := HE.out
        rw [he]
        clear hsum he
        go_wp2_with fail
        go_ret
        exact ⟨ret_bool (by rw [HR.out, Bool.eq_iff_iff]; simp; try omega), HBL.out⟩
  · have HR : Hid (smallB xs = false) := Lib.hid (by unfold smallB; rw [decide_eq_false h20, Bool.false_and])
    go_enter Tryd.func22, Tryd.ntmps22
    go_wp2_with fail
    go_loopw [3, 9] (fun n i wr => ∃ (k : Nat) (v : Int), k ≤ xs.length ∧ i = .int .i64 k ∧ n = .int .i64 v ∧ Hid (Below w.heap.size w wr) ∧ wr.cell? ⟨w.heap.size, 0, none⟩ = some (.slice A xs.length c)) (fun _ i _ => xs.length - (intOf i).toNat)
    case atStart => exact ⟨0, 0, Nat.zero_le _, rfl, rfl, Lib.hid (below_alloc _ _), by simp [World.cell?_alloc_new]⟩
    case round =>
      obtain ⟨k, v, hk, rfl, rfl, HBL, hc0⟩ := hrel
      by_cases hlt : k < xs.length
      · obtain ⟨x, hx⟩ : ∃ x, xs[k]? = some x := ⟨_, List.getElem?_eq_getElem hlt⟩
        obtain ⟨b1, o1, rfl, hb1, hc1⟩ := (HX.out.below HBL.out).2.2 (by omega)
        have hcx := hc1 k x hx
        clear hc1 hx hb1
        go_wp2_with fail
        go_roundw
        case rel => exact ⟨k + 1, _, by omega, by go_num, rfl, HBL, hc0⟩
        case measure => simp [intOf]; omega
      · go_wp2_with fail
        go_ret
        exact ⟨ret_bool HR.out.symm, HBL.out⟩

set_option maxHeartbeats 1000000 in
theorem copied_any (A : Option Addr) (c : Nat) (xs : List ByteArray) (r : Bool) (w : World) (h : RT w A c xs) (hlen : xs.length ≤ 100000) :
    Calls Tryd.prog 27 #[.agg #[.slice A xs.length c, .bool r]] w fun e w' => ∃ B d, e = .returned (.agg #[.slice B xs.length d, .bool r]) ∧ RT w' B d xs ∧ Below w.heap.size w w' := by
  have h1 := h.1
  have h2 := h.2.1
  have HX := Lib.hid h
  clear h
  go_enter Tryd.func27, Tryd.ntmps27
  go_wp2_with fail
  go_region_law (refine step_append_texts rfl _ _ rfl (w.heap.size + 2) (.slice none 0 0) [] xs A c rfl rfl (OT.nil _ _) (HX.out.below (below_alloc2 _ _ _).drew) (by simp; omega) (by simp) ?_; intro v1 w1 hown hg _; have hbg := (Below.refl _ _).grown hg (Nat.le_refl _) (by intro k h; simp [Value.ownBlock] at h); have P1 := Lib.hid (((PX.new w (.slice A xs.length c) (.bool r) _).below (below_alloc _ (.cells #[.slice none 0 0, .bool false] 25))).below ((Below.refl _ _).drew.trans hbg)); have P2 : Hid (PX w1 (w.heap.size + 1) (.slice none 0 0) (.bool false)) := Lib.hid (by have := ((PX.new (w.alloc (.cells #[.slice A xs.length c, .bool r] 25)) (.slice none 0 0) (.bool false) _).below ((Below.refl _ _).drew.trans hbg)); simpa using this); have HB := Lib.hid ((below_alloc2 w _ _).drew.trans (hbg.mono (by simp; omega))); clear hg hbg; rw [List.nil_append] at hown; obtain ⟨B, d, rfl, hrt⟩ := hown.read; have HRT := Lib.hid hrt; clear hrt hown; obtain ⟨p1, p2, p3, p4, p5⟩ := P1.out; obtain ⟨q1, q2, q3, q4, q5⟩ := P2.out)
  all_goals go_wp2_with fail
  all_goals
    refine bodyPost_ret (v := .agg #[.slice B xs.length d, .bool r]) (by simp [results, Tryd.results27, go_sem, q1, q2, q3, q4]) rfl ⟨B, d, rfl, HRT.out.box P2.out (slice_ns _ _ _) (bool_ns _) _ _, below_box HB.out (by omega) _ _⟩

/-- the pattern and the path of the sanity check -/
def aT : ByteArray := ⟨#[47, 47, 97, 47, 42, 46, 112, 115, 100, 47, 46, 46, 46]⟩
def aP : ByteArray := ⟨#[47, 47, 97, 47, 120, 46, 112, 115, 100, 47, 98, 47, 99]⟩
def aXs : List ByteArray := [⟨#[97]⟩, ⟨#[42, 46, 112, 115, 100]⟩]
def aCs : List ByteArray := [⟨#[120]⟩, ⟨#[98, 47, 99]⟩]
theorem a1 : parseN aT = 0 := by decide +kernel
theorem a2 : ppartsB aT = aXs := by decide +kernel
theorem a3 : prestB aT = true := by decide +kernel
theorem a4 : matchOk mpOk aXs true aP = true := by decide +kernel
theorem a5 : capsB stB mpCap aXs true aP = aCs := by decide +kernel

set_option maxHeartbeats 1000000 in
theorem pawake_any (w : World) (hm : ML w) :
    Calls Tryd.prog 18 #[] w fun e w' => e = .returned (.bool true) ∧ Below w.heap.size w w' := by
  have hpa := parse_any aT w (by decide) hm
  rw [a1, a2, a3] at hpa
  have HPA : Hid (Calls Tryd.prog 19 #[.string ⟨#[47, 47, 97, 47, 42, 46, 112, 115, 100, 47, 46, 46, 46]⟩] w fun e w' => ∃ A c, e = .returned (.tuple #[.agg #[.slice A 2 c, .bool true], .int .i64 0]) ∧ RT w' A c aXs ∧ Below w.heap.size w w') := Lib.hid (hpa.mono fun e w' h => h.1 rfl)
  have HMA : Hid (∀ A c W, RT W A c aXs → ML W → Calls Tryd.prog 23 #[.agg #[.slice A 2 c, .bool true], .string ⟨#[47, 47, 97, 47, 120, 46, 112, 115, 100, 47, 98, 47, 99]⟩] W fun e w' => ∃ b o d, e = .returned (.tuple #[.slice (some ⟨b, o, none⟩) 2 d, .bool true]) ∧ w'.cell? ⟨b, o, none⟩ = some (.string ⟨#[120]⟩) ∧ w'.cell? ⟨b, o + 1, none⟩ = some (.string ⟨#[98, 47, 99]⟩) ∧ 2 ≤ d ∧ Below W.heap.size W w') := Lib.hid (fun A c W h hW => by
    have := match_any A c aXs true aP W h (by decide) (by decide) hW
    rw [a4, a5] at this
    refine this.mono fun e w' h => ?_
    obtain ⟨B, d, he, hr, hb⟩ := h.1 rfl
    obtain ⟨b, o, rfl, _, hc⟩ := hr.2.2 (by decide)
    exact ⟨b, o, d, he, hc 0 _ rfl, hc 1 _ rfl, hr.1, hb⟩)
  have HM := Lib.hid hm
  clear hpa hm
  go_enter Tryd.func18, Tryd.ntmps18
  go_wp2_with (first
    | (go_at_call 19; refine HPA.out.mono ?_; rintro e w1 ⟨A, c, rfl, hr, hb⟩; have HR := Lib.hid hr; have HB := Lib.hid hb; clear hr hb)
    | (go_at_call 23; refine (HMA.out A c _ (HR.out.below (below_alloc _ _)) ((HM.out.below HB.out).below (below_alloc _ _))).mono ?_; rintro e w2 ⟨b, o, d, rfl, hc0, hc1, hd, hb2⟩; have P1 := (PX.new w1 (.slice A 2 c) (.bool true) _).below hb2; obtain ⟨p1, p2, p3, p4, p5⟩ := P1; have HB2 := Lib.hid ((HB.out.alloc HB.out.size _).trans (hb2.mono (by have := HB.out.size; simp; omega))); clear hb2))
  go_ret
  exact ⟨rfl, HB2.out⟩
end Go.Proofs.YtofmngfmoagenaaDoor

