/-
  Rules: the words of the statements: small, fit, awake.
-/
import Derived.Test.YtidjmbmnfnnleaaDoorR3
namespace Go.Proofs.YtidjmbmnfnnleaaDoor
set_option linter.unusedSimpArgs false
set_option linter.unusedVariables false
open Go.RowKit
open Pm

def small4B (xs : List ByteArray) : Bool := decide (xs.length ≤ 20) && decide (sumB xs ≤ 300)
theorem small4_yes {xs : List ByteArray} (h : small4B xs = true) : xs.length ≤ 20 ∧ ∀ x ∈ xs, x.size ≤ 5000 := by
  unfold small4B at h
  rw [Bool.and_eq_true, decide_eq_true_iff, decide_eq_true_iff] at h
  refine ⟨h.1, fun x hx => ?_⟩
  have := sum_mem hx
  omega

set_option maxHeartbeats 1000000 in
theorem small4_any (A : Option Addr) (c : Nat) (xs : List ByteArray) (r : Bool) (w : World) (h : RT w A c xs) (hsz : ∀ x ∈ xs, x.size ≤ 140737488351232) :
    Calls Tryd.prog 24 #[.agg #[.slice A xs.length c, .bool r]] w fun e w' => e = .returned (.bool (small4B xs)) ∧ Below w.heap.size w w' := by
  have h1 := h.1
  have h2 := h.2.1
  have HX := Lib.hid h
  have HS := Lib.hid hsz
  clear h hsz
  by_cases h20 : xs.length ≤ 20
  · have HR : Hid (small4B xs = decide (sumB xs ≤ 300)) := Lib.hid (by unfold small4B; rw [decide_eq_true h20, Bool.true_and])
    go_enter Tryd.func24, Tryd.ntmps24
    go_wp2_with fail
    go_loopw [3, 9] (fun n i wr => ∃ k : Nat, k ≤ xs.length ∧ i = .int .i64 k ∧ n = .int .i64 (sumB (xs.take k) : Nat) ∧ sumB (xs.take k) ≤ k * 140737488351232 ∧ Hid (Below w.heap.size w wr) ∧ wr.cell? ⟨w.heap.size, 0, none⟩ = some (.slice A xs.length c)) (fun _ i _ => xs.length - (intOf i).toNat)
    case atStart => exact ⟨0, Nat.zero_le _, rfl, rfl, by simp [sumB], Lib.hid (below_alloc _ _), by simp [World.cell?_alloc_new]⟩
    case round =>
      obtain ⟨k, hk, rfl, rfl, hsum, HBL, hc0⟩ := hrel
      by_cases hlt : k < xs.length
      · obtain ⟨x, hx⟩ : ∃ x, xs[k]? = some x := ⟨_, List.getElem?_eq_getElem hlt⟩
        obtain ⟨b1, o1, rfl, hb1, hc1⟩ := (HX.out.below HBL.out).2.2 (by omega)
        have hcx := hc1 k x hx
        have hxz := HS.out x (List.mem_of_getElem? hx)
        have HST := Lib.hid (sum_step hx)
        clear hc1 hx hb1
        have hbnd : sumB (xs.take k) + x.size ≤ (k + 1) * 140737488351232 := by omega
        generalize hm : sumB (xs.take k) = m at *
        go_wp2_with fail
        go_roundw
        case rel => exact ⟨k + 1, by omega, by go_num, by rw [HST.out]; go_num, by rw [HST.out]; exact hbnd, HBL, hc0⟩
        case measure => simp [intOf]; omega
      · have HE : Hid (sumB (xs.take k) = sumB xs) := Lib.hid (by rw [List.take_of_length_le (by omega)])
        have he := HE.out
        rw [he]
        clear hsum he
        go_wp2_with fail
        go_ret
        exact ⟨ret_bool (by rw [HR.out, Bool.eq_iff_iff]; simp; try omega), HBL.out⟩
  · have HR : Hid (small4B xs = false) := Lib.hid (by unfold small4B; rw [decide_eq_false h20, Bool.false_and])
    go_enter Tryd.func24, Tryd.ntmps24
    go_wp2_with fail
    go_loopw [3, 9] (fun n i wr => ∃ (k : Nat) (v : Int), k ≤ xs.length ∧ i = .int .i64 k ∧ n = .int .i64 v ∧ Hid (Below w.heap.size w wr) ∧ wr.cell? ⟨w.heap.size, 0, none⟩ = some (.slice A xs.length c)) (fun _ i _ => xs.length - (intOf i).toNat)
    case atStart => exact ⟨0, 0, Nat.zero_le _, rfl, rfl, Lib.hid (below_alloc _ _), by simp [World.cell?_alloc_new]⟩
    case round =>
      obtain ⟨k, v, hk, rfl, rfl, HBL, hc0⟩ := hrel
      by_cases hlt : k < xs.length
      · obtain ⟨x, hx⟩ : ∃ x, xs[k]? = some x := ⟨_, List.getElem?_eq_getElem hlt⟩
        obtain ⟨b1, o1, rfl, hb1, hc1⟩ := (HX.out.below HBL.out).2.2 (by omega)
        have hcx := hc1 k x hx
        clear hc1 hx hb1
        go_wp2_with fail
        go_roundw
        case rel => exact ⟨k + 1, _, by omega, by go_num, rfl, HBL, hc0⟩
        case measure => simp [intOf]; omega
      · go_wp2_with fail
        go_ret
        exact ⟨ret_bool HR.out.symm, HBL.out⟩


def fitB (xs ys : List ByteArray) : Bool := small4B xs && small4B ys
set_option maxHeartbeats 1000000 in
theorem fit_any (ex : Bool) (A B : Option Addr) (c d : Nat) (xs ys : List ByteArray) (r t : Bool) (w : World) (h : RT w A c xs) (k : RT w B d ys) (hm : ML w) (hsx : ∀ x ∈ xs, x.size ≤ 140737488351232) (hsy : ∀ x ∈ ys, x.size ≤ 140737488351232) :
    Calls Tryd.prog 14 #[ruV ex A c xs r B d ys t] w fun e w' => e = .returned (.bool (fitB xs ys)) ∧ Below w.heap.size w w' := by
  have HI := PR.enter h k hm ex r t 26
  have HSX := Lib.hid (fun w h => small4_any A c xs r w h hsx)
  have HSY := Lib.hid (fun w h => small4_any B d ys t w h hsy)
  have HF : Hid (fitB xs ys = (small4B xs && small4B ys)) := Lib.hid rfl
  rw [HF.out]
  unfold ruV
  have hx1 := h.1
  have hx2 := h.2.1
  have hy1 := k.1
  have hy2 := k.2.1
  clear h k hm hsx hsy
  generalize small4B xs = s1 at *
  generalize small4B ys = s2 at *
  cases s1 with
  | false =>
    go_enter Tryd.func14, Tryd.ntmps14
    go_wp2_with (go_at_call 24; refine (HSX.out _ (PR.x (HI.go (by repeat (first | exact Below.refl _ _ | apply Below.drew | apply below_drewN | apply below_al))))).mono ?_; rintro e w3 ⟨rfl, hb⟩; replace HI := HI.go2 (by repeat (first | exact Below.refl _ _ | apply Below.drew | apply below_drewN | apply below_al)) hb; clear hb)
    go_ret
    exact ⟨rfl, PR.b (HI.go (by repeat (first | exact Below.refl _ _ | apply Below.drew | apply below_drewN | apply below_al)))⟩
  | true =>
    go_enter Tryd.func14, Tryd.ntmps14
    go_wp2_with (first
      | (go_at_call_of 24 (Value.agg #[.slice A xs.length c, .bool r]); refine (HSX.out _ (PR.x (HI.go (by repeat (first | exact Below.refl _ _ | apply Below.drew | apply below_drewN | apply below_al))))).mono ?_; rintro e w3 ⟨rfl, hb⟩; replace HI := HI.go2 (by repeat (first | exact Below.refl _ _ | apply Below.drew | apply below_drewN | apply below_al)) hb; clear hb; obtain ⟨p1, p2, p3, p4, p5, p6⟩ := PR.cells HI)
      | (go_at_call_of 24 (Value.agg #[.slice B ys.length d, .bool t]); refine (HSY.out _ (PR.y (HI.go (by repeat (first | exact Below.refl _ _ | apply Below.drew | apply below_drewN | apply below_al))))).mono ?_; rintro e w3 ⟨rfl, hb⟩; replace HI := HI.go2 (by repeat (first | exact Below.refl _ _ | apply Below.drew | apply below_drewN | apply below_al)) hb; clear hb))
    go_ret
    exact ⟨rfl, PR.b (HI.go (by repeat (first | exact Below.refl _ _ | apply Below.drew | apply below_drewN | apply below_al)))⟩

/-- the rule and the path of the sanity check -/
def rXs : List ByteArray := [⟨#[100]⟩, ⟨#[42, 46, 112, 115, 100]⟩]
def rYs : List ByteArray := [⟨#[99]⟩, ⟨#[120]⟩, ⟨#[42]⟩]
def rP : ByteArray := ⟨#[47, 47, 100, 47, 97, 46, 112, 115, 100, 47, 98]⟩
theorem r1 : ruleE rXs true rYs true = 0 := by decide +kernel
theorem r2 : fwdO rXs true rYs true rP = true := by decide +kernel
theorem r3 : fwdT rXs true rYs true rP = ⟨#[47, 47, 99, 47, 120, 47, 97, 47, 98]⟩ := by decide +kernel
theorem RT.two {w : World} {x y : ByteArray} {T : TypeId} {g : Nat} (hg : g = w.heap.size) : RT (w.alloc (.cells #[.string x, .string y] T)) (some ⟨g, 0, none⟩) 2 [x, y] := by
  subst hg
  refine ⟨Nat.le_refl _, by omega, fun _ => ⟨_, 0, rfl, by simp, fun j z hz => ?_⟩⟩
  rcases j with _ | _ | j
  · simp at hz; subst hz; simp [World.cell?_alloc_new]
  · simp at hz; subst hz; simp [World.cell?_alloc_new]
  · simp at hz
theorem RT.three {w : World} {x y z : ByteArray} {T : TypeId} {g : Nat} (hg : g = w.heap.size) : RT (w.alloc (.cells #[.string x, .string y, .string z] T)) (some ⟨g, 0, none⟩) 3 [x, y, z] := by
  subst hg
  refine ⟨Nat.le_refl _, by omega, fun _ => ⟨_, 0, rfl, by simp, fun j u hu => ?_⟩⟩
  rcases j with _ | _ | _ | j
  · simp at hu; subst hu; simp [World.cell?_alloc_new]
  · simp at hu; subst hu; simp [World.cell?_alloc_new]
  · simp at hu; subst hu; simp [World.cell?_alloc_new]
  · simp at hu

def PA (W : World) (w : World) : Prop := RT w (some ⟨W.heap.size, 0, none⟩) 2 rXs ∧ RT w (some ⟨W.heap.size + 1, 0, none⟩) 3 rYs ∧ P5 w (W.heap.size + 2) (.bool false) (.slice (some ⟨W.heap.size, 0, none⟩) 2 2) (.bool true) (.slice (some ⟨W.heap.size + 1, 0, none⟩) 3 3) (.bool true) ∧ ML w ∧ Below W.heap.size W w
theorem PA.kept (W : World) : Kept (PA W) := (kept_rt _ _ _).both ((kept_rt _ _ _).both ((kept_p5 _ _ _ _ _ _).both (kept_ml.both (kept_below _))))
theorem PA.enter {W : World} (m : ML W) (T U : TypeId) : At (PA W) (((W.alloc (.cells #[.string ⟨#[100]⟩, .string ⟨#[42, 46, 112, 115, 100]⟩] T)).alloc (.cells #[.string ⟨#[99]⟩, .string ⟨#[120]⟩, .string ⟨#[42]⟩] T)).alloc (.cells #[.bool false, .slice (some ⟨W.heap.size, 0, none⟩) 2 2, .bool true, .slice (some ⟨W.heap.size + 1, 0, none⟩) 3 3, .bool true] U)) := by
  refine ⟨PA.kept W, ((RT.two rfl).below (below_alloc _ _)).below (below_alloc _ _), (RT.three (by simp)).below (below_alloc _ _), ?_, ((m.below (below_alloc _ _)).below (below_alloc _ _)).below (below_alloc _ _), by repeat (first | exact Below.refl _ _ | apply below_al)⟩
  have := P5.new ((W.alloc (.cells #[.string ⟨#[100]⟩, .string ⟨#[42, 46, 112, 115, 100]⟩] T)).alloc (.cells #[.string ⟨#[99]⟩, .string ⟨#[120]⟩, .string ⟨#[42]⟩] T)) (.bool false) (.slice (some ⟨W.heap.size, 0, none⟩) 2 2) (.bool true) (.slice (some ⟨W.heap.size + 1, 0, none⟩) 3 3) (.bool true) U
  simpa using this

set_option maxHeartbeats 1000000 in
theorem rawake_any (w : World) (hm : ML w) :
    Calls Tryd.prog 15 #[] w fun e w' => e = .returned (.bool true) ∧ Below w.heap.size w w' := by
  have HI := PA.enter hm 9 26
  have HF : Hid (∀ A B W, RT W A 2 rXs → RT W B 3 rYs → ML W → Calls Tryd.prog 16 #[.agg #[.bool false, .slice A 2 2, .bool true, .slice B 3 3, .bool true], .string ⟨#[47, 47, 100, 47, 97, 46, 112, 115, 100, 47, 98]⟩] W (RetSB W ⟨#[47, 47, 99, 47, 120, 47, 97, 47, 98]⟩ true)) := Lib.hid (fun A B W h k m => by
    have := forward_any false A B 2 3 rXs rYs true true rP W h k m (by decide) (by decide) (by decide)
    rw [r2, r3] at this
    exact this)
  have HC : Hid (∀ A B W, RT W A 2 rXs → RT W B 3 rYs → ML W → Calls Tryd.prog 21 #[.agg #[.bool false, .slice A 2 2, .bool true, .slice B 3 3, .bool true]] W fun e w' => e = .returned (.int .i64 0) ∧ Below W.heap.size W w') := Lib.hid (fun A B W h k m => by
    have := ruleCheck_any false A B 2 3 rXs rYs true true W h k m (by decide) (by decide)
    rw [r1] at this
    exact this)
  clear hm
  go_enter Tryd.func15, Tryd.ntmps15
  go_wp2_with (first
    | (go_at_call 16; refine (HF.out _ _ _ (HI.go (by repeat (first | exact Below.refl _ _ | apply Below.drew | apply below_drewN | apply below_al))).out.1 (HI.go (by repeat (first | exact Below.refl _ _ | apply Below.drew | apply below_drewN | apply below_al))).out.2.1 (HI.go (by repeat (first | exact Below.refl _ _ | apply Below.drew | apply below_drewN | apply below_al))).out.2.2.2.1).mono ?_; rintro e w3 ⟨rfl, hb⟩; replace HI := HI.go2 (by repeat (first | exact Below.refl _ _ | apply Below.drew | apply below_drewN | apply below_al)) hb; clear hb; obtain ⟨p1, p2, p3, p4, p5, p6⟩ := HI.out.2.2.1)
    | (go_at_call 21; refine (HC.out _ _ _ (HI.go (by repeat (first | exact Below.refl _ _ | apply Below.drew | apply below_drewN | apply below_al))).out.1 (HI.go (by repeat (first | exact Below.refl _ _ | apply Below.drew | apply below_drewN | apply below_al))).out.2.1 (HI.go (by repeat (first | exact Below.refl _ _ | apply Below.drew | apply below_drewN | apply below_al))).out.2.2.2.1).mono ?_; rintro e w3 ⟨rfl, hb⟩; replace HI := HI.go2 (by repeat (first | exact Below.refl _ _ | apply Below.drew | apply below_drewN | apply below_al)) hb; clear hb))
  go_ret
  exact ⟨rfl, (HI.go (by repeat (first | exact Below.refl _ _ | apply Below.drew | apply below_drewN | apply below_al))).out.2.2.2.2⟩
end Go.Proofs.YtidjmbmnfnnleaaDoor

