/-
  Rules: the walks of Forward and Backward.
-/
import Derived.Test.YtidjmbmnfnnleaaDoorR1
namespace Go.Proofs.YtidjmbmnfnnleaaDoor
set_option linter.unusedSimpArgs false
set_option linter.unusedVariables false
open Go.RowKit
open Pm

/-- the captures, none if the path does not match -/
def mxB (xs : List ByteArray) (r : Bool) (s : ByteArray) : List ByteArray := if matchOk mpOk xs r s = true then capsB stB mpCap xs r s else []
def RetMX (w : World) (ys : List ByteArray) (b : Bool) (e : Ending) (w' : World) : Prop := ∃ A c, e = .returned (.tuple #[.slice A ys.length c, .bool b]) ∧ RT w' A c ys ∧ Below w.heap.size w w'
theorem mx_one {xs : List ByteArray} {r : Bool} {s : ByteArray} {w w' : World} {e : Ending} (h : RetC w (capsB stB mpCap xs r s) (matchOk mpOk xs r s) e w') : RetMX w (mxB xs r s) (matchOk mpOk xs r s) e w' := by
  unfold mxB
  cases hm : matchOk mpOk xs r s with
  | true =>
    obtain ⟨A, c, he, hr, hb⟩ := h.1 hm
    exact ⟨A, c, he, hr, hb⟩
  | false =>
    obtain ⟨he, hb⟩ := h.2 hm
    exact ⟨none, 0, he, RT.nil _ _ _ (by omega), hb⟩
theorem mx_two {xs : List ByteArray} {r : Bool} {s : ByteArray} {w w' : World} {e : Ending} (h : RetC w (capsB starOk cpCap xs r s) (matchOk cpOk xs r s) e w') : RetMX w (mxB xs r s) (matchOk mpOk xs r s) e w' := by
  have ha := match_agree xs r s
  unfold mxB
  cases hm : matchOk mpOk xs r s with
  | true =>
    have e2 := ha.2 hm
    rw [ha.1] at hm
    obtain ⟨A, c, he, hr, hb⟩ := h.1 hm
    rw [if_pos rfl, e2]
    exact ⟨A, c, he, hr, hb⟩
  | false =>
    rw [ha.1] at hm
    obtain ⟨he, hb⟩ := h.2 hm
    exact ⟨none, 0, he, RT.nil _ _ _ (by omega), hb⟩
theorem mxB_size {xs : List ByteArray} {r : Bool} {s : ByteArray} (hs : s.size ≤ 5000) : ∀ y ∈ mxB xs r s, y.size ≤ 5000 := by
  unfold mxB
  split
  · intro y hy
    have := caps_size y hy
    omega
  · intro y hy
    cases hy
/-- what a rule makes of a path -/
def trO (xs : List ByteArray) (r : Bool) (ys : List ByteArray) (t : Bool) (s : ByteArray) : Bool := matchOk mpOk xs r s && (fillE ys t (mxB xs r s) == 0)
def trT (xs : List ByteArray) (r : Bool) (ys : List ByteArray) (t : Bool) (s : ByteArray) : ByteArray := if matchOk mpOk xs r s = true then fillT ys t (mxB xs r s) else ⟨#[]⟩
def fwdO (xs : List ByteArray) (r : Bool) (ys : List ByteArray) (t : Bool) (s : ByteArray) : Bool := (ruleE xs r ys t == 0) && trO xs r ys t s
def fwdT (xs : List ByteArray) (r : Bool) (ys : List ByteArray) (t : Bool) (s : ByteArray) : ByteArray := if ruleE xs r ys t = 0 then trT xs r ys t s else ⟨#[]⟩
def RetSB (w : World) (s : ByteArray) (b : Bool) (e : Ending) (w' : World) : Prop := e = .returned (.tuple #[.string s, .bool b]) ∧ Below w.heap.size w w'

set_option maxHeartbeats 2000000 in
theorem translate_any (A B : Option Addr) (c d : Nat) (xs ys : List ByteArray) (r t : Bool) (s : ByteArray) (w : World) (h : RT w A c xs) (k : RT w B d ys) (hm : ML w) (hsx : ∀ x ∈ xs, x.size ≤ 5000) (hsy : ∀ x ∈ ys, x.size ≤ 5000) (hs : s.size ≤ 5000) :
    Calls Tryd.prog 35 #[.agg #[.slice A xs.length c, .bool r], .agg #[.slice B ys.length d, .bool t], .string s] w (RetSB w (trT xs r ys t s) (trO xs r ys t s)) := by
  have HI := P2.enter h k hm r t 24
  have HMA := Lib.hid (fun w h m => (match_any A c xs r s w h (five9 hsx) hs m).mono fun _ _ h => mx_one h)
  have HFI := Lib.hid (fun D e w h k m => fill_any B D d e ys (mxB xs r s) t w h k m hsy (mxB_size hs))
  have HT : Hid (trT xs r ys t s = if matchOk mpOk xs r s = true then fillT ys t (mxB xs r s) else ⟨#[]⟩) := Lib.hid rfl
  have HO : Hid (trO xs r ys t s = (matchOk mpOk xs r s && (fillE ys t (mxB xs r s) == 0))) := Lib.hid rfl
  generalize trT xs r ys t s = T at *
  generalize trO xs r ys t s = O at *
  generalize mxB xs r s = cs at *
  generalize fillE ys t cs = n at *
  generalize fillT ys t cs = q at *
  have hx1 := h.1
  have hx2 := h.2.1
  have hy1 := k.1
  have hy2 := k.2.1
  clear h k hm hsx hsy hs
  cases ho : matchOk mpOk xs r s with
  | false =>
    rw [ho] at HMA HT HO
    simp only [Bool.false_and, Bool.false_eq_true, if_false] at HO HT
    rw [HO.out, HT.out]
    clear ho
    go_enter Tryd.func35, Tryd.ntmps35
    go_wp2_with (go_at_call 54; refine (HMA.out _ (P2.x (HI.go (by repeat (first | exact Below.refl _ _ | apply Below.drew | apply below_drewN | apply below_al)))) (P2.m (HI.go (by repeat (first | exact Below.refl _ _ | apply Below.drew | apply below_drewN | apply below_al))))).mono ?_; rintro e w3 ⟨D, m, rfl, hr, hb⟩; replace HI := HI.go2 (by repeat (first | exact Below.refl _ _ | apply Below.drew | apply below_drewN | apply below_al)) hb; clear hb; clear hr)
    go_ret2
    exact ⟨rfl, P2.b (HI.go (by repeat (first | exact Below.refl _ _ | apply Below.drew | apply below_drewN | apply below_al)))⟩
  | true =>
    rw [ho] at HMA HT HO
    simp only [Bool.true_and, if_true] at HO HT
    rw [HO.out, HT.out]
    clear ho
    go_enter Tryd.func35, Tryd.ntmps35
    go_wp2_with (first
      | (go_at_call 54; refine (HMA.out _ (P2.x (HI.go (by repeat (first | exact Below.refl _ _ | apply Below.drew | apply below_drewN | apply below_al)))) (P2.m (HI.go (by repeat (first | exact Below.refl _ _ | apply Below.drew | apply below_drewN | apply below_al))))).mono ?_; rintro e w3 ⟨D, m, rfl, hr, hb⟩; replace HI := HI.go2 (by repeat (first | exact Below.refl _ _ | apply Below.drew | apply below_drewN | apply below_al)) hb; clear hb; have HR : At (fun w => RT w D m cs) w3 := ⟨kept_rt _ _ _, hr⟩; have hr1 := hr.1; have hr2 := hr.2.1; clear hr; obtain ⟨p1, p2, q1, q2⟩ := P2.cells HI)
      | (go_at_call 55; refine (HFI.out _ _ _ (P2.y (HI.go (by repeat (first | exact Below.refl _ _ | apply Below.drew | apply below_drewN | apply below_al)))) (HR.go (by repeat (first | exact Below.refl _ _ | apply Below.drew | apply below_drewN | apply below_al))).out (P2.m (HI.go (by repeat (first | exact Below.refl _ _ | apply Below.drew | apply below_drewN | apply below_al))))).mono ?_; rintro e w4 ⟨rfl, hb⟩; replace HI := HI.go2 (by repeat (first | exact Below.refl _ _ | apply Below.drew | apply below_drewN | apply below_al)) hb; clear hb))
    go_ret2
    exact ⟨rfl, P2.b (HI.go (by repeat (first | exact Below.refl _ _ | apply Below.drew | apply below_drewN | apply below_al)))⟩

set_option maxHeartbeats 2000000 in
theorem forward_any (ex : Bool) (A B : Option Addr) (c d : Nat) (xs ys : List ByteArray) (r t : Bool) (s : ByteArray) (w : World) (h : RT w A c xs) (k : RT w B d ys) (hm : ML w) (hsx : ∀ x ∈ xs, x.size ≤ 5000) (hsy : ∀ x ∈ ys, x.size ≤ 5000) (hs : s.size ≤ 5000) :
    Calls Tryd.prog 16 #[ruV ex A c xs r B d ys t, .string s] w (RetSB w (fwdT xs r ys t s) (fwdO xs r ys t s)) := by
  have HC := Lib.hid (fun w h k m => ruleCheck_any ex A B c d xs ys r t w h k m hsx hsy)
  have HTR := Lib.hid (fun w h k m => translate_any A B c d xs ys r t s w h k m hsx hsy hs)
  have HI := PR.enter h k hm ex r t 26
  unfold ruV at HC ⊢
  have hx1 := h.1
  have hx2 := h.2.1
  have hy1 := k.1
  have hy2 := k.2.1
  clear h k hm hsx hsy hs
  by_cases h0 : ruleE xs r ys t = 0
  · have e1 : (fwdO xs r ys t s) = trO xs r ys t s := by unfold fwdO; rw [h0]; rfl
    have e2 : (fwdT xs r ys t s) = trT xs r ys t s := by unfold fwdT; rw [if_pos h0]
    rw [e1, e2]
    clear e1 e2
    rw [h0] at HC
    clear h0
    generalize trO xs r ys t s = O at *
    generalize trT xs r ys t s = T at *
    go_enter Tryd.func16, Tryd.ntmps16
    go_wp2_with (first
      | (go_at_call 21; refine (HC.out _ (PR.x (HI.go (by repeat (first | exact Below.refl _ _ | apply Below.drew | apply below_drewN | apply below_al)))) (PR.y (HI.go (by repeat (first | exact Below.refl _ _ | apply Below.drew | apply below_drewN | apply below_al)))) (PR.m (HI.go (by repeat (first | exact Below.refl _ _ | apply Below.drew | apply below_drewN | apply below_al))))).mono ?_; rintro e w3 ⟨rfl, hb⟩; replace HI := HI.go2 (by repeat (first | exact Below.refl _ _ | apply Below.drew | apply below_drewN | apply below_al)) hb; clear hb; obtain ⟨p1, p2, p3, p4, p5, p6⟩ := PR.cells HI)
      | (go_at_call 35; refine (HTR.out _ (PR.x (HI.go (by repeat (first | exact Below.refl _ _ | apply Below.drew | apply below_drewN | apply below_al)))) (PR.y (HI.go (by repeat (first | exact Below.refl _ _ | apply Below.drew | apply below_drewN | apply below_al)))) (PR.m (HI.go (by repeat (first | exact Below.refl _ _ | apply Below.drew | apply below_drewN | apply below_al))))).mono ?_; rintro e w4 ⟨rfl, hb⟩; replace HI := HI.go2 (by repeat (first | exact Below.refl _ _ | apply Below.drew | apply below_drewN | apply below_al)) hb; clear hb))
    go_ret2
    exact ⟨rfl, PR.b (HI.go (by repeat (first | exact Below.refl _ _ | apply Below.drew | apply below_drewN | apply below_al)))⟩
  · have e1 : (fwdO xs r ys t s) = false := by unfold fwdO; rw [beq_eq_false_iff_ne.2 h0]; rfl
    have e2 : (fwdT xs r ys t s) = ⟨#[]⟩ := by unfold fwdT; rw [if_neg h0]
    rw [e1, e2]
    clear e1 e2
    have hnB : (ruleE xs r ys t != 0) = true := by rw [bne_iff_ne]; exact h0
    generalize ruleE xs r ys t = n at *
    clear h0
    go_enter Tryd.func16, Tryd.ntmps16
    go_wp2_with (go_at_call 21; refine (HC.out _ (PR.x (HI.go (by repeat (first | exact Below.refl _ _ | apply Below.drew | apply below_drewN | apply below_al)))) (PR.y (HI.go (by repeat (first | exact Below.refl _ _ | apply Below.drew | apply below_drewN | apply below_al)))) (PR.m (HI.go (by repeat (first | exact Below.refl _ _ | apply Below.drew | apply below_drewN | apply below_al))))).mono ?_; rintro e w3 ⟨rfl, hb⟩; replace HI := HI.go2 (by repeat (first | exact Below.refl _ _ | apply Below.drew | apply below_drewN | apply below_al)) hb; clear hb)
    go_ret2
    exact ⟨rfl, PR.b (HI.go (by repeat (first | exact Below.refl _ _ | apply Below.drew | apply below_drewN | apply below_al)))⟩
set_option maxHeartbeats 2000000 in
theorem backward_any (ex : Bool) (A B : Option Addr) (c d : Nat) (xs ys : List ByteArray) (r t : Bool) (s : ByteArray) (w : World) (h : RT w A c xs) (k : RT w B d ys) (hm : ML w) (hsx : ∀ x ∈ xs, x.size ≤ 5000) (hsy : ∀ x ∈ ys, x.size ≤ 5000) (hs : s.size ≤ 5000) :
    Calls Tryd.prog 18 #[ruV ex A c xs r B d ys t, .string s] w (RetSB w (fwdT ys t xs r s) (fwdO ys t xs r s)) := by
  have HC := Lib.hid (fun w h k m => ruleCheck_any ex A B c d xs ys r t w h k m hsx hsy)
  have HTR := Lib.hid (fun w k h m => translate_any B A d c ys xs t r s w h k m hsy hsx hs)
  have HI := PR.enter h k hm ex r t 26
  unfold ruV at HC ⊢
  have hx1 := h.1
  have hx2 := h.2.1
  have hy1 := k.1
  have hy2 := k.2.1
  clear h k hm hsx hsy hs
  by_cases h0 : ruleE xs r ys t = 0
  · have e1 : (fwdO ys t xs r s) = trO ys t xs r s := by unfold fwdO; rw [ruleE_turn.1 h0]; rfl
    have e2 : (fwdT ys t xs r s) = trT ys t xs r s := by unfold fwdT; rw [if_pos (ruleE_turn.1 h0)]
    rw [e1, e2]
    clear e1 e2
    rw [h0] at HC
    clear h0
    generalize trO ys t xs r s = O at *
    generalize trT ys t xs r s = T at *
    go_enter Tryd.func18, Tryd.ntmps18
    go_wp2_with (first
      | (go_at_call 21; refine (HC.out _ (PR.x (HI.go (by repeat (first | exact Below.refl _ _ | apply Below.drew | apply below_drewN | apply below_al)))) (PR.y (HI.go (by repeat (first | exact Below.refl _ _ | apply Below.drew | apply below_drewN | apply below_al)))) (PR.m (HI.go (by repeat (first | exact Below.refl _ _ | apply Below.drew | apply below_drewN | apply below_al))))).mono ?_; rintro e w3 ⟨rfl, hb⟩; replace HI := HI.go2 (by repeat (first | exact Below.refl _ _ | apply Below.drew | apply below_drewN | apply below_al)) hb; clear hb; obtain ⟨p1, p2, p3, p4, p5, p6⟩ := PR.cells HI)
      | (go_at_call 35; refine (HTR.out _ (PR.x (HI.go (by repeat (first | exact Below.refl _ _ | apply Below.drew | apply below_drewN | apply below_al)))) (PR.y (HI.go (by repeat (first | exact Below.refl _ _ | apply Below.drew | apply below_drewN | apply below_al)))) (PR.m (HI.go (by repeat (first | exact Below.refl _ _ | apply Below.drew | apply below_drewN | apply below_al))))).mono ?_; rintro e w4 ⟨rfl, hb⟩; replace HI := HI.go2 (by repeat (first | exact Below.refl _ _ | apply Below.drew | apply below_drewN | apply below_al)) hb; clear hb))
    go_ret2
    exact ⟨rfl, PR.b (HI.go (by repeat (first | exact Below.refl _ _ | apply Below.drew | apply below_drewN | apply below_al)))⟩
  · have e1 : (fwdO ys t xs r s) = false := by unfold fwdO; rw [beq_eq_false_iff_ne.2 (fun h => h0 (ruleE_turn.1 h))]; rfl
    have e2 : (fwdT ys t xs r s) = ⟨#[]⟩ := by unfold fwdT; rw [if_neg (fun h => h0 (ruleE_turn.1 h))]
    rw [e1, e2]
    clear e1 e2
    have hnB : (ruleE xs r ys t != 0) = true := by rw [bne_iff_ne]; exact h0
    generalize ruleE xs r ys t = n at *
    clear h0
    go_enter Tryd.func18, Tryd.ntmps18
    go_wp2_with (go_at_call 21; refine (HC.out _ (PR.x (HI.go (by repeat (first | exact Below.refl _ _ | apply Below.drew | apply below_drewN | apply below_al)))) (PR.y (HI.go (by repeat (first | exact Below.refl _ _ | apply Below.drew | apply below_drewN | apply below_al)))) (PR.m (HI.go (by repeat (first | exact Below.refl _ _ | apply Below.drew | apply below_drewN | apply below_al))))).mono ?_; rintro e w3 ⟨rfl, hb⟩; replace HI := HI.go2 (by repeat (first | exact Below.refl _ _ | apply Below.drew | apply below_drewN | apply below_al)) hb; clear hb)
    go_ret2
    exact ⟨rfl, PR.b (HI.go (by repeat (first | exact Below.refl _ _ | apply Below.drew | apply below_drewN | apply below_al)))⟩

set_option maxHeartbeats 2000000 in
theorem rforward_any (ex : Bool) (A B : Option Addr) (c d : Nat) (xs ys : List ByteArray) (r t : Bool) (s : ByteArray) (w : World) (h : RT w A c xs) (k : RT w B d ys) (hm : ML w) (hsx : ∀ x ∈ xs, x.size ≤ 5000) (hsy : ∀ x ∈ ys, x.size ≤ 5000) (hs : s.size ≤ 5000) :
    Calls Tryd.prog 17 #[ruV ex A c xs r B d ys t, .string s] w (RetSB w (fwdT xs r ys t s) (fwdO xs r ys t s)) := by
  have HC := Lib.hid (fun w h k m => rruleCheck_any ex A B c d xs ys r t w h k m hsx hsy)
  have HI := PR.enter h k hm ex r t 26
  have HMA := Lib.hid (fun w h m => (rmatch_any A c xs r s w h (five9 hsx) hs m).mono fun _ _ h => mx_two h)
  have HFI := Lib.hid (fun D e w h k m => rfill_any B D d e ys (mxB xs r s) t w h k m hsy (mxB_size hs))
  unfold ruV at HC ⊢
  have hx1 := h.1
  have hx2 := h.2.1
  have hy1 := k.1
  have hy2 := k.2.1
  clear h k hm hsx hsy hs
  by_cases h0 : ruleE xs r ys t = 0
  · have HT : Hid (fwdT xs r ys t s = if matchOk mpOk xs r s = true then fillT ys t (mxB xs r s) else ⟨#[]⟩) := Lib.hid (by unfold fwdT trT; rw [if_pos h0])
    have HO : Hid (fwdO xs r ys t s = (matchOk mpOk xs r s && (fillE ys t (mxB xs r s) == 0))) := Lib.hid (by unfold fwdO trO; rw [h0]; rfl)
    rw [h0] at HC
    clear h0
    generalize fwdT xs r ys t s = T at *
    generalize fwdO xs r ys t s = O at *
    generalize mxB xs r s = cs at *
    generalize fillE ys t cs = n at *
    generalize fillT ys t cs = q at *
    cases ho : matchOk mpOk xs r s with
    | false =>
      rw [ho] at HMA HT HO
      simp only [Bool.false_and, Bool.false_eq_true, if_false] at HO HT
      rw [HO.out, HT.out]
      clear ho
      go_enter Tryd.func17, Tryd.ntmps17
      go_wp2_with (first
        | (go_at_call 22; refine (HC.out _ (PR.x (HI.go (by repeat (first | exact Below.refl _ _ | apply Below.drew | apply below_drewN | apply below_al)))) (PR.y (HI.go (by repeat (first | exact Below.refl _ _ | apply Below.drew | apply below_drewN | apply below_al)))) (PR.m (HI.go (by repeat (first | exact Below.refl _ _ | apply Below.drew | apply below_drewN | apply below_al))))).mono ?_; rintro e w3 ⟨rfl, hb⟩; replace HI := HI.go2 (by repeat (first | exact Below.refl _ _ | apply Below.drew | apply below_drewN | apply below_al)) hb; clear hb; obtain ⟨p1, p2, p3, p4, p5, p6⟩ := PR.cells HI)
        | (go_at_call 36; refine (HMA.out _ (PR.x (HI.go (by repeat (first | exact Below.refl _ _ | apply Below.drew | apply below_drewN | apply below_al)))) (PR.m (HI.go (by repeat (first | exact Below.refl _ _ | apply Below.drew | apply below_drewN | apply below_al))))).mono ?_; rintro e w3 ⟨D, m, rfl, hr, hb⟩; replace HI := HI.go2 (by repeat (first | exact Below.refl _ _ | apply Below.drew | apply below_drewN | apply below_al)) hb; clear hb; clear hr))
      go_ret2
      exact ⟨rfl, PR.b (HI.go (by repeat (first | exact Below.refl _ _ | apply Below.drew | apply below_drewN | apply below_al)))⟩
    | true =>
      rw [ho] at HMA HT HO
      simp only [Bool.true_and, if_true] at HO HT
      rw [HO.out, HT.out]
      clear ho
      go_enter Tryd.func17, Tryd.ntmps17
      go_wp2_with (first
        | (go_at_call 22; refine (HC.out _ (PR.x (HI.go (by repeat (first | exact Below.refl _ _ | apply Below.drew | apply below_drewN | apply below_al)))) (PR.y (HI.go (by repeat (first | exact Below.refl _ _ | apply Below.drew | apply below_drewN | apply below_al)))) (PR.m (HI.go (by repeat (first | exact Below.refl _ _ | apply Below.drew | apply below_drewN | apply below_al))))).mono ?_; rintro e w3 ⟨rfl, hb⟩; replace HI := HI.go2 (by repeat (first | exact Below.refl _ _ | apply Below.drew | apply below_drewN | apply below_al)) hb; clear hb; obtain ⟨p1, p2, p3, p4, p5, p6⟩ := PR.cells HI)
        | (go_at_call 36; refine (HMA.out _ (PR.x (HI.go (by repeat (first | exact Below.refl _ _ | apply Below.drew | apply below_drewN | apply below_al)))) (PR.m (HI.go (by repeat (first | exact Below.refl _ _ | apply Below.drew | apply below_drewN | apply below_al))))).mono ?_; rintro e w3 ⟨D, m, rfl, hr, hb⟩; replace HI := HI.go2 (by repeat (first | exact Below.refl _ _ | apply Below.drew | apply below_drewN | apply below_al)) hb; clear hb; have HR : At (fun w => RT w D m cs) w3 := ⟨kept_rt _ _ _, hr⟩; have hr1 := hr.1; have hr2 := hr.2.1; clear hr; obtain ⟨p1, p2, p3, p4, p5, p6⟩ := PR.cells HI)
        | (go_at_call 37; refine (HFI.out _ _ _ (PR.y (HI.go (by repeat (first | exact Below.refl _ _ | apply Below.drew | apply below_drewN | apply below_al)))) (HR.go (by repeat (first | exact Below.refl _ _ | apply Below.drew | apply below_drewN | apply below_al))).out (PR.m (HI.go (by repeat (first | exact Below.refl _ _ | apply Below.drew | apply below_drewN | apply below_al))))).mono ?_; rintro e w4 ⟨rfl, hb⟩; replace HI := HI.go2 (by repeat (first | exact Below.refl _ _ | apply Below.drew | apply below_drewN | apply below_al)) hb; clear hb))
      go_ret2
      exact ⟨rfl, PR.b (HI.go (by repeat (first | exact Below.refl _ _ | apply Below.drew | apply below_drewN | apply below_al)))⟩
  · have e1 : fwdO xs r ys t s = false := by unfold fwdO; rw [beq_eq_false_iff_ne.2 h0]; rfl
    have e2 : fwdT xs r ys t s = ⟨#[]⟩ := by unfold fwdT; rw [if_neg h0]
    rw [e1, e2]
    clear e1 e2
    have hnB : (ruleE xs r ys t != 0) = true := by rw [bne_iff_ne]; exact h0
    generalize ruleE xs r ys t = n at *
    clear h0
    go_enter Tryd.func17, Tryd.ntmps17
    go_wp2_with (go_at_call 22; refine (HC.out _ (PR.x (HI.go (by repeat (first | exact Below.refl _ _ | apply Below.drew | apply below_drewN | apply below_al)))) (PR.y (HI.go (by repeat (first | exact Below.refl _ _ | apply Below.drew | apply below_drewN | apply below_al)))) (PR.m (HI.go (by repeat (first | exact Below.refl _ _ | apply Below.drew | apply below_drewN | apply below_al))))).mono ?_; rintro e w3 ⟨rfl, hb⟩; replace HI := HI.go2 (by repeat (first | exact Below.refl _ _ | apply Below.drew | apply below_drewN | apply below_al)) hb; clear hb)
    go_ret2
    exact ⟨rfl, PR.b (HI.go (by repeat (first | exact Below.refl _ _ | apply Below.drew | apply below_drewN | apply below_al)))⟩
end Go.Proofs.YtidjmbmnfnnleaaDoor

