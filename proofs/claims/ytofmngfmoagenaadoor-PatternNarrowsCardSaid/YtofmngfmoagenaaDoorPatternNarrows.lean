/-
  PatternNarrows returns true.
-/
import Derived.Test.YtofmngfmoagenaaDoorPatternSubstitutes
import Derived.Test.YtofmngfmoagenaaDoorPatternBinds
import Derived.Test.YtofmngfmoagenaaDoorMD
import Derived.Deep.RegionHeld3
namespace Go.Proofs.YtofmngfmoagenaaDoor
set_option linter.unusedSimpArgs false
set_option linter.unusedVariables false
open Go.RowKit
open Pm

/-- two patterns in boxes, and bindings -/
def PQ (W : World) (A : Option Addr) (c : Nat) (xs : List ByteArray) (r : Bool) (B : Option Addr) (d : Nat) (ys : List ByteArray) (t : Bool) (L : Option Addr) (n : Nat) (bs : List (List ByteArray × Bool)) (w : World) : Prop :=
  P2 W A c xs r B d ys t w ∧ BT w L n bs
theorem PQ.kept (W : World) (A : Option Addr) (c : Nat) (xs : List ByteArray) (r : Bool) (B : Option Addr) (d : Nat) (ys : List ByteArray) (t : Bool) (L : Option Addr) (n : Nat) (bs : List (List ByteArray × Bool)) : Kept (PQ W A c xs r B d ys t L n bs) :=
  (P2.kept _ _ _ _ _ _ _ _ _).both (kept_bt _ _ _)
theorem PQ.p2 {W : World} {A : Option Addr} {c : Nat} {xs : List ByteArray} {r : Bool} {B : Option Addr} {d : Nat} {ys : List ByteArray} {t : Bool} {L : Option Addr} {n : Nat} {bs : List (List ByteArray × Bool)} {w : World} (h : At (PQ W A c xs r B d ys t L n bs) w) : At (P2 W A c xs r B d ys t) w := ⟨P2.kept _ _ _ _ _ _ _ _ _, h.out.1⟩
theorem PQ.l {W : World} {A : Option Addr} {c : Nat} {xs : List ByteArray} {r : Bool} {B : Option Addr} {d : Nat} {ys : List ByteArray} {t : Bool} {L : Option Addr} {n : Nat} {bs : List (List ByteArray × Bool)} {w : World} (h : At (PQ W A c xs r B d ys t L n bs) w) : BT w L n bs := h.out.2
theorem At.bt' {w : World} {M : Option Addr} {m : Nat} {bs : List (List ByteArray × Bool)} (h : BT w M m bs) : At (fun w => BT w M m bs) w := ⟨kept_bt _ _ _, h⟩
theorem At.rt' {w : World} {M : Option Addr} {m : Nat} {xs : List ByteArray} (h : RT w M m xs) : At (fun w => RT w M m xs) w := ⟨kept_rt _ _ _, h⟩
/-- the pattern that was handed back, in its box -/
theorem At.rb {w : World} {M : Option Addr} {m : Nat} {xs : List ByteArray} {q : Bool} (h : RT w M m xs) : At (fun w' => PX w' w.heap.size (.slice M xs.length m) (.bool q) ∧ RT w' M m xs) (w.alloc (.cells #[.slice M xs.length m, .bool q] 25)) := ⟨(kept_px _ _ _).both (kept_rt _ _ _), PX.new _ _ _ _, h.below (below_alloc _ _)⟩
theorem tr_size (x y : ByteArray) : (trB x y).size ≤ y.size := by
  unfold trB
  rw [mkB_size, Lib.size_eq]
  exact Lib.trimSuffix_le _ _
theorem bind_sizes {xs ys : List ByteArray} {r t : Bool} (hl : ys.length ≤ 5000) (hy : ∀ y ∈ ys, y.size ≤ 5000) : (∀ b ∈ bindB xs ys r t, ∀ x ∈ b.1, x.size ≤ 5000) ∧ (∀ b ∈ bindB xs ys r t, b.1.length ≤ 5000) := by
  have hg : ∀ i, (ys.getD i eB).size ≤ 5000 := fun i => by
    rw [List.getD]
    cases h : ys[i]? with
    | none => exact Nat.zero_le _
    | some y => exact hy y (List.mem_of_getElem? h)
  constructor
  · intro b hb x hx
    unfold bindB at hb
    rcases List.mem_append.1 hb with hb | hb
    · unfold bindI at hb
      obtain ⟨i, _, rfl⟩ := List.mem_map.1 hb
      simp only [List.mem_singleton] at hx
      subst hx
      exact Nat.le_trans (tr_size _ _) (hg i)
    · split at hb
      · obtain rfl := List.mem_singleton.1 hb
        exact hy x (List.mem_of_mem_drop hx)
      · cases hb
  · intro b hb
    unfold bindB at hb
    rcases List.mem_append.1 hb with hb | hb
    · unfold bindI at hb
      obtain ⟨i, _, rfl⟩ := List.mem_map.1 hb
      simp
    · split at hb
      · obtain rfl := List.mem_singleton.1 hb
        simp only [List.length_drop]
        omega
      · cases hb
theorem sub_sizes {xs : List ByteArray} {r : Bool} {bs : List (List ByteArray × Bool)} (hx : ∀ x ∈ xs, x.size ≤ 5000) (hb : ∀ b ∈ bs, ∀ x ∈ b.1, x.size ≤ 5000) : ∀ z ∈ subL xs r bs, z.size ≤ 10000 := by
  intro z hz
  unfold subL at hz
  split at hz
  · rcases List.mem_append.1 hz with hz | hz
    · refine flC_size tlB_size hx (fun y hy => ?_) z hz
      obtain ⟨p, hp, rfl⟩ := List.mem_map.1 hy
      unfold hdP
      cases he : p.1 with
      | nil => exact Nat.zero_le _
      | cons a l => exact hb p hp a (by rw [he]; simp)
    · split at hz
      · unfold lastP at hz
        rw [List.getD] at hz
        cases h : bs[countB stB xs]? with
        | none => rw [h] at hz; cases hz
        | some p =>
          rw [h] at hz
          have := hb p (List.mem_of_getElem? h) z hz
          omega
      · cases hz
  · cases hz

set_option maxHeartbeats 16000000 in
set_option maxRecDepth 100000 in
theorem patternNarrows_any (A : Option Addr) (c : Nat) (xs : List ByteArray) (r : Bool) (B : Option Addr) (d : Nat) (ys : List ByteArray) (t : Bool) (L : Option Addr) (n : Nat) (bs : List (List ByteArray × Bool)) (W : World) (h : RT W A c xs) (hz : ∀ x ∈ xs, x.size ≤ maxLen) (hg : ∀ x ∈ xs, x.size ≤ reachBytes) (k : RT W B d ys) (kz : ∀ x ∈ ys, x.size ≤ maxLen) (kg : ∀ x ∈ ys, x.size ≤ reachBytes)
    (l : BT W L n bs) (lz : ∀ b ∈ bs, ∀ x ∈ b.1, x.size ≤ maxLen) (lg : ∀ b ∈ bs, ∀ x ∈ b.1, x.size ≤ reachBytes) (hsh : W.ShapedOpen Tryd.prog) :
    Calls Tryd.prog 17 #[.agg #[.slice A xs.length c, .bool r], .agg #[.slice B ys.length d, .bool t], .slice L bs.length n] W fun e w' => e = .returned (.bool true) ∧ Below W.heap.size W w' := by
  unfold maxLen at hz kz lz
  have HI0 := P2.enter h k (ML.of hsh) r t 25
  have HI : At (PQ W A c xs r B d ys t L n bs) _ := ⟨PQ.kept _ _ _ _ _ _ _ _ _ _ _ _, HI0.out, (l.below (below_alloc _ _)).below (below_alloc _ _)⟩
  clear HI0
  have HSX := Lib.hid (fun w (h : RT w A c xs) => small_any A c xs r w h hg)
  have HSY := Lib.hid (fun w (h : RT w B d ys) => small_any B d ys t w h kg)
  have HSM := Lib.hid (fun (zs : List ByteArray) (q : Bool) (hm : (zs, q) ∈ bs) C e w (h : RT w C e zs) => small_any C e zs false w h (lg _ hm))
  have hl1 := l.1
  have hl2 := l.2.1
  obtain ⟨p1, p2, q1, q2⟩ := P2.cells (PQ.p2 HI)
  cases hs : smallB xs with
  | false =>
    rw [hs] at HSX
    clear hsh h hz hg k kz kg l lz lg hs HSM HSY
    go_enter Tryd.func17, Tryd.ntmps17
    go_wp2_with (first
      | (go_at_call_of 22 (Value.agg #[.slice A xs.length c, .bool r]); refine (HSX.out _ (P2.x (PQ.p2 (HI.go (by repeat (first | exact Below.refl _ _ | apply Below.drew | apply below_drewN | apply below_al)))))).mono ?_; rintro e w1 ⟨rfl, hb⟩; replace HI := HI.go2 (by repeat (first | exact Below.refl _ _ | apply Below.drew | apply below_drewN | apply below_al)) hb; clear hb)
      | (go_at_call 18; refine (pawake_any _ (P2.m (PQ.p2 (HI.go (by repeat (first | exact Below.refl _ _ | apply Below.drew | apply below_drewN | apply below_al)))))).mono ?_; rintro e w8 ⟨rfl, hb⟩; replace HI := HI.go2 (by repeat (first | exact Below.refl _ _ | apply Below.drew | apply below_drewN | apply below_al)) hb; clear hb))
    go_ret
    exact ⟨rfl, P2.b (PQ.p2 (HI.go (by repeat (first | exact Below.refl _ _ | apply Below.drew | apply below_drewN | apply below_al))))⟩
  | true =>
    rw [hs] at HSX
    cases ht : smallB ys with
    | false =>
      rw [ht] at HSY
      clear hsh h hz hg k kz kg l lz lg hs ht HSM
      go_enter Tryd.func17, Tryd.ntmps17
      go_wp2_with (first
        | (go_at_call_of 22 (Value.agg #[.slice A xs.length c, .bool r]); refine (HSX.out _ (P2.x (PQ.p2 (HI.go (by repeat (first | exact Below.refl _ _ | apply Below.drew | apply below_drewN | apply below_al)))))).mono ?_; rintro e w1 ⟨rfl, hb⟩; replace HI := HI.go2 (by repeat (first | exact Below.refl _ _ | apply Below.drew | apply below_drewN | apply below_al)) hb; clear hb; obtain ⟨p1, p2, q1, q2⟩ := P2.cells (PQ.p2 HI))
        | (go_at_call_of 22 (Value.agg #[.slice B ys.length d, .bool t]); refine (HSY.out _ (P2.y (PQ.p2 (HI.go (by repeat (first | exact Below.refl _ _ | apply Below.drew | apply below_drewN | apply below_al)))))).mono ?_; rintro e w1 ⟨rfl, hb⟩; replace HI := HI.go2 (by repeat (first | exact Below.refl _ _ | apply Below.drew | apply below_drewN | apply below_al)) hb; clear hb)
        | (go_at_call 18; refine (pawake_any _ (P2.m (PQ.p2 (HI.go (by repeat (first | exact Below.refl _ _ | apply Below.drew | apply below_drewN | apply below_al)))))).mono ?_; rintro e w8 ⟨rfl, hb⟩; replace HI := HI.go2 (by repeat (first | exact Below.refl _ _ | apply Below.drew | apply below_drewN | apply below_al)) hb; clear hb))
      go_ret
      exact ⟨rfl, P2.b (PQ.p2 (HI.go (by repeat (first | exact Below.refl _ _ | apply Below.drew | apply below_drewN | apply below_al))))⟩
    | true =>
      rw [ht] at HSY
      have hxl := (small_yes hs).1
      have hyl := (small_yes ht).1
      have HX5 : Hid (∀ x ∈ xs, x.size ≤ 5000) := Lib.hid (fun x hx => by have := (small_yes hs).2.2 x hx; omega)
      have HY5 : Hid (∀ x ∈ ys, x.size ≤ 5000) := Lib.hid (fun x hx => by have := (small_yes ht).2.2 x hx; omega)
      have HB1 := Lib.hid (fun w h k m => bind_any A B c d xs ys r t w h k m hz kz)
      have HW1 := Lib.hid (fun w k h => within_any B A d c ys xs t r w k h kz hz)
      have HS1 : Hid (withinOk insB ys xs t r = true → ∀ M m w, RT w A c xs → BT w M m (bindB xs ys r t) → Calls Tryd.prog 39 #[.agg #[.slice A xs.length c, .bool r], .slice M (bindB xs ys r t).length m] w (RetP w ys t 0)) := Lib.hid (fun hw M m w h k => by
        have hb := bind_sub hw
        have hz := bind_sizes (xs := xs) (ys := ys) (r := r) (t := t) (by omega) HY5.out
        have := sub_any A M c m xs r (bindB xs ys r t) w h k HX5.out hz.1 hz.2
        rw [hb.1, hb.2.1, hb.2.2] at this
        exact this)
      have HS2 := Lib.hid (fun w h k h2 h3 => sub_any A L c n xs r bs w h k HX5.out h2 h3)
      have HB2 : Hid (subE xs r bs = 0 → (∀ b ∈ bs, ∀ x ∈ b.1, x.size ≤ 5000) → ∀ Z z w, RT w A c xs → RT w Z z (subL xs r bs) → ML w → Calls Tryd.prog 43 #[.agg #[.slice A xs.length c, .bool r], .agg #[.slice Z (subL xs r bs).length z, .bool (subR xs r bs)]] w (RetBT w bs true)) := Lib.hid (fun he hb Z z w h k m => by
        have hs := sub_bind he
        have hz := sub_sizes (r := r) HX5.out hb
        have := bind_any A Z c z xs (subL xs r bs) r (subR xs r bs) w h k m (fun x hx => by have := HX5.out x hx; omega) (fun x hx => by have := hz x hx; omega)
        rw [hs.1, if_pos rfl, hs.2] at this
        exact this)
      have HW2 : Hid (subE xs r bs = 0 → (∀ b ∈ bs, ∀ x ∈ b.1, x.size ≤ 5000) → ∀ Z z w, RT w Z z (subL xs r bs) → RT w A c xs → Calls Tryd.prog 32 #[.agg #[.slice Z (subL xs r bs).length z, .bool (subR xs r bs)], .agg #[.slice A xs.length c, .bool r]] w fun e w' => e = .returned (.bool true) ∧ Below w.heap.size w w') := Lib.hid (fun he hb Z z w k h => by
        have hs := sub_bind he
        have hz := sub_sizes (r := r) HX5.out hb
        have := within_any Z A z c (subL xs r bs) xs (subR xs r bs) r w k h (fun x hx => by have := hz x hx; omega) (fun x hx => by have := HX5.out x hx; omega)
        rw [hs.1] at this
        exact this)
      have HEQ := Lib.hid (fun A B c d (zs : List ByteArray) w h k => eq_any A B c d zs zs w h k)
      simp only [decide_true] at HEQ
      have htt : (t != t) = false := by simp
      have hll : ((bs.length : Int) != (bs.length : Int)) = false := by simp
      generalize subL xs r bs = zz at *
      generalize subR xs r bs = qq at *
      generalize bindB xs ys r t = mm at *
      generalize subE xs r bs = nn at *
      clear hsh h hz hg k kz kg l lz lg hs ht
      generalize withinOk insB ys xs t r = wo at *
      go_enter Tryd.func17, Tryd.ntmps17
      go_wp2_with (first
        | (go_at_call_of 22 (Value.agg #[.slice A xs.length c, .bool r]); refine (HSX.out _ (P2.x (PQ.p2 (HI.go (by repeat (first | exact Below.refl _ _ | apply Below.drew | apply below_drewN | apply below_al)))))).mono ?_; rintro e w1 ⟨rfl, hb⟩; replace HI := HI.go2 (by repeat (first | exact Below.refl _ _ | apply Below.drew | apply below_drewN | apply below_al)) hb; clear hb; obtain ⟨p1, p2, q1, q2⟩ := P2.cells (PQ.p2 HI))
        | (go_at_call_of 22 (Value.agg #[.slice B ys.length d, .bool t]); refine (HSY.out _ (P2.y (PQ.p2 (HI.go (by repeat (first | exact Below.refl _ _ | apply Below.drew | apply below_drewN | apply below_al)))))).mono ?_; rintro e w1 ⟨rfl, hb⟩; replace HI := HI.go2 (by repeat (first | exact Below.refl _ _ | apply Below.drew | apply below_drewN | apply below_al)) hb; clear hb)
        | (go_at_call 18; refine (pawake_any _ (P2.m (PQ.p2 (HI.go (by repeat (first | exact Below.refl _ _ | apply Below.drew | apply below_drewN | apply below_al)))))).mono ?_; rintro e w8 ⟨rfl, hb⟩; replace HI := HI.go2 (by repeat (first | exact Below.refl _ _ | apply Below.drew | apply below_drewN | apply below_al)) hb; clear hb))
      all_goals try (go_ret; exact ⟨rfl, P2.b (PQ.p2 (HI.go (by repeat (first | exact Below.refl _ _ | apply Below.drew | apply below_drewN | apply below_al))))⟩)
      clear HSX HSY
      go_loopw [32] (fun i wr => ∃ k : Nat, k ≤ bs.length ∧ i = .int .i64 k ∧ At (PQ W A c xs r B d ys t L n bs) wr ∧ Hid (BS bs k)) (fun i _ => bs.length - (intOf i).toNat)
      case atStart => exact ⟨0, Nat.zero_le _, rfl, HI.go (by repeat (first | exact Below.refl _ _ | apply Below.drew | apply below_drewN | apply below_al)), Lib.hid (BS.zero _)⟩
      case round =>
        obtain ⟨k, hk, rfl, HJ, HO⟩ := hrel
        clear HI p1 p2 q1 q2
        by_cases hlt : k < bs.length
        · obtain ⟨⟨zs, q⟩, hp⟩ : ∃ p, bs[k]? = some p := ⟨_, List.getElem?_eq_getElem hlt⟩
          obtain ⟨b1, o1, rfl, hb1, hc1⟩ := (PQ.l HJ).2.2 (by omega)
          obtain ⟨C, e, x1, x2, x3⟩ := hc1 k _ hp
          have hlI : (k : Int) < (bs.length : Int) := by omega
          have hz1 := x3.1
          have hz2 := x3.2.1
          have HR : At (fun w => RT w C e zs) wr := ⟨kept_rt _ _ _, x3⟩
          have HSZ := Lib.hid (fun w h => HSM.out zs q (List.mem_of_getElem? hp) C e w h)
          have HP := Lib.hid hp
          clear hc1 hp x3
          cases hb : smallB zs with
          | true =>
            have HB := Lib.hid (HO.out.step HP.out hb)
            rw [hb] at HSZ
            clear hb
            go_wp2_with (go_at_call 22; refine (HSZ.out _ (HR.go (by repeat (first | exact Below.refl _ _ | apply Below.drew | apply below_drewN | apply below_al))).out).mono ?_; rintro e w3 ⟨rfl, hb⟩; replace HJ := HJ.go2 (by repeat (first | exact Below.refl _ _ | apply Below.drew | apply below_drewN | apply below_al)) hb; clear hb)
            go_roundw
            case rel => exact ⟨k + 1, by omega, by go_num, HJ, HB⟩
            case measure => simp [intOf]; omega
          | false =>
            rw [hb] at HSZ
            clear hb
            go_wp2_with (first
              | (go_at_call 22; refine (HSZ.out _ (HR.go (by repeat (first | exact Below.refl _ _ | apply Below.drew | apply below_drewN | apply below_al))).out).mono ?_; rintro e w3 ⟨rfl, hb⟩; replace HJ := HJ.go2 (by repeat (first | exact Below.refl _ _ | apply Below.drew | apply below_drewN | apply below_al)) hb; clear hb)
              | (go_at_call 18; refine (pawake_any _ (P2.m (PQ.p2 (HJ.go (by repeat (first | exact Below.refl _ _ | apply Below.drew | apply below_drewN | apply below_al)))))).mono ?_; rintro e w8 ⟨rfl, hb⟩; replace HJ := HJ.go2 (by repeat (first | exact Below.refl _ _ | apply Below.drew | apply below_drewN | apply below_al)) hb; clear hb))
            go_ret
            exact ⟨rfl, P2.b (PQ.p2 (HJ.go (by repeat (first | exact Below.refl _ _ | apply Below.drew | apply below_drewN | apply below_al))))⟩
        · obtain rfl : k = bs.length := by omega
          obtain ⟨p1, p2, q1, q2⟩ := P2.cells (PQ.p2 HJ)
          have HZ := Lib.hid HO.out.out
          clear HO HSM
          by_cases hn0 : nn = 0
          · subst hn0
            replace HB2 := Lib.hid (HB2.out rfl HZ.out.1)
            replace HW2 := Lib.hid (HW2.out rfl HZ.out.1)
            cases wo with
            | true =>
              replace HS1 := Lib.hid (HS1.out rfl)
              simp only [if_true] at HB1
              go_wp2_with (first
                | (go_at_call_of 43 (Value.agg #[.slice B ys.length d, .bool t]); refine (HB1.out _ (P2.x (PQ.p2 (HJ.go (by repeat (first | exact Below.refl _ _ | apply Below.drew | apply below_drewN | apply below_al))))) (P2.y (PQ.p2 (HJ.go (by repeat (first | exact Below.refl _ _ | apply Below.drew | apply below_drewN | apply below_al))))) (P2.m (PQ.p2 (HJ.go (by repeat (first | exact Below.refl _ _ | apply Below.drew | apply below_drewN | apply below_al)))))).mono ?_; rintro e w3 ⟨M, m, rfl, hbt, hb⟩; replace HJ := HJ.go2 (by repeat (first | exact Below.refl _ _ | apply Below.drew | apply below_drewN | apply below_al)) hb; have HM := At.bt' hbt; have hm1 := hbt.1; have hm2 := hbt.2.1; clear hbt hb p1 p2 q1 q2; obtain ⟨p1, p2, q1, q2⟩ := P2.cells (PQ.p2 HJ))
                | (go_at_call_of 32 (Value.agg #[.slice B ys.length d, .bool t]); refine (HW1.out _ (P2.y (PQ.p2 (HJ.go (by repeat (first | exact Below.refl _ _ | apply Below.drew | apply below_drewN | apply below_al))))) (P2.x (PQ.p2 (HJ.go (by repeat (first | exact Below.refl _ _ | apply Below.drew | apply below_drewN | apply below_al)))))).mono ?_; rintro e w4 ⟨rfl, hb⟩; replace HJ := HJ.go2 (by repeat (first | exact Below.refl _ _ | apply Below.drew | apply below_drewN | apply below_al)) hb; replace HM := HM.go2 (by repeat (first | exact Below.refl _ _ | apply Below.drew | apply below_drewN | apply below_al)) hb; clear hb p1 p2 q1 q2; obtain ⟨p1, p2, q1, q2⟩ := P2.cells (PQ.p2 HJ))
                | (go_at_call_of 39 (Value.slice M mm.length m); refine (HS1.out _ _ _ (P2.x (PQ.p2 (HJ.go (by repeat (first | exact Below.refl _ _ | apply Below.drew | apply below_drewN | apply below_al))))) (HM.go (by repeat (first | exact Below.refl _ _ | apply Below.drew | apply below_drewN | apply below_al))).out).mono ?_; rintro e w5 ⟨C, e', rfl, hr, hb⟩; replace HJ := HJ.go2 (by repeat (first | exact Below.refl _ _ | apply Below.drew | apply below_drewN | apply below_al)) hb; have HC := At.rt' hr; have hc1 := hr.1; have hc2 := hr.2.1; clear hr hb p1 p2 q1 q2; obtain ⟨p1, p2, q1, q2⟩ := P2.cells (PQ.p2 HJ); have sz1 := HJ.out.1.1.2.2.2.2; have sz2 := HJ.out.1.2.1.2.2.2.2)
                | (go_at_call_of 25 (Value.slice C ys.length e'); refine (HEQ.out _ _ _ _ _ _ (HC.go (by repeat (first | exact Below.refl _ _ | apply Below.drew | apply below_drewN | apply below_al))).out (P2.y (PQ.p2 (HJ.go (by repeat (first | exact Below.refl _ _ | apply Below.drew | apply below_drewN | apply below_al)))))).mono ?_; rintro e w6 ⟨rfl, hb⟩; replace HJ := HJ.go2 (by repeat (first | exact Below.refl _ _ | apply Below.drew | apply below_drewN | apply below_al)) hb; clear hb p1 p2 q1 q2; obtain ⟨p1, p2, q1, q2⟩ := P2.cells (PQ.p2 HJ))
                | (go_at_call_of 39 (Value.slice L bs.length n); refine (HS2.out _ (P2.x (PQ.p2 (HJ.go (by repeat (first | exact Below.refl _ _ | apply Below.drew | apply below_drewN | apply below_al))))) (PQ.l (HJ.go (by repeat (first | exact Below.refl _ _ | apply Below.drew | apply below_drewN | apply below_al)))) HZ.out.1 HZ.out.2).mono ?_; rintro e w7 ⟨Z, z, rfl, hr, hb⟩; replace HJ := HJ.go2 (by repeat (first | exact Below.refl _ _ | apply Below.drew | apply below_drewN | apply below_al)) hb; have HZZ := At.rb (q := qq) hr; have hr1 := hr.1; have hr2 := hr.2.1; clear hr hb p1 p2 q1 q2; obtain ⟨p1, p2, q1, q2⟩ := P2.cells (PQ.p2 HJ); have sz1 := HJ.out.1.1.2.2.2.2; have sz2 := HJ.out.1.2.1.2.2.2.2)
                | (go_at_call_of 43 (Value.agg #[.slice Z zz.length z, .bool qq]); refine (HB2.out _ _ _ (P2.x (PQ.p2 (HJ.go (by repeat (first | exact Below.refl _ _ | apply Below.drew | apply below_drewN | apply below_al))))) (HZZ.go (by repeat (first | exact Below.refl _ _ | apply Below.drew | apply below_drewN | apply below_al))).out.2 (P2.m (PQ.p2 (HJ.go (by repeat (first | exact Below.refl _ _ | apply Below.drew | apply below_drewN | apply below_al)))))).mono ?_; rintro e w9 ⟨M2, m2, rfl, hbt, hb⟩; replace HJ := HJ.go2 (by repeat (first | exact Below.refl _ _ | apply Below.drew | apply below_drewN | apply below_al)) hb; replace HZZ := HZZ.go2 (by repeat (first | exact Below.refl _ _ | apply Below.drew | apply below_drewN | apply below_al)) hb; have HN := At.bt' hbt; have hn1 := hbt.1; have hn2 := hbt.2.1; clear hbt hb p1 p2 q1 q2; obtain ⟨p1, p2, q1, q2⟩ := P2.cells (PQ.p2 HJ); obtain ⟨⟨z1, z2, z3, z4, z5⟩, -⟩ := HZZ.out)
                | (go_at_call_of 32 (Value.agg #[.slice Z zz.length z, .bool qq]); refine (HW2.out _ _ _ (HZZ.go (by repeat (first | exact Below.refl _ _ | apply Below.drew | apply below_drewN | apply below_al))).out.2 (P2.x (PQ.p2 (HJ.go (by repeat (first | exact Below.refl _ _ | apply Below.drew | apply below_drewN | apply below_al)))))).mono ?_; rintro e w10 ⟨rfl, hb⟩; replace HJ := HJ.go2 (by repeat (first | exact Below.refl _ _ | apply Below.drew | apply below_drewN | apply below_al)) hb; replace HN := HN.go2 (by repeat (first | exact Below.refl _ _ | apply Below.drew | apply below_drewN | apply below_al)) hb; clear hb p1 p2 q1 q2; obtain ⟨p1, p2, q1, q2⟩ := P2.cells (PQ.p2 HJ))
                | (go_at_call 18; refine (pawake_any _ (P2.m (PQ.p2 (HJ.go (by repeat (first | exact Below.refl _ _ | apply Below.drew | apply below_drewN | apply below_al)))))).mono ?_; rintro e w8 ⟨rfl, hb⟩; replace HJ := HJ.go2 (by repeat (first | exact Below.refl _ _ | apply Below.drew | apply below_drewN | apply below_al)) hb; clear hb))
              have HA : At (PBB W A c xs r B d ys t L M2 n m2 bs) _ := ⟨PBB.kept _ _ _ _ _ _ _ _ _ _ _ _ _ _, HJ.out.1, HJ.out.2, HN.out⟩
              clear HJ HN HZZ p1 p2 q1 q2 HB1 HW1 HS2 HB2 HW2 HZ HX5 HY5 htt hll hxl hyl hm1 hm2
              try clear HS1
              try clear HM HC hc1 hc2
              try clear sz1 sz2 z1 z2 z3 z4 z5 hr1 hr2
              go_loopw [110] (fun i wr => ∃ k : Nat, k ≤ bs.length ∧ i = .int .i64 k ∧ At (PBB W A c xs r B d ys t L M2 n m2 bs) wr) (fun i _ => bs.length - (intOf i).toNat)
              case atStart => exact ⟨0, Nat.zero_le _, rfl, HA.go (by repeat (first | exact Below.refl _ _ | apply Below.drew | apply below_drewN | apply below_al))⟩
              case round =>
                obtain ⟨k, hk, rfl, HJ⟩ := hrel
                clear HA
                by_cases hlt : k < bs.length
                · obtain ⟨⟨zs, q⟩, hp⟩ : ∃ p, bs[k]? = some p := ⟨_, List.getElem?_eq_getElem hlt⟩
                  obtain ⟨b1, o1, rfl, hb1, hc1⟩ := HJ.out.2.1.2.2 (by omega)
                  obtain ⟨b2, o2, rfl, hb2, hc2⟩ := HJ.out.2.2.2.2 (by omega)
                  obtain ⟨C1, e1, x1, x2, x3⟩ := hc1 k _ hp
                  obtain ⟨D1, f1, y1, y2, y3⟩ := hc2 k _ hp
                  have hlI : (k : Int) < (bs.length : Int) := by omega
                  have hqq : (q != q) = false := by simp
                  have hz1 := x3.1
                  have hz2 := x3.2.1
                  have hz3 := y3.1
                  have hz4 := y3.2.1
                  have HQ : At (PCC (PBB W A c xs r B d ys t (some ⟨b1, o1, none⟩) (some ⟨b2, o2, none⟩) n m2 bs) b1 (o1 + k * 2) b2 (o2 + k * 2) (.slice C1 zs.length e1) (.bool q) (.slice D1 zs.length f1) (.bool q) C1 D1 e1 f1 zs) wr :=
                    ⟨PCC.kept (PBB.kept _ _ _ _ _ _ _ _ _ _ _ _ _ _) _ _ _ _ _ _ _ _ _ _ _ _ _, HJ.out, ⟨hb1, x1, x2⟩, ⟨hb2, y1, y2⟩, x3, y3⟩
                  clear hc1 hc2 hp hb1 hb2 x3 y3 HJ
                  go_wp2_with fail
                  go_region_held3 (fun w' => (w'.cell? ⟨b1, o1 + k * 2, none⟩ = some (.slice C1 zs.length e1) ∧ w'.cell? ⟨b1, o1 + k * 2 + 1, none⟩ = some (.bool q) ∧ w'.cell? ⟨b2, o2 + k * 2, none⟩ = some (.slice D1 zs.length f1) ∧ w'.cell? ⟨b2, o2 + k * 2 + 1, none⟩ = some (.bool q)) ∧ At (PCC (PBB W A c xs r B d ys t (some ⟨b1, o1, none⟩) (some ⟨b2, o2, none⟩) n m2 bs) b1 (o1 + k * 2) b2 (o2 + k * 2) (.slice C1 zs.length e1) (.bool q) (.slice D1 zs.length f1) (.bool q) C1 D1 e1 f1 zs) w')
                    ((exact ⟨PCC.cells (HQ.go (by repeat (first | exact Below.refl _ _ | apply Below.drew | apply below_drewN | apply below_al))), HQ.go (by repeat (first | exact Below.refl _ _ | apply Below.drew | apply below_drewN | apply below_al))⟩))
                    ((go_at_call 25; refine (HEQ.out _ _ _ _ _ _ (HQ.go (by repeat (first | exact Below.refl _ _ | apply Below.drew | apply below_drewN | apply below_al))).out.2.2.2.2 (HQ.go (by repeat (first | exact Below.refl _ _ | apply Below.drew | apply below_drewN | apply below_al))).out.2.2.2.1).mono ?_; rintro e w7 ⟨rfl, hb⟩; replace HQ := HQ.go2 (by repeat (first | exact Below.refl _ _ | apply Below.drew | apply below_drewN | apply below_al)) hb; clear hb))
                  all_goals
                    go_wp2_with fail
                    go_roundw
                    case rel => exact ⟨k + 1, by omega, by go_num, ⟨PBB.kept _ _ _ _ _ _ _ _ _ _ _ _ _ _, (HQ.go (by repeat (first | exact Below.refl _ _ | apply Below.drew | apply below_drewN | apply below_al))).out.1⟩⟩
                    case measure => simp [intOf]; omega
                · go_wp2_with (go_at_call 18; refine (pawake_any _ (P2.m ⟨P2.kept _ _ _ _ _ _ _ _ _, (HJ.go (by repeat (first | exact Below.refl _ _ | apply Below.drew | apply below_drewN | apply below_al))).out.1⟩)).mono ?_; rintro e w8 ⟨rfl, hb⟩; replace HJ := HJ.go2 (by repeat (first | exact Below.refl _ _ | apply Below.drew | apply below_drewN | apply below_al)) hb; clear hb)
                  go_ret
                  exact ⟨rfl, P2.b ⟨P2.kept _ _ _ _ _ _ _ _ _, (HJ.go (by repeat (first | exact Below.refl _ _ | apply Below.drew | apply below_drewN | apply below_al))).out.1⟩⟩
            | false =>
              simp only [Bool.false_eq_true, if_false] at HB1
              go_wp2_with (first
                | (go_at_call_of 43 (Value.agg #[.slice B ys.length d, .bool t]); refine (HB1.out _ (P2.x (PQ.p2 (HJ.go (by repeat (first | exact Below.refl _ _ | apply Below.drew | apply below_drewN | apply below_al))))) (P2.y (PQ.p2 (HJ.go (by repeat (first | exact Below.refl _ _ | apply Below.drew | apply below_drewN | apply below_al))))) (P2.m (PQ.p2 (HJ.go (by repeat (first | exact Below.refl _ _ | apply Below.drew | apply below_drewN | apply below_al)))))).mono ?_; rintro e w3 ⟨M, m, rfl, hbt, hb⟩; replace HJ := HJ.go2 (by repeat (first | exact Below.refl _ _ | apply Below.drew | apply below_drewN | apply below_al)) hb; have HM := At.bt' hbt; have hm1 := hbt.1; have hm2 := hbt.2.1; clear hbt hb p1 p2 q1 q2; obtain ⟨p1, p2, q1, q2⟩ := P2.cells (PQ.p2 HJ))
                | (go_at_call_of 32 (Value.agg #[.slice B ys.length d, .bool t]); refine (HW1.out _ (P2.y (PQ.p2 (HJ.go (by repeat (first | exact Below.refl _ _ | apply Below.drew | apply below_drewN | apply below_al))))) (P2.x (PQ.p2 (HJ.go (by repeat (first | exact Below.refl _ _ | apply Below.drew | apply below_drewN | apply below_al)))))).mono ?_; rintro e w4 ⟨rfl, hb⟩; replace HJ := HJ.go2 (by repeat (first | exact Below.refl _ _ | apply Below.drew | apply below_drewN | apply below_al)) hb; replace HM := HM.go2 (by repeat (first | exact Below.refl _ _ | apply Below.drew | apply below_drewN | apply below_al)) hb; clear hb p1 p2 q1 q2; obtain ⟨p1, p2, q1, q2⟩ := P2.cells (PQ.p2 HJ))
                | (go_at_call_of 39 (Value.slice M mm.length m); refine (HS1.out _ _ _ (P2.x (PQ.p2 (HJ.go (by repeat (first | exact Below.refl _ _ | apply Below.drew | apply below_drewN | apply below_al))))) (HM.go (by repeat (first | exact Below.refl _ _ | apply Below.drew | apply below_drewN | apply below_al))).out).mono ?_; rintro e w5 ⟨C, e', rfl, hr, hb⟩; replace HJ := HJ.go2 (by repeat (first | exact Below.refl _ _ | apply Below.drew | apply below_drewN | apply below_al)) hb; have HC := At.rt' hr; have hc1 := hr.1; have hc2 := hr.2.1; clear hr hb p1 p2 q1 q2; obtain ⟨p1, p2, q1, q2⟩ := P2.cells (PQ.p2 HJ); have sz1 := HJ.out.1.1.2.2.2.2; have sz2 := HJ.out.1.2.1.2.2.2.2)
                | (go_at_call_of 25 (Value.slice C ys.length e'); refine (HEQ.out _ _ _ _ _ _ (HC.go (by repeat (first | exact Below.refl _ _ | apply Below.drew | apply below_drewN | apply below_al))).out (P2.y (PQ.p2 (HJ.go (by repeat (first | exact Below.refl _ _ | apply Below.drew | apply below_drewN | apply below_al)))))).mono ?_; rintro e w6 ⟨rfl, hb⟩; replace HJ := HJ.go2 (by repeat (first | exact Below.refl _ _ | apply Below.drew | apply below_drewN | apply below_al)) hb; clear hb p1 p2 q1 q2; obtain ⟨p1, p2, q1, q2⟩ := P2.cells (PQ.p2 HJ))
                | (go_at_call_of 39 (Value.slice L bs.length n); refine (HS2.out _ (P2.x (PQ.p2 (HJ.go (by repeat (first | exact Below.refl _ _ | apply Below.drew | apply below_drewN | apply below_al))))) (PQ.l (HJ.go (by repeat (first | exact Below.refl _ _ | apply Below.drew | apply below_drewN | apply below_al)))) HZ.out.1 HZ.out.2).mono ?_; rintro e w7 ⟨Z, z, rfl, hr, hb⟩; replace HJ := HJ.go2 (by repeat (first | exact Below.refl _ _ | apply Below.drew | apply below_drewN | apply below_al)) hb; have HZZ := At.rb (q := qq) hr; have hr1 := hr.1; have hr2 := hr.2.1; clear hr hb p1 p2 q1 q2; obtain ⟨p1, p2, q1, q2⟩ := P2.cells (PQ.p2 HJ); have sz1 := HJ.out.1.1.2.2.2.2; have sz2 := HJ.out.1.2.1.2.2.2.2)
                | (go_at_call_of 43 (Value.agg #[.slice Z zz.length z, .bool qq]); refine (HB2.out _ _ _ (P2.x (PQ.p2 (HJ.go (by repeat (first | exact Below.refl _ _ | apply Below.drew | apply below_drewN | apply below_al))))) (HZZ.go (by repeat (first | exact Below.refl _ _ | apply Below.drew | apply below_drewN | apply below_al))).out.2 (P2.m (PQ.p2 (HJ.go (by repeat (first | exact Below.refl _ _ | apply Below.drew | apply below_drewN | apply below_al)))))).mono ?_; rintro e w9 ⟨M2, m2, rfl, hbt, hb⟩; replace HJ := HJ.go2 (by repeat (first | exact Below.refl _ _ | apply Below.drew | apply below_drewN | apply below_al)) hb; replace HZZ := HZZ.go2 (by repeat (first | exact Below.refl _ _ | apply Below.drew | apply below_drewN | apply below_al)) hb; have HN := At.bt' hbt; have hn1 := hbt.1; have hn2 := hbt.2.1; clear hbt hb p1 p2 q1 q2; obtain ⟨p1, p2, q1, q2⟩ := P2.cells (PQ.p2 HJ); obtain ⟨⟨z1, z2, z3, z4, z5⟩, -⟩ := HZZ.out)
                | (go_at_call_of 32 (Value.agg #[.slice Z zz.length z, .bool qq]); refine (HW2.out _ _ _ (HZZ.go (by repeat (first | exact Below.refl _ _ | apply Below.drew | apply below_drewN | apply below_al))).out.2 (P2.x (PQ.p2 (HJ.go (by repeat (first | exact Below.refl _ _ | apply Below.drew | apply below_drewN | apply below_al)))))).mono ?_; rintro e w10 ⟨rfl, hb⟩; replace HJ := HJ.go2 (by repeat (first | exact Below.refl _ _ | apply Below.drew | apply below_drewN | apply below_al)) hb; replace HN := HN.go2 (by repeat (first | exact Below.refl _ _ | apply Below.drew | apply below_drewN | apply below_al)) hb; clear hb p1 p2 q1 q2; obtain ⟨p1, p2, q1, q2⟩ := P2.cells (PQ.p2 HJ))
                | (go_at_call 18; refine (pawake_any _ (P2.m (PQ.p2 (HJ.go (by repeat (first | exact Below.refl _ _ | apply Below.drew | apply below_drewN | apply below_al)))))).mono ?_; rintro e w8 ⟨rfl, hb⟩; replace HJ := HJ.go2 (by repeat (first | exact Below.refl _ _ | apply Below.drew | apply below_drewN | apply below_al)) hb; clear hb))
              have HA : At (PBB W A c xs r B d ys t L M2 n m2 bs) _ := ⟨PBB.kept _ _ _ _ _ _ _ _ _ _ _ _ _ _, HJ.out.1, HJ.out.2, HN.out⟩
              clear HJ HN HZZ p1 p2 q1 q2 HB1 HW1 HS2 HB2 HW2 HZ HX5 HY5 htt hll hxl hyl hm1 hm2
              try clear HS1
              try clear HM HC hc1 hc2
              try clear sz1 sz2 z1 z2 z3 z4 z5 hr1 hr2
              go_loopw [110] (fun i wr => ∃ k : Nat, k ≤ bs.length ∧ i = .int .i64 k ∧ At (PBB W A c xs r B d ys t L M2 n m2 bs) wr) (fun i _ => bs.length - (intOf i).toNat)
              case atStart => exact ⟨0, Nat.zero_le _, rfl, HA.go (by repeat (first | exact Below.refl _ _ | apply Below.drew | apply below_drewN | apply below_al))⟩
              case round =>
                obtain ⟨k, hk, rfl, HJ⟩ := hrel
                clear HA
                by_cases hlt : k < bs.length
                · obtain ⟨⟨zs, q⟩, hp⟩ : ∃ p, bs[k]? = some p := ⟨_, List.getElem?_eq_getElem hlt⟩
                  obtain ⟨b1, o1, rfl, hb1, hc1⟩ := HJ.out.2.1.2.2 (by omega)
                  obtain ⟨b2, o2, rfl, hb2, hc2⟩ := HJ.out.2.2.2.2 (by omega)
                  obtain ⟨C1, e1, x1, x2, x3⟩ := hc1 k _ hp
                  obtain ⟨D1, f1, y1, y2, y3⟩ := hc2 k _ hp
                  have hlI : (k : Int) < (bs.length : Int) := by omega
                  have hqq : (q != q) = false := by simp
                  have hz1 := x3.1
                  have hz2 := x3.2.1
                  have hz3 := y3.1
                  have hz4 := y3.2.1
                  have HQ : At (PCC (PBB W A c xs r B d ys t (some ⟨b1, o1, none⟩) (some ⟨b2, o2, none⟩) n m2 bs) b1 (o1 + k * 2) b2 (o2 + k * 2) (.slice C1 zs.length e1) (.bool q) (.slice D1 zs.length f1) (.bool q) C1 D1 e1 f1 zs) wr :=
                    ⟨PCC.kept (PBB.kept _ _ _ _ _ _ _ _ _ _ _ _ _ _) _ _ _ _ _ _ _ _ _ _ _ _ _, HJ.out, ⟨hb1, x1, x2⟩, ⟨hb2, y1, y2⟩, x3, y3⟩
                  clear hc1 hc2 hp hb1 hb2 x3 y3 HJ
                  go_wp2_with fail
                  go_region_held3 (fun w' => (w'.cell? ⟨b1, o1 + k * 2, none⟩ = some (.slice C1 zs.length e1) ∧ w'.cell? ⟨b1, o1 + k * 2 + 1, none⟩ = some (.bool q) ∧ w'.cell? ⟨b2, o2 + k * 2, none⟩ = some (.slice D1 zs.length f1) ∧ w'.cell? ⟨b2, o2 + k * 2 + 1, none⟩ = some (.bool q)) ∧ At (PCC (PBB W A c xs r B d ys t (some ⟨b1, o1, none⟩) (some ⟨b2, o2, none⟩) n m2 bs) b1 (o1 + k * 2) b2 (o2 + k * 2) (.slice C1 zs.length e1) (.bool q) (.slice D1 zs.length f1) (.bool q) C1 D1 e1 f1 zs) w')
                    ((exact ⟨PCC.cells (HQ.go (by repeat (first | exact Below.refl _ _ | apply Below.drew | apply below_drewN | apply below_al))), HQ.go (by repeat (first | exact Below.refl _ _ | apply Below.drew | apply below_drewN | apply below_al))⟩))
                    ((go_at_call 25; refine (HEQ.out _ _ _ _ _ _ (HQ.go (by repeat (first | exact Below.refl _ _ | apply Below.drew | apply below_drewN | apply below_al))).out.2.2.2.2 (HQ.go (by repeat (first | exact Below.refl _ _ | apply Below.drew | apply below_drewN | apply below_al))).out.2.2.2.1).mono ?_; rintro e w7 ⟨rfl, hb⟩; replace HQ := HQ.go2 (by repeat (first | exact Below.refl _ _ | apply Below.drew | apply below_drewN | apply below_al)) hb; clear hb))
                  all_goals
                    go_wp2_with fail
                    go_roundw
                    case rel => exact ⟨k + 1, by omega, by go_num, ⟨PBB.kept _ _ _ _ _ _ _ _ _ _ _ _ _ _, (HQ.go (by repeat (first | exact Below.refl _ _ | apply Below.drew | apply below_drewN | apply below_al))).out.1⟩⟩
                    case measure => simp [intOf]; omega
                · go_wp2_with (go_at_call 18; refine (pawake_any _ (P2.m ⟨P2.kept _ _ _ _ _ _ _ _ _, (HJ.go (by repeat (first | exact Below.refl _ _ | apply Below.drew | apply below_drewN | apply below_al))).out.1⟩)).mono ?_; rintro e w8 ⟨rfl, hb⟩; replace HJ := HJ.go2 (by repeat (first | exact Below.refl _ _ | apply Below.drew | apply below_drewN | apply below_al)) hb; clear hb)
                  go_ret
                  exact ⟨rfl, P2.b ⟨P2.kept _ _ _ _ _ _ _ _ _, (HJ.go (by repeat (first | exact Below.refl _ _ | apply Below.drew | apply below_drewN | apply below_al))).out.1⟩⟩
          · have hnB : (nn != 0) = true := by rw [bne_iff_ne]; exact hn0
            cases wo with
            | true =>
              replace HS1 := Lib.hid (HS1.out rfl)
              simp only [if_true] at HB1
              go_wp2_with (first
                | (go_at_call_of 43 (Value.agg #[.slice B ys.length d, .bool t]); refine (HB1.out _ (P2.x (PQ.p2 (HJ.go (by repeat (first | exact Below.refl _ _ | apply Below.drew | apply below_drewN | apply below_al))))) (P2.y (PQ.p2 (HJ.go (by repeat (first | exact Below.refl _ _ | apply Below.drew | apply below_drewN | apply below_al))))) (P2.m (PQ.p2 (HJ.go (by repeat (first | exact Below.refl _ _ | apply Below.drew | apply below_drewN | apply below_al)))))).mono ?_; rintro e w3 ⟨M, m, rfl, hbt, hb⟩; replace HJ := HJ.go2 (by repeat (first | exact Below.refl _ _ | apply Below.drew | apply below_drewN | apply below_al)) hb; have HM := At.bt' hbt; have hm1 := hbt.1; have hm2 := hbt.2.1; clear hbt hb p1 p2 q1 q2; obtain ⟨p1, p2, q1, q2⟩ := P2.cells (PQ.p2 HJ))
                | (go_at_call_of 32 (Value.agg #[.slice B ys.length d, .bool t]); refine (HW1.out _ (P2.y (PQ.p2 (HJ.go (by repeat (first | exact Below.refl _ _ | apply Below.drew | apply below_drewN | apply below_al))))) (P2.x (PQ.p2 (HJ.go (by repeat (first | exact Below.refl _ _ | apply Below.drew | apply below_drewN | apply below_al)))))).mono ?_; rintro e w4 ⟨rfl, hb⟩; replace HJ := HJ.go2 (by repeat (first | exact Below.refl _ _ | apply Below.drew | apply below_drewN | apply below_al)) hb; replace HM := HM.go2 (by repeat (first | exact Below.refl _ _ | apply Below.drew | apply below_drewN | apply below_al)) hb; clear hb p1 p2 q1 q2; obtain ⟨p1, p2, q1, q2⟩ := P2.cells (PQ.p2 HJ))
                | (go_at_call_of 39 (Value.slice M mm.length m); refine (HS1.out _ _ _ (P2.x (PQ.p2 (HJ.go (by repeat (first | exact Below.refl _ _ | apply Below.drew | apply below_drewN | apply below_al))))) (HM.go (by repeat (first | exact Below.refl _ _ | apply Below.drew | apply below_drewN | apply below_al))).out).mono ?_; rintro e w5 ⟨C, e', rfl, hr, hb⟩; replace HJ := HJ.go2 (by repeat (first | exact Below.refl _ _ | apply Below.drew | apply below_drewN | apply below_al)) hb; have HC := At.rt' hr; have hc1 := hr.1; have hc2 := hr.2.1; clear hr hb p1 p2 q1 q2; obtain ⟨p1, p2, q1, q2⟩ := P2.cells (PQ.p2 HJ); have sz1 := HJ.out.1.1.2.2.2.2; have sz2 := HJ.out.1.2.1.2.2.2.2)
                | (go_at_call_of 25 (Value.slice C ys.length e'); refine (HEQ.out _ _ _ _ _ _ (HC.go (by repeat (first | exact Below.refl _ _ | apply Below.drew | apply below_drewN | apply below_al))).out (P2.y (PQ.p2 (HJ.go (by repeat (first | exact Below.refl _ _ | apply Below.drew | apply below_drewN | apply below_al)))))).mono ?_; rintro e w6 ⟨rfl, hb⟩; replace HJ := HJ.go2 (by repeat (first | exact Below.refl _ _ | apply Below.drew | apply below_drewN | apply below_al)) hb; clear hb p1 p2 q1 q2; obtain ⟨p1, p2, q1, q2⟩ := P2.cells (PQ.p2 HJ))
                | (go_at_call_of 39 (Value.slice L bs.length n); refine (HS2.out _ (P2.x (PQ.p2 (HJ.go (by repeat (first | exact Below.refl _ _ | apply Below.drew | apply below_drewN | apply below_al))))) (PQ.l (HJ.go (by repeat (first | exact Below.refl _ _ | apply Below.drew | apply below_drewN | apply below_al)))) HZ.out.1 HZ.out.2).mono ?_; rintro e w7 ⟨Z, z, rfl, hr, hb⟩; replace HJ := HJ.go2 (by repeat (first | exact Below.refl _ _ | apply Below.drew | apply below_drewN | apply below_al)) hb; have HZZ := At.rb (q := qq) hr; have hr1 := hr.1; have hr2 := hr.2.1; clear hr hb p1 p2 q1 q2; obtain ⟨p1, p2, q1, q2⟩ := P2.cells (PQ.p2 HJ); have sz1 := HJ.out.1.1.2.2.2.2; have sz2 := HJ.out.1.2.1.2.2.2.2)
                | (go_at_call_of 43 (Value.agg #[.slice Z zz.length z, .bool qq]); refine (HB2.out _ _ _ (P2.x (PQ.p2 (HJ.go (by repeat (first | exact Below.refl _ _ | apply Below.drew | apply below_drewN | apply below_al))))) (HZZ.go (by repeat (first | exact Below.refl _ _ | apply Below.drew | apply below_drewN | apply below_al))).out.2 (P2.m (PQ.p2 (HJ.go (by repeat (first | exact Below.refl _ _ | apply Below.drew | apply below_drewN | apply below_al)))))).mono ?_; rintro e w9 ⟨M2, m2, rfl, hbt, hb⟩; replace HJ := HJ.go2 (by repeat (first | exact Below.refl _ _ | apply Below.drew | apply below_drewN | apply below_al)) hb; replace HZZ := HZZ.go2 (by repeat (first | exact Below.refl _ _ | apply Below.drew | apply below_drewN | apply below_al)) hb; have HN := At.bt' hbt; have hn1 := hbt.1; have hn2 := hbt.2.1; clear hbt hb p1 p2 q1 q2; obtain ⟨p1, p2, q1, q2⟩ := P2.cells (PQ.p2 HJ); obtain ⟨⟨z1, z2, z3, z4, z5⟩, -⟩ := HZZ.out)
                | (go_at_call_of 32 (Value.agg #[.slice Z zz.length z, .bool qq]); refine (HW2.out _ _ _ (HZZ.go (by repeat (first | exact Below.refl _ _ | apply Below.drew | apply below_drewN | apply below_al))).out.2 (P2.x (PQ.p2 (HJ.go (by repeat (first | exact Below.refl _ _ | apply Below.drew | apply below_drewN | apply below_al)))))).mono ?_; rintro e w10 ⟨rfl, hb⟩; replace HJ := HJ.go2 (by repeat (first | exact Below.refl _ _ | apply Below.drew | apply below_drewN | apply below_al)) hb; replace HN := HN.go2 (by repeat (first | exact Below.refl _ _ | apply Below.drew | apply below_drewN | apply below_al)) hb; clear hb p1 p2 q1 q2; obtain ⟨p1, p2, q1, q2⟩ := P2.cells (PQ.p2 HJ))
                | (go_at_call 18; refine (pawake_any _ (P2.m (PQ.p2 (HJ.go (by repeat (first | exact Below.refl _ _ | apply Below.drew | apply below_drewN | apply below_al)))))).mono ?_; rintro e w8 ⟨rfl, hb⟩; replace HJ := HJ.go2 (by repeat (first | exact Below.refl _ _ | apply Below.drew | apply below_drewN | apply below_al)) hb; clear hb))
              go_ret
              exact ⟨rfl, P2.b (PQ.p2 (HJ.go (by repeat (first | exact Below.refl _ _ | apply Below.drew | apply below_drewN | apply below_al))))⟩
            | false =>
              simp only [Bool.false_eq_true, if_false] at HB1
              go_wp2_with (first
                | (go_at_call_of 43 (Value.agg #[.slice B ys.length d, .bool t]); refine (HB1.out _ (P2.x (PQ.p2 (HJ.go (by repeat (first | exact Below.refl _ _ | apply Below.drew | apply below_drewN | apply below_al))))) (P2.y (PQ.p2 (HJ.go (by repeat (first | exact Below.refl _ _ | apply Below.drew | apply below_drewN | apply below_al))))) (P2.m (PQ.p2 (HJ.go (by repeat (first | exact Below.refl _ _ | apply Below.drew | apply below_drewN | apply below_al)))))).mono ?_; rintro e w3 ⟨M, m, rfl, hbt, hb⟩; replace HJ := HJ.go2 (by repeat (first | exact Below.refl _ _ | apply Below.drew | apply below_drewN | apply below_al)) hb; have HM := At.bt' hbt; have hm1 := hbt.1; have hm2 := hbt.2.1; clear hbt hb p1 p2 q1 q2; obtain ⟨p1, p2, q1, q2⟩ := P2.cells (PQ.p2 HJ))
                | (go_at_call_of 32 (Value.agg #[.slice B ys.length d, .bool t]); refine (HW1.out _ (P2.y (PQ.p2 (HJ.go (by repeat (first | exact Below.refl _ _ | apply Below.drew | apply below_drewN | apply below_al))))) (P2.x (PQ.p2 (HJ.go (by repeat (first | exact Below.refl _ _ | apply Below.drew | apply below_drewN | apply below_al)))))).mono ?_; rintro e w4 ⟨rfl, hb⟩; replace HJ := HJ.go2 (by repeat (first | exact Below.refl _ _ | apply Below.drew | apply below_drewN | apply below_al)) hb; replace HM := HM.go2 (by repeat (first | exact Below.refl _ _ | apply Below.drew | apply below_drewN | apply below_al)) hb; clear hb p1 p2 q1 q2; obtain ⟨p1, p2, q1, q2⟩ := P2.cells (PQ.p2 HJ))
                | (go_at_call_of 39 (Value.slice M mm.length m); refine (HS1.out _ _ _ (P2.x (PQ.p2 (HJ.go (by repeat (first | exact Below.refl _ _ | apply Below.drew | apply below_drewN | apply below_al))))) (HM.go (by repeat (first | exact Below.refl _ _ | apply Below.drew | apply below_drewN | apply below_al))).out).mono ?_; rintro e w5 ⟨C, e', rfl, hr, hb⟩; replace HJ := HJ.go2 (by repeat (first | exact Below.refl _ _ | apply Below.drew | apply below_drewN | apply below_al)) hb; have HC := At.rt' hr; have hc1 := hr.1; have hc2 := hr.2.1; clear hr hb p1 p2 q1 q2; obtain ⟨p1, p2, q1, q2⟩ := P2.cells (PQ.p2 HJ); have sz1 := HJ.out.1.1.2.2.2.2; have sz2 := HJ.out.1.2.1.2.2.2.2)
                | (go_at_call_of 25 (Value.slice C ys.length e'); refine (HEQ.out _ _ _ _ _ _ (HC.go (by repeat (first | exact Below.refl _ _ | apply Below.drew | apply below_drewN | apply below_al))).out (P2.y (PQ.p2 (HJ.go (by repeat (first | exact Below.refl _ _ | apply Below.drew | apply below_drewN | apply below_al)))))).mono ?_; rintro e w6 ⟨rfl, hb⟩; replace HJ := HJ.go2 (by repeat (first | exact Below.refl _ _ | apply Below.drew | apply below_drewN | apply below_al)) hb; clear hb p1 p2 q1 q2; obtain ⟨p1, p2, q1, q2⟩ := P2.cells (PQ.p2 HJ))
                | (go_at_call_of 39 (Value.slice L bs.length n); refine (HS2.out _ (P2.x (PQ.p2 (HJ.go (by repeat (first | exact Below.refl _ _ | apply Below.drew | apply below_drewN | apply below_al))))) (PQ.l (HJ.go (by repeat (first | exact Below.refl _ _ | apply Below.drew | apply below_drewN | apply below_al)))) HZ.out.1 HZ.out.2).mono ?_; rintro e w7 ⟨Z, z, rfl, hr, hb⟩; replace HJ := HJ.go2 (by repeat (first | exact Below.refl _ _ | apply Below.drew | apply below_drewN | apply below_al)) hb; have HZZ := At.rb (q := qq) hr; have hr1 := hr.1; have hr2 := hr.2.1; clear hr hb p1 p2 q1 q2; obtain ⟨p1, p2, q1, q2⟩ := P2.cells (PQ.p2 HJ); have sz1 := HJ.out.1.1.2.2.2.2; have sz2 := HJ.out.1.2.1.2.2.2.2)
                | (go_at_call_of 43 (Value.agg #[.slice Z zz.length z, .bool qq]); refine (HB2.out _ _ _ (P2.x (PQ.p2 (HJ.go (by repeat (first | exact Below.refl _ _ | apply Below.drew | apply below_drewN | apply below_al))))) (HZZ.go (by repeat (first | exact Below.refl _ _ | apply Below.drew | apply below_drewN | apply below_al))).out.2 (P2.m (PQ.p2 (HJ.go (by repeat (first | exact Below.refl _ _ | apply Below.drew | apply below_drewN | apply below_al)))))).mono ?_; rintro e w9 ⟨M2, m2, rfl, hbt, hb⟩; replace HJ := HJ.go2 (by repeat (first | exact Below.refl _ _ | apply Below.drew | apply below_drewN | apply below_al)) hb; replace HZZ := HZZ.go2 (by repeat (first | exact Below.refl _ _ | apply Below.drew | apply below_drewN | apply below_al)) hb; have HN := At.bt' hbt; have hn1 := hbt.1; have hn2 := hbt.2.1; clear hbt hb p1 p2 q1 q2; obtain ⟨p1, p2, q1, q2⟩ := P2.cells (PQ.p2 HJ); obtain ⟨⟨z1, z2, z3, z4, z5⟩, -⟩ := HZZ.out)
                | (go_at_call_of 32 (Value.agg #[.slice Z zz.length z, .bool qq]); refine (HW2.out _ _ _ (HZZ.go (by repeat (first | exact Below.refl _ _ | apply Below.drew | apply below_drewN | apply below_al))).out.2 (P2.x (PQ.p2 (HJ.go (by repeat (first | exact Below.refl _ _ | apply Below.drew | apply below_drewN | apply below_al)))))).mono ?_; rintro e w10 ⟨rfl, hb⟩; replace HJ := HJ.go2 (by repeat (first | exact Below.refl _ _ | apply Below.drew | apply below_drewN | apply below_al)) hb; replace HN := HN.go2 (by repeat (first | exact Below.refl _ _ | apply Below.drew | apply below_drewN | apply below_al)) hb; clear hb p1 p2 q1 q2; obtain ⟨p1, p2, q1, q2⟩ := P2.cells (PQ.p2 HJ))
                | (go_at_call 18; refine (pawake_any _ (P2.m (PQ.p2 (HJ.go (by repeat (first | exact Below.refl _ _ | apply Below.drew | apply below_drewN | apply below_al)))))).mono ?_; rintro e w8 ⟨rfl, hb⟩; replace HJ := HJ.go2 (by repeat (first | exact Below.refl _ _ | apply Below.drew | apply below_drewN | apply below_al)) hb; clear hb))
              go_ret
              exact ⟨rfl, P2.b (PQ.p2 (HJ.go (by repeat (first | exact Below.refl _ _ | apply Below.drew | apply below_drewN | apply below_al))))⟩
end Go.Proofs.YtofmngfmoagenaaDoor

