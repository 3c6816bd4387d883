/-
  PatternSubstitutes returns true.
-/
import Derived.Test.YtofmngfmoagenaaDoorQ37
namespace Go.Proofs.YtofmngfmoagenaaDoor
set_option linter.unusedSimpArgs false
set_option linter.unusedVariables false
open Go.RowKit
open Pm

/-- a pattern in a box, and bindings -/
def PL (W : World) (A : Option Addr) (c : Nat) (xs : List ByteArray) (r : Bool) (B : Option Addr) (d : Nat) (bs : List (List ByteArray × Bool)) (w : World) : Prop :=
  PX w W.heap.size (.slice A xs.length c) (.bool r) ∧ RT w A c xs ∧ BT w B d bs ∧ ML w ∧ Below W.heap.size W w
theorem PL.kept (W : World) (A : Option Addr) (c : Nat) (xs : List ByteArray) (r : Bool) (B : Option Addr) (d : Nat) (bs : List (List ByteArray × Bool)) : Kept (PL W A c xs r B d bs) :=
  (kept_px _ _ _).both ((kept_rt _ _ _).both ((kept_bt _ _ _).both (kept_ml.both (kept_below _))))
theorem PL.enter {W : World} {A : Option Addr} {c : Nat} {xs : List ByteArray} {B : Option Addr} {d : Nat} {bs : List (List ByteArray × Bool)} (h : RT W A c xs) (k : BT W B d bs) (m : ML W) (r : Bool) (T : TypeId) :
    At (PL W A c xs r B d bs) (W.alloc (.cells #[.slice A xs.length c, .bool r] T)) :=
  ⟨PL.kept _ _ _ _ _ _ _ _, PX.new W _ _ _, h.below (below_alloc _ _), k.below (below_alloc _ _), m.below (below_alloc _ _), below_alloc _ _⟩
theorem PL.cells {W : World} {A : Option Addr} {c : Nat} {xs : List ByteArray} {r : Bool} {B : Option Addr} {d : Nat} {bs : List (List ByteArray × Bool)} {w : World} (h : At (PL W A c xs r B d bs) w) :
    PX w W.heap.size (.slice A xs.length c) (.bool r) := h.out.1
theorem PL.x {W : World} {A : Option Addr} {c : Nat} {xs : List ByteArray} {r : Bool} {B : Option Addr} {d : Nat} {bs : List (List ByteArray × Bool)} {w : World} (h : At (PL W A c xs r B d bs) w) : RT w A c xs := h.out.2.1
theorem PL.y {W : World} {A : Option Addr} {c : Nat} {xs : List ByteArray} {r : Bool} {B : Option Addr} {d : Nat} {bs : List (List ByteArray × Bool)} {w : World} (h : At (PL W A c xs r B d bs) w) : BT w B d bs := h.out.2.2.1
theorem PL.m {W : World} {A : Option Addr} {c : Nat} {xs : List ByteArray} {r : Bool} {B : Option Addr} {d : Nat} {bs : List (List ByteArray × Bool)} {w : World} (h : At (PL W A c xs r B d bs) w) : ML w := h.out.2.2.2.1
theorem PL.b {W : World} {A : Option Addr} {c : Nat} {xs : List ByteArray} {r : Bool} {B : Option Addr} {d : Nat} {bs : List (List ByteArray × Bool)} {w : World} (h : At (PL W A c xs r B d bs) w) : Below W.heap.size W w := h.out.2.2.2.2
theorem same_self2 (xs : List ByteArray) (r : Bool) : sameB xs xs r r = true := by unfold sameB; simp
/-- all bindings are small -/
def BS (bs : List (List ByteArray × Bool)) (k : Nat) : Prop := ∀ (j : Nat) p, j < k → bs[j]? = some p → smallB p.1 = true
theorem BS.zero (bs : List (List ByteArray × Bool)) : BS bs 0 := fun j p h => by omega
theorem BS.step {bs : List (List ByteArray × Bool)} {k : Nat} (h : BS bs k) {q : List ByteArray × Bool} (hq : bs[k]? = some q) (hb : smallB q.1 = true) : BS bs (k + 1) := fun j p hj hp => by
  rcases Nat.lt_or_ge j k with hlt | hge
  · exact h j p hlt hp
  · obtain rfl : j = k := by omega
    obtain rfl := Option.some.inj (hq.symm.trans hp)
    exact hb
theorem BS.out {bs : List (List ByteArray × Bool)} (h : BS bs bs.length) : (∀ b ∈ bs, ∀ x ∈ b.1, x.size ≤ 5000) ∧ (∀ b ∈ bs, b.1.length ≤ 5000) := by
  constructor
  · intro b hb x hx
    obtain ⟨j, hj⟩ := List.getElem?_of_mem hb
    have := (small_yes (h j b (List.getElem?_eq_some_iff.1 hj).1 hj)).2.2 x hx
    omega
  · intro b hb
    obtain ⟨j, hj⟩ := List.getElem?_of_mem hb
    have := (small_yes (h j b (List.getElem?_eq_some_iff.1 hj).1 hj)).1
    omega

set_option maxHeartbeats 4000000 in
theorem patternSubstitutes_any (A : Option Addr) (c : Nat) (xs : List ByteArray) (r : Bool) (B : Option Addr) (d : Nat) (bs : List (List ByteArray × Bool)) (W : World) (h : RT W A c xs) (hz : ∀ x ∈ xs, x.size ≤ maxLen) (hg : ∀ x ∈ xs, x.size ≤ reachBytes) (k : BT W B d bs) (kz : ∀ b ∈ bs, ∀ x ∈ b.1, x.size ≤ maxLen) (kg : ∀ b ∈ bs, ∀ x ∈ b.1, x.size ≤ reachBytes) (hsh : W.ShapedOpen Tryd.prog) :
    Calls Tryd.prog 12 #[.agg #[.slice A xs.length c, .bool r], .slice B bs.length d] W fun e w' => e = .returned (.bool true) ∧ Below W.heap.size W w' := by
  unfold maxLen at hz kz
  have HI := PL.enter h k (ML.of hsh) r 25
  have HSX := Lib.hid (fun w (h : RT w A c xs) => small_any A c xs r w h hg)
  have HSM := Lib.hid (fun (zs : List ByteArray) (q : Bool) (hm : (zs, q) ∈ bs) C e w (h : RT w C e zs) => small_any C e zs false w h (kg _ hm))
  have hx1 := h.1
  have hx2 := h.2.1
  have hy1 := k.1
  have hy2 := k.2.1
  cases hs : smallB xs with
  | false =>
    rw [hs] at HSX
    clear hsh h hz hg k kz kg hs HSM
    go_enter Tryd.func12, Tryd.ntmps12
    go_wp2_with (first
      | (go_at_call 22; refine (HSX.out _ (PL.x (HI.go (by repeat (first | exact Below.refl _ _ | apply Below.drew | apply below_drewN | apply below_al))))).mono ?_; rintro e w1 ⟨rfl, hb⟩; replace HI := HI.go2 (by repeat (first | exact Below.refl _ _ | apply Below.drew | apply below_drewN | apply below_al)) hb; clear hb)
      | (go_at_call 18; refine (pawake_any _ (PL.m (HI.go (by repeat (first | exact Below.refl _ _ | apply Below.drew | apply below_drewN | apply below_al))))).mono ?_; rintro e w8 ⟨rfl, hb⟩; replace HI := HI.go2 (by repeat (first | exact Below.refl _ _ | apply Below.drew | apply below_drewN | apply below_al)) hb; clear hb))
    go_ret
    exact ⟨rfl, PL.b (HI.go (by repeat (first | exact Below.refl _ _ | apply Below.drew | apply below_drewN | apply below_al)))⟩
  | true =>
    rw [hs] at HSX
    have HX5 : Hid (∀ x ∈ xs, x.size ≤ 5000) := Lib.hid (fun x hx => by have := (small_yes hs).2.2 x hx; omega)
    have HS1 := Lib.hid (fun w h k h2 h3 => sub_any A B c d xs r bs w h k HX5.out h2 h3)
    have HS2 := Lib.hid (fun w h k h2 h3 => rsub_any A B c d xs r bs w h k HX5.out h2 h3)
    have HSA : Hid (∀ (A B : Option Addr) (c d : Nat) (xs : List ByteArray) (r : Bool) (w : World), RT w A c xs → RT w B d xs →
      Calls Tryd.prog 21 #[.agg #[.slice A xs.length c, .bool r], .agg #[.slice B xs.length d, .bool r]] w fun e w' => e = .returned (.bool true) ∧ Below w.heap.size w w') := Lib.hid (fun A B c d xs r w h k => by
        have := psame_any A B c d xs xs r r w h k
        rw [same_self2] at this
        exact this)
    generalize subL xs r bs = zz at *
    generalize subR xs r bs = qq at *
    generalize subE xs r bs = nn at *
    clear hsh h hz hg k kz kg hs
    have hnn : (nn == nn) = true := by simp
    go_enter Tryd.func12, Tryd.ntmps12
    go_wp2_with (first
      | (go_at_call 22; refine (HSX.out _ (PL.x (HI.go (by repeat (first | exact Below.refl _ _ | apply Below.drew | apply below_drewN | apply below_al))))).mono ?_; rintro e w1 ⟨rfl, hb⟩; replace HI := HI.go2 (by repeat (first | exact Below.refl _ _ | apply Below.drew | apply below_drewN | apply below_al)) hb; clear hb)
      | (go_at_call 18; refine (pawake_any _ (PL.m (HI.go (by repeat (first | exact Below.refl _ _ | apply Below.drew | apply below_drewN | apply below_al))))).mono ?_; rintro e w8 ⟨rfl, hb⟩; replace HI := HI.go2 (by repeat (first | exact Below.refl _ _ | apply Below.drew | apply below_drewN | apply below_al)) hb; clear hb))
    all_goals try (go_ret; exact ⟨rfl, PL.b (HI.go (by repeat (first | exact Below.refl _ _ | apply Below.drew | apply below_drewN | apply below_al)))⟩)
    go_loopw [22] (fun i wr => ∃ k : Nat, k ≤ bs.length ∧ i = .int .i64 k ∧ At (PL W A c xs r B d bs) wr ∧ Hid (BS bs k)) (fun i _ => bs.length - (intOf i).toNat)
    case atStart => exact ⟨0, Nat.zero_le _, rfl, HI.go (by repeat (first | exact Below.refl _ _ | apply Below.drew | apply below_drewN | apply below_al)), Lib.hid (BS.zero _)⟩
    case round =>
      obtain ⟨k, hk, rfl, HJ, HO⟩ := hrel
      clear HI
      by_cases hlt : k < bs.length
      · obtain ⟨⟨zs, q⟩, hp⟩ : ∃ p, bs[k]? = some p := ⟨_, List.getElem?_eq_getElem hlt⟩
        obtain ⟨b1, o1, rfl, hb1, hc1⟩ := (PL.y HJ).2.2 (by omega)
        obtain ⟨C, e, x1, x2, x3⟩ := hc1 k _ hp
        have hlI : (k : Int) < (bs.length : Int) := by omega
        have hz1 := x3.1
        have hz2 := x3.2.1
        have HR : At (fun w => RT w C e zs) wr := ⟨kept_rt _ _ _, x3⟩
        have HSZ := Lib.hid (fun w h => HSM.out zs q (List.mem_of_getElem? hp) C e w h)
        have HP := Lib.hid hp
        clear hc1 hp x3
        cases hb : smallB zs with
        | true =>
          have HB := Lib.hid (HO.out.step HP.out hb)
          rw [hb] at HSZ
          clear hb
          go_wp2_with (go_at_call 22; refine (HSZ.out _ (HR.go (by repeat (first | exact Below.refl _ _ | apply Below.drew | apply below_drewN | apply below_al))).out).mono ?_; rintro e w3 ⟨rfl, hb⟩; replace HJ := HJ.go2 (by repeat (first | exact Below.refl _ _ | apply Below.drew | apply below_drewN | apply below_al)) hb; clear hb)
          go_roundw
          case rel => exact ⟨k + 1, by omega, by go_num, HJ, HB⟩
          case measure => simp [intOf]; omega
        | false =>
          rw [hb] at HSZ
          clear hb
          go_wp2_with (first
            | (go_at_call 22; refine (HSZ.out _ (HR.go (by repeat (first | exact Below.refl _ _ | apply Below.drew | apply below_drewN | apply below_al))).out).mono ?_; rintro e w3 ⟨rfl, hb⟩; replace HJ := HJ.go2 (by repeat (first | exact Below.refl _ _ | apply Below.drew | apply below_drewN | apply below_al)) hb; clear hb)
            | (go_at_call 18; refine (pawake_any _ (PL.m (HJ.go (by repeat (first | exact Below.refl _ _ | apply Below.drew | apply below_drewN | apply below_al))))).mono ?_; rintro e w8 ⟨rfl, hb⟩; replace HJ := HJ.go2 (by repeat (first | exact Below.refl _ _ | apply Below.drew | apply below_drewN | apply below_al)) hb; clear hb))
          go_ret
          exact ⟨rfl, PL.b (HJ.go (by repeat (first | exact Below.refl _ _ | apply Below.drew | apply below_drewN | apply below_al)))⟩
      · obtain rfl : k = bs.length := by omega
        obtain ⟨p1, p2, p3, p4, p5⟩ := PL.cells HJ
        have HZ := Lib.hid HO.out.out
        clear HO HSM
        go_wp2_with (first
          | (go_at_call 39; refine (HS1.out _ (PL.x (HJ.go (by repeat (first | exact Below.refl _ _ | apply Below.drew | apply below_drewN | apply below_al)))) (PL.y (HJ.go (by repeat (first | exact Below.refl _ _ | apply Below.drew | apply below_drewN | apply below_al)))) HZ.out.1 HZ.out.2).mono ?_; rintro e w5 ⟨C, c', rfl, hr, hb⟩; replace HJ := HJ.go2 (by repeat (first | exact Below.refl _ _ | apply Below.drew | apply below_drewN | apply below_al)) hb; have HR1 : At (fun w => RT w C c' zz) w5 := ⟨kept_rt _ _ _, hr⟩; have hr1 := hr.1; have hr2 := hr.2.1; clear hr hb p1 p2 p3 p4 p5; obtain ⟨p1, p2, p3, p4, p5⟩ := PL.cells HJ)
          | (go_at_call 40; refine (HS2.out _ (PL.x (HJ.go (by repeat (first | exact Below.refl _ _ | apply Below.drew | apply below_drewN | apply below_al)))) (PL.y (HJ.go (by repeat (first | exact Below.refl _ _ | apply Below.drew | apply below_drewN | apply below_al)))) HZ.out.1 HZ.out.2).mono ?_; rintro e w6 ⟨D, d', rfl, hr, hb⟩; replace HJ := HJ.go2 (by repeat (first | exact Below.refl _ _ | apply Below.drew | apply below_drewN | apply below_al)) hb; replace HR1 := HR1.go2 (by repeat (first | exact Below.refl _ _ | apply Below.drew | apply below_drewN | apply below_al)) hb; have HQ := (PX.new w5 (.slice C zz.length c') (.bool qq) 25).below hb; have HR2 : At (fun w => RT w D d' zz) w6 := ⟨kept_rt _ _ _, hr⟩; have hr3 := hr.1; have hr4 := hr.2.1; clear hr hb p1 p2 p3 p4 p5; obtain ⟨p1, p2, p3, p4, p5⟩ := PL.cells HJ; obtain ⟨q1, q2, q3, q4, q5⟩ := HQ)
          | (go_at_call 21; refine (HSA.out _ _ _ _ _ _ _ (HR1.go (by repeat (first | exact Below.refl _ _ | apply Below.drew | apply below_drewN | apply below_al))).out (HR2.go (by repeat (first | exact Below.refl _ _ | apply Below.drew | apply below_drewN | apply below_al))).out).mono ?_; rintro e w7 ⟨rfl, hb⟩; replace HJ := HJ.go2 (by repeat (first | exact Below.refl _ _ | apply Below.drew | apply below_drewN | apply below_al)) hb; clear hb)
          | (go_at_call 18; refine (pawake_any _ (PL.m (HJ.go (by repeat (first | exact Below.refl _ _ | apply Below.drew | apply below_drewN | apply below_al))))).mono ?_; rintro e w8 ⟨rfl, hb⟩; replace HJ := HJ.go2 (by repeat (first | exact Below.refl _ _ | apply Below.drew | apply below_drewN | apply below_al)) hb; clear hb))
        go_ret
        exact ⟨rfl, PL.b (HJ.go (by repeat (first | exact Below.refl _ _ | apply Below.drew | apply below_drewN | apply below_al)))⟩
end Go.Proofs.YtofmngfmoagenaaDoor

