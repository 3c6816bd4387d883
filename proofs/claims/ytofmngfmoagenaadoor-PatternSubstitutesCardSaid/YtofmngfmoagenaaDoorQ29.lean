/-
  The walk of the program's Substitute: the errors ahead of its work.
-/
import Derived.Test.YtofmngfmoagenaaDoorQ28
namespace Go.Proofs.YtofmngfmoagenaaDoor
set_option linter.unusedSimpArgs false
set_option linter.unusedVariables false
open Go.RowKit
open Pm

/-- a pattern in a box, an empty pattern in the next one, bindings -/
def PS (W : World) (A : Option Addr) (c : Nat) (xs : List ByteArray) (r : Bool) (B : Option Addr) (d : Nat) (bs : List (List ByteArray × Bool)) (w : World) : Prop :=
  PX w W.heap.size (.slice A xs.length c) (.bool r) ∧ PX w (W.heap.size + 1) (.slice none 0 0) (.bool false) ∧ RT w A c xs ∧ BT w B d bs ∧ Below W.heap.size W w
theorem PS.kept (W : World) (A : Option Addr) (c : Nat) (xs : List ByteArray) (r : Bool) (B : Option Addr) (d : Nat) (bs : List (List ByteArray × Bool)) : Kept (PS W A c xs r B d bs) :=
  (kept_px _ _ _).both ((kept_px _ _ _).both ((kept_rt _ _ _).both ((kept_bt _ _ _).both (kept_below _))))
theorem PS.enter {W : World} {A : Option Addr} {c : Nat} {xs : List ByteArray} {B : Option Addr} {d : Nat} {bs : List (List ByteArray × Bool)} (h : RT W A c xs) (k : BT W B d bs) (r : Bool) (T : TypeId) :
    At (PS W A c xs r B d bs) ((W.alloc (.cells #[.slice A xs.length c, .bool r] T)).alloc (.cells #[.slice none 0 0, .bool false] T)) :=
  ⟨PS.kept _ _ _ _ _ _ _ _, PX.fst W _ _ _ _ _, PX.snd W _ _ _ _ _, (h.below (below_alloc _ _)).below (below_alloc _ _), (k.below (below_alloc _ _)).below (below_alloc _ _), by repeat (first | exact Below.refl _ _ | apply Below.drew | apply below_drewN | apply below_al)⟩
theorem PS.cells {W : World} {A : Option Addr} {c : Nat} {xs : List ByteArray} {r : Bool} {B : Option Addr} {d : Nat} {bs : List (List ByteArray × Bool)} {w : World} (h : At (PS W A c xs r B d bs) w) :
    PX w W.heap.size (.slice A xs.length c) (.bool r) ∧ PX w (W.heap.size + 1) (.slice none 0 0) (.bool false) := ⟨h.out.1, h.out.2.1⟩
theorem PS.x {W : World} {A : Option Addr} {c : Nat} {xs : List ByteArray} {r : Bool} {B : Option Addr} {d : Nat} {bs : List (List ByteArray × Bool)} {w : World} (h : At (PS W A c xs r B d bs) w) : RT w A c xs := h.out.2.2.1
theorem PS.y {W : World} {A : Option Addr} {c : Nat} {xs : List ByteArray} {r : Bool} {B : Option Addr} {d : Nat} {bs : List (List ByteArray × Bool)} {w : World} (h : At (PS W A c xs r B d bs) w) : BT w B d bs := h.out.2.2.2.1
theorem PS.b {W : World} {A : Option Addr} {c : Nat} {xs : List ByteArray} {r : Bool} {B : Option Addr} {d : Nat} {bs : List (List ByteArray × Bool)} {w : World} (h : At (PS W A c xs r B d bs) w) : Below W.heap.size W w := h.out.2.2.2.2

set_option maxHeartbeats 1000000 in
theorem sub_chk (A B : Option Addr) (c d : Nat) (xs : List ByteArray) (bs : List (List ByteArray × Bool)) (r : Bool) (w : World) (h : RT w A c xs) (k : BT w B d bs)
    (hsx : ∀ x ∈ xs, x.size ≤ 9223372036854775807) (hn : checkP xs r ≠ 0) :
    Calls Tryd.prog 39 #[.agg #[.slice A xs.length c, .bool r], .slice B bs.length d] w (RetP w [] false (checkP xs r)) := by
  have HI := PS.enter h k r 25
  have HK := Lib.hid (fun W (h : RT W A c xs) => kinds_any A c xs r W h hsx)
  have hnB : (checkP xs r != 0) = true := by rw [bne_iff_ne]; exact hn
  have hx1 := h.1
  have hx2 := h.2.1
  have hy1 := k.1
  have hy2 := k.2.1
  generalize checkP xs r = n at *
  clear h k hsx hn
  go_enter Tryd.func39, Tryd.ntmps39
  go_wp2_with (go_at_call 34; refine (HK.out _ (PS.x (HI.go (by repeat (first | exact Below.refl _ _ | apply Below.drew | apply below_drewN | apply below_al))))).mono ?_; rintro e w1 ⟨rfl, hb⟩; replace HI := HI.go2 (by repeat (first | exact Below.refl _ _ | apply Below.drew | apply below_drewN | apply below_al)) hb; clear hb; obtain ⟨⟨p1, p2, p3, p4, p5⟩, ⟨r1, r2, r3, r4, r5⟩⟩ := PS.cells HI)
  refine bodyPost_ret (v := .tuple #[.agg #[.slice none 0 0, .bool false], .int .i64 n]) (by simp [results, Tryd.results39, go_sem, r1, r2, r3, r4]) rfl ⟨none, 0, rfl, RT.nil _ _ _ (by omega), ?_⟩
  exact below_box (PS.b HI) (by omega) _ _
set_option maxHeartbeats 1000000 in
theorem sub_len (A B : Option Addr) (c d : Nat) (xs : List ByteArray) (bs : List (List ByteArray × Bool)) (r : Bool) (w : World) (h : RT w A c xs) (k : BT w B d bs)
    (hsx : ∀ x ∈ xs, x.size ≤ 9223372036854775807) (hn : checkP xs r = 0) (hl : bs.length ≠ wildB stB xs r) :
    Calls Tryd.prog 39 #[.agg #[.slice A xs.length c, .bool r], .slice B bs.length d] w (RetP w [] false 33) := by
  have HI := PS.enter h k r 25
  have HK := Lib.hid (fun W (h : RT W A c xs) => kinds_any A c xs r W h hsx)
  rw [(kindN_eq hn).1, (kindN_eq hn).2, hn] at HK
  have hx12 := (check_zero hn).2.1
  have hst := count_le stB xs
  have hx1 := h.1
  have hx2 := h.2.1
  have hy1 := k.1
  have hy2 := k.2.1
  unfold wildB at hl
  generalize countB stB xs = st at *
  clear h k hsx hn
  cases r with
  | true =>
    have hl2 : ¬ (bs.length : Int) = (st : Int) + 1 := by simp at hl; omega
    have hl3 : ((bs.length : Int) != (st : Int) + 1) = true := by rw [bne_iff_ne]; exact hl2
    have hl4 : ((bs.length : Int) == (st : Int) + 1) = false := by rw [beq_eq_false_iff_ne]; exact hl2
    clear hl hl2
    go_enter Tryd.func39, Tryd.ntmps39
    go_wp2_with (go_at_call 34; refine (HK.out _ (PS.x (HI.go (by repeat (first | exact Below.refl _ _ | apply Below.drew | apply below_drewN | apply below_al))))).mono ?_; rintro e w1 ⟨rfl, hb⟩; replace HI := HI.go2 (by repeat (first | exact Below.refl _ _ | apply Below.drew | apply below_drewN | apply below_al)) hb; clear hb; obtain ⟨⟨p1, p2, p3, p4, p5⟩, ⟨r1, r2, r3, r4, r5⟩⟩ := PS.cells HI)
    refine bodyPost_ret (v := .tuple #[.agg #[.slice none 0 0, .bool false], .int .i64 33]) (by simp [results, Tryd.results39, go_sem, r1, r2, r3, r4]) rfl ⟨none, 0, rfl, RT.nil _ _ _ (by omega), ?_⟩
    exact below_box (PS.b HI) (by omega) _ _
  | false =>
    have hl2 : ¬ (bs.length : Int) = (st : Int) := by simp at hl; omega
    have hl3 : ((bs.length : Int) != (st : Int)) = true := by rw [bne_iff_ne]; exact hl2
    have hl4 : ((bs.length : Int) == (st : Int)) = false := by rw [beq_eq_false_iff_ne]; exact hl2
    clear hl hl2
    go_enter Tryd.func39, Tryd.ntmps39
    go_wp2_with (go_at_call 34; refine (HK.out _ (PS.x (HI.go (by repeat (first | exact Below.refl _ _ | apply Below.drew | apply below_drewN | apply below_al))))).mono ?_; rintro e w1 ⟨rfl, hb⟩; replace HI := HI.go2 (by repeat (first | exact Below.refl _ _ | apply Below.drew | apply below_drewN | apply below_al)) hb; clear hb; obtain ⟨⟨p1, p2, p3, p4, p5⟩, ⟨r1, r2, r3, r4, r5⟩⟩ := PS.cells HI)
    refine bodyPost_ret (v := .tuple #[.agg #[.slice none 0 0, .bool false], .int .i64 33]) (by simp [results, Tryd.results39, go_sem, r1, r2, r3, r4]) rfl ⟨none, 0, rfl, RT.nil _ _ _ (by omega), ?_⟩
    exact below_box (PS.b HI) (by omega) _ _

/-- the bindings before k are in order -/
def BO (st : Nat) (bs : List (List ByteArray × Bool)) (k : Nat) : Prop := ∀ i p, i < k → bs[i]? = some p → bindOk p.1 p.2 (decide (i = st)) = true
theorem BO.zero (st : Nat) (bs : List (List ByteArray × Bool)) : BO st bs 0 := fun i p h => by omega
theorem BO.step {st : Nat} {bs : List (List ByteArray × Bool)} {k : Nat} (h : BO st bs k) {q : List ByteArray × Bool} (hq : bs[k]? = some q) (hb : bindOk q.1 q.2 (decide (k = st)) = true) : BO st bs (k + 1) := fun i p hi hp => by
  rcases Nat.lt_or_ge i k with hlt | hge
  · exact h i p hlt hp
  · obtain rfl : i = k := by omega
    obtain rfl := Option.some.inj (hq.symm.trans hp)
    exact hb
theorem BO.no {st : Nat} {bs : List (List ByteArray × Bool)} {k : Nat} {q : List ByteArray × Bool} (hq : bs[k]? = some q) (hb : bindOk q.1 q.2 (decide (k = st)) = false) : ¬ BO st bs bs.length := fun h => by
  have := h k q (List.getElem?_eq_some_iff.1 hq).1 hq
  rw [hb] at this
  cases this

set_option maxHeartbeats 4000000 in
theorem sub_bad (A B : Option Addr) (c d : Nat) (xs : List ByteArray) (bs : List (List ByteArray × Bool)) (r : Bool) (w : World) (h : RT w A c xs) (k : BT w B d bs)
    (hsx : ∀ x ∈ xs, x.size ≤ 9223372036854775807) (hbz : ∀ b ∈ bs, ∀ x ∈ b.1, x.size ≤ 9223372036854775807) (hn : checkP xs r = 0) (hl : bs.length = wildB stB xs r) (hno : ¬ BO (countB stB xs) bs bs.length) :
    Calls Tryd.prog 39 #[.agg #[.slice A xs.length c, .bool r], .slice B bs.length d] w (RetP w [] false 33) := by
  have HI := PS.enter h k r 25
  have HK := Lib.hid (fun W (h : RT W A c xs) => kinds_any A c xs r W h hsx)
  rw [(kindN_eq hn).1, (kindN_eq hn).2, hn] at HK
  have hx12 := (check_zero hn).2.1
  have hx0 := (check_zero hn).1
  have hst := count_le stB xs
  have HBZ := Lib.hid hbz
  have hx1 := h.1
  have hx2 := h.2.1
  have hy1 := k.1
  have hy2 := k.2.1
  unfold wildB at hl
  have HNO := Lib.hid hno
  generalize countB stB xs = st at *
  clear h k hsx hbz hn hno
  cases r with
  | true =>
    have hl2 : (bs.length : Int) = (st : Int) + 1 := by simp at hl; omega
    have hl3 : ((bs.length : Int) != (st : Int) + 1) = false := by rw [hl2]; simp
    have hl4 : ((bs.length : Int) == (st : Int) + 1) = true := by rw [hl2]; simp
    clear hl hl2
    go_enter Tryd.func39, Tryd.ntmps39
    go_wp2_with (go_at_call 34; refine (HK.out _ (PS.x (HI.go (by repeat (first | exact Below.refl _ _ | apply Below.drew | apply below_drewN | apply below_al))))).mono ?_; rintro e w1 ⟨rfl, hb⟩; replace HI := HI.go2 (by repeat (first | exact Below.refl _ _ | apply Below.drew | apply below_drewN | apply below_al)) hb; clear hb; obtain ⟨⟨p1, p2, p3, p4, p5⟩, ⟨r1, r2, r3, r4, r5⟩⟩ := PS.cells HI)
    go_loopw [45] (fun i wr => ∃ k : Nat, k ≤ bs.length ∧ i = .int .i64 k ∧ At (PS w A c xs true B d bs) wr ∧ Hid (BO st bs k)) (fun i _ => bs.length - (intOf i).toNat)
    case atStart => exact ⟨0, Nat.zero_le _, rfl, HI.go (by repeat (first | exact Below.refl _ _ | apply Below.drew | apply below_drewN | apply below_al)), Lib.hid (BO.zero _ _)⟩
    case round =>
      obtain ⟨k, hk, rfl, HJ, HO⟩ := hrel
      clear HI p1 p2 p3 p4 p5 r1 r2 r3 r4 r5
      obtain ⟨⟨p1, p2, p3, p4, p5⟩, ⟨r1, r2, r3, r4, r5⟩⟩ := PS.cells HJ
      by_cases hlt : k < bs.length
      · obtain ⟨⟨zs, q⟩, hp⟩ : ∃ p, bs[k]? = some p := ⟨_, List.getElem?_eq_getElem hlt⟩
        obtain ⟨b1, o1, rfl, hb1, hc1⟩ := (PS.y HJ).2.2 (by omega)
        obtain ⟨C, e, x1, x2, x3⟩ := hc1 k _ hp
        have hlI : (k : Int) < (bs.length : Int) := by omega
        have hz1 := x3.1
        have hz2 := x3.2.1
        have HR : At (fun w => RT w C e zs) wr := ⟨kept_rt _ _ _, x3⟩
        have HZS := Lib.hid (HBZ.out _ (List.mem_of_getElem? hp))
        have HP := Lib.hid hp
        have hks : ((k : Int) == (st : Int)) = decide (k = st) := by
          by_cases e : k = st
          · rw [e]; simp
          · rw [decide_eq_false e, beq_eq_false_iff_ne]; omega
        clear hc1 hp x3
        cases hbo : bindOk zs q (decide (k = st)) with
        | true =>
          have HB := Lib.hid (HO.out.step HP.out hbo)
          have HBI := Lib.hid (fun w h => isBinding_any C e zs q (decide (k = st)) w h HZS.out)
          rw [hbo] at HBI
          clear hbo
          generalize decide (k = st) = kk at *
          go_wp2_with (go_at_call 66; refine (HBI.out _ (HR.go (by repeat (first | exact Below.refl _ _ | apply Below.drew | apply below_drewN | apply below_al))).out).mono ?_; rintro e w3 ⟨rfl, hb⟩; replace HJ := HJ.go2 (by repeat (first | exact Below.refl _ _ | apply Below.drew | apply below_drewN | apply below_al)) hb; clear hb)
          go_roundw
          case rel => exact ⟨k + 1, by omega, by go_num, HJ, HB⟩
          case measure => simp [intOf]; omega
        | false =>
          have HB := Lib.hid (BO.no HP.out hbo)
          have HBI := Lib.hid (fun w h => isBinding_any C e zs q (decide (k = st)) w h HZS.out)
          rw [hbo] at HBI
          clear hbo
          generalize decide (k = st) = kk at *
          go_wp2_with (go_at_call 66; refine (HBI.out _ (HR.go (by repeat (first | exact Below.refl _ _ | apply Below.drew | apply below_drewN | apply below_al))).out).mono ?_; rintro e w3 ⟨rfl, hb⟩; replace HJ := HJ.go2 (by repeat (first | exact Below.refl _ _ | apply Below.drew | apply below_drewN | apply below_al)) hb; clear hb p1 p2 p3 p4 p5 r1 r2 r3 r4 r5; obtain ⟨⟨p1, p2, p3, p4, p5⟩, ⟨r1, r2, r3, r4, r5⟩⟩ := PS.cells HJ)
          refine bodyPost_ret (v := .tuple #[.agg #[.slice none 0 0, .bool false], .int .i64 33]) (by simp [results, Tryd.results39, go_sem, r1, r2, r3, r4]) rfl ⟨none, 0, rfl, RT.nil _ _ _ (by omega), ?_⟩
          exact below_box (PS.b HJ) (by omega) _ _
      · have HOK : Hid (BO st bs bs.length) := Lib.hid (by obtain rfl : k = bs.length := by omega
                                                           exact HO.out)
        exact absurd HOK.out HNO.out
  | false =>
    have hl2 : (bs.length : Int) = (st : Int) := by simp at hl; omega
    have hl3 : ((bs.length : Int) != (st : Int)) = false := by rw [hl2]; simp
    have hl4 : ((bs.length : Int) == (st : Int)) = true := by rw [hl2]; simp
    clear hl hl2
    go_enter Tryd.func39, Tryd.ntmps39
    go_wp2_with (go_at_call 34; refine (HK.out _ (PS.x (HI.go (by repeat (first | exact Below.refl _ _ | apply Below.drew | apply below_drewN | apply below_al))))).mono ?_; rintro e w1 ⟨rfl, hb⟩; replace HI := HI.go2 (by repeat (first | exact Below.refl _ _ | apply Below.drew | apply below_drewN | apply below_al)) hb; clear hb; obtain ⟨⟨p1, p2, p3, p4, p5⟩, ⟨r1, r2, r3, r4, r5⟩⟩ := PS.cells HI)
    go_loopw [45] (fun i wr => ∃ k : Nat, k ≤ bs.length ∧ i = .int .i64 k ∧ At (PS w A c xs false B d bs) wr ∧ Hid (BO st bs k)) (fun i _ => bs.length - (intOf i).toNat)
    case atStart => exact ⟨0, Nat.zero_le _, rfl, HI.go (by repeat (first | exact Below.refl _ _ | apply Below.drew | apply below_drewN | apply below_al)), Lib.hid (BO.zero _ _)⟩
    case round =>
      obtain ⟨k, hk, rfl, HJ, HO⟩ := hrel
      clear HI p1 p2 p3 p4 p5 r1 r2 r3 r4 r5
      obtain ⟨⟨p1, p2, p3, p4, p5⟩, ⟨r1, r2, r3, r4, r5⟩⟩ := PS.cells HJ
      by_cases hlt : k < bs.length
      · obtain ⟨⟨zs, q⟩, hp⟩ : ∃ p, bs[k]? = some p := ⟨_, List.getElem?_eq_getElem hlt⟩
        obtain ⟨b1, o1, rfl, hb1, hc1⟩ := (PS.y HJ).2.2 (by omega)
        obtain ⟨C, e, x1, x2, x3⟩ := hc1 k _ hp
        have hlI : (k : Int) < (bs.length : Int) := by omega
        have hz1 := x3.1
        have hz2 := x3.2.1
        have HR : At (fun w => RT w C e zs) wr := ⟨kept_rt _ _ _, x3⟩
        have HZS := Lib.hid (HBZ.out _ (List.mem_of_getElem? hp))
        have HP := Lib.hid hp
        have hks : ((k : Int) == (st : Int)) = decide (k = st) := by
          by_cases e : k = st
          · rw [e]; simp
          · rw [decide_eq_false e, beq_eq_false_iff_ne]; omega
        clear hc1 hp x3
        cases hbo : bindOk zs q (decide (k = st)) with
        | true =>
          have HB := Lib.hid (HO.out.step HP.out hbo)
          have HBI := Lib.hid (fun w h => isBinding_any C e zs q (decide (k = st)) w h HZS.out)
          rw [hbo] at HBI
          clear hbo
          generalize decide (k = st) = kk at *
          go_wp2_with (go_at_call 66; refine (HBI.out _ (HR.go (by repeat (first | exact Below.refl _ _ | apply Below.drew | apply below_drewN | apply below_al))).out).mono ?_; rintro e w3 ⟨rfl, hb⟩; replace HJ := HJ.go2 (by repeat (first | exact Below.refl _ _ | apply Below.drew | apply below_drewN | apply below_al)) hb; clear hb)
          go_roundw
          case rel => exact ⟨k + 1, by omega, by go_num, HJ, HB⟩
          case measure => simp [intOf]; omega
        | false =>
          have HB := Lib.hid (BO.no HP.out hbo)
          have HBI := Lib.hid (fun w h => isBinding_any C e zs q (decide (k = st)) w h HZS.out)
          rw [hbo] at HBI
          clear hbo
          generalize decide (k = st) = kk at *
          go_wp2_with (go_at_call 66; refine (HBI.out _ (HR.go (by repeat (first | exact Below.refl _ _ | apply Below.drew | apply below_drewN | apply below_al))).out).mono ?_; rintro e w3 ⟨rfl, hb⟩; replace HJ := HJ.go2 (by repeat (first | exact Below.refl _ _ | apply Below.drew | apply below_drewN | apply below_al)) hb; clear hb p1 p2 p3 p4 p5 r1 r2 r3 r4 r5; obtain ⟨⟨p1, p2, p3, p4, p5⟩, ⟨r1, r2, r3, r4, r5⟩⟩ := PS.cells HJ)
          refine bodyPost_ret (v := .tuple #[.agg #[.slice none 0 0, .bool false], .int .i64 33]) (by simp [results, Tryd.results39, go_sem, r1, r2, r3, r4]) rfl ⟨none, 0, rfl, RT.nil _ _ _ (by omega), ?_⟩
          exact below_box (PS.b HJ) (by omega) _ _
      · have HOK : Hid (BO st bs bs.length) := Lib.hid (by obtain rfl : k = bs.length := by omega
                                                           exact HO.out)
        exact absurd HOK.out HNO.out
end Go.Proofs.YtofmngfmoagenaaDoor

