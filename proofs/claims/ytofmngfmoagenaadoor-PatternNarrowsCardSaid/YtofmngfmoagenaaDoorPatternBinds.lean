/-
  PatternBinds returns true.
-/
import Derived.Test.YtofmngfmoagenaaDoorQ27
import Derived.Deep.RegionHeld3
namespace Go.Proofs.YtofmngfmoagenaaDoor
set_option linter.unusedSimpArgs false
set_option linter.unusedVariables false
open Go.RowKit
open Pm

/-- two cells of a row -/
def BX (w : World) (b o : Nat) (u v : Value) : Prop := b < w.heap.size ∧ w.cell? ⟨b, o, none⟩ = some u ∧ w.cell? ⟨b, o + 1, none⟩ = some v
theorem kept_bx (b o : Nat) (u v : Value) : Kept (fun w => BX w b o u v) := fun w w' h hb =>
  ⟨Nat.lt_of_lt_of_le h.1 hb.size, (hb.cell (p := ⟨b, o, none⟩) h.1).trans h.2.1, (hb.cell (p := ⟨b, o + 1, none⟩) h.1).trans h.2.2⟩
def PBB (W : World) (A : Option Addr) (c : Nat) (xs : List ByteArray) (r : Bool) (B : Option Addr) (d : Nat) (ys : List ByteArray) (t : Bool) (L M : Option Addr) (n m : Nat) (bs : List (List ByteArray × Bool)) (w : World) : Prop :=
  P2 W A c xs r B d ys t w ∧ BT w L n bs ∧ BT w M m bs
theorem PBB.kept (W : World) (A : Option Addr) (c : Nat) (xs : List ByteArray) (r : Bool) (B : Option Addr) (d : Nat) (ys : List ByteArray) (t : Bool) (L M : Option Addr) (n m : Nat) (bs : List (List ByteArray × Bool)) : Kept (PBB W A c xs r B d ys t L M n m bs) :=
  (P2.kept _ _ _ _ _ _ _ _ _).both ((kept_bt _ _ _).both (kept_bt _ _ _))
def PCC (I : World → Prop) (b1 o1 b2 o2 : Nat) (u1 v1 u2 v2 : Value) (C D : Option Addr) (e f : Nat) (zs : List ByteArray) (w : World) : Prop :=
  I w ∧ BX w b1 o1 u1 v1 ∧ BX w b2 o2 u2 v2 ∧ RT w C e zs ∧ RT w D f zs
theorem PCC.kept {I : World → Prop} (h : Kept I) (b1 o1 b2 o2 : Nat) (u1 v1 u2 v2 : Value) (C D : Option Addr) (e f : Nat) (zs : List ByteArray) : Kept (PCC I b1 o1 b2 o2 u1 v1 u2 v2 C D e f zs) :=
  h.both ((kept_bx _ _ _ _).both ((kept_bx _ _ _ _).both ((kept_rt _ _ _).both (kept_rt _ _ _))))
theorem PCC.cells {I : World → Prop} {b1 o1 b2 o2 : Nat} {u1 v1 u2 v2 : Value} {C D : Option Addr} {e f : Nat} {zs : List ByteArray} {w : World} (h : At (PCC I b1 o1 b2 o2 u1 v1 u2 v2 C D e f zs) w) :
    w.cell? ⟨b1, o1, none⟩ = some u1 ∧ w.cell? ⟨b1, o1 + 1, none⟩ = some v1 ∧ w.cell? ⟨b2, o2, none⟩ = some u2 ∧ w.cell? ⟨b2, o2 + 1, none⟩ = some v2 :=
  ⟨h.out.2.1.2.1, h.out.2.1.2.2, h.out.2.2.1.2.1, h.out.2.2.1.2.2⟩

set_option maxHeartbeats 4000000 in
theorem patternBinds_any (A : Option Addr) (c : Nat) (xs : List ByteArray) (r : Bool) (B : Option Addr) (d : Nat) (ys : List ByteArray) (t : Bool) (W : World) (h : RT W A c xs) (hz : ∀ x ∈ xs, x.size ≤ maxLen) (hg : ∀ x ∈ xs, x.size ≤ reachBytes) (k : RT W B d ys) (kz : ∀ x ∈ ys, x.size ≤ maxLen) (kg : ∀ x ∈ ys, x.size ≤ reachBytes) (hsh : W.ShapedOpen Tryd.prog) :
    Calls Tryd.prog 14 #[.agg #[.slice A xs.length c, .bool r], .agg #[.slice B ys.length d, .bool t]] W fun e w' => e = .returned (.bool true) ∧ Below W.heap.size W w' := by
  unfold maxLen at hz kz
  have HI := P2.enter h k (ML.of hsh) r t 25
  have HSX := Lib.hid (fun w (h : RT w A c xs) => small_any A c xs r w h hg)
  have HSY := Lib.hid (fun w (h : RT w B d ys) => small_any B d ys t w h kg)
  have HB1 := Lib.hid (fun w h k m => bind_any A B c d xs ys r t w h k m hz kz)
  have HB2 := Lib.hid (fun w h k m => rbind_any A B c d xs ys r t w h k m hz kz)
  have HEQ := Lib.hid (fun A B c d (zs : List ByteArray) w h k => eq_any A B c d zs zs w h k)
  simp only [decide_true] at HEQ
  generalize (if withinOk insB ys xs t r = true then bindB xs ys r t else []) = bs at *
  generalize withinOk insB ys xs t r = ok at *
  clear hsh h hz hg k kz kg
  generalize smallB xs = s1 at *
  generalize smallB ys = s2 at *
  have hok : (ok != ok) = false := by simp
  go_enter Tryd.func14, Tryd.ntmps14
  go_wp2_with (first
    | (go_at_call_of 22 (Value.agg #[.slice A xs.length c, .bool r]); refine (HSX.out _ (P2.x (HI.go (by repeat (first | exact Below.refl _ _ | apply Below.drew | apply below_drewN | apply below_al))))).mono ?_; rintro e w1 ⟨rfl, hb⟩; replace HI := HI.go2 (by repeat (first | exact Below.refl _ _ | apply Below.drew | apply below_drewN | apply below_al)) hb; clear hb; obtain ⟨p1, p2, q1, q2⟩ := P2.cells HI)
    | (go_at_call_of 22 (Value.agg #[.slice B ys.length d, .bool t]); refine (HSY.out _ (P2.y (HI.go (by repeat (first | exact Below.refl _ _ | apply Below.drew | apply below_drewN | apply below_al))))).mono ?_; rintro e w2 ⟨rfl, hb⟩; replace HI := HI.go2 (by repeat (first | exact Below.refl _ _ | apply Below.drew | apply below_drewN | apply below_al)) hb; clear hb; obtain ⟨p1, p2, q1, q2⟩ := P2.cells HI)
    | (go_at_call 43; refine (HB1.out _ (P2.x (HI.go (by repeat (first | exact Below.refl _ _ | apply Below.drew | apply below_drewN | apply below_al)))) (P2.y (HI.go (by repeat (first | exact Below.refl _ _ | apply Below.drew | apply below_drewN | apply below_al)))) (P2.m (HI.go (by repeat (first | exact Below.refl _ _ | apply Below.drew | apply below_drewN | apply below_al))))).mono ?_; rintro e w3 ⟨L, n, rfl, hbt, hb⟩; replace HI := HI.go2 (by repeat (first | exact Below.refl _ _ | apply Below.drew | apply below_drewN | apply below_al)) hb; clear hb; have HL : At (fun w => BT w L n bs) w3 := ⟨kept_bt _ _ _, hbt⟩; have hl1 := hbt.1; have hl2 := hbt.2.1; clear hbt; obtain ⟨p1, p2, q1, q2⟩ := P2.cells HI)
    | (go_at_call 44; refine (HB2.out _ (P2.x (HI.go (by repeat (first | exact Below.refl _ _ | apply Below.drew | apply below_drewN | apply below_al)))) (P2.y (HI.go (by repeat (first | exact Below.refl _ _ | apply Below.drew | apply below_drewN | apply below_al)))) (P2.m (HI.go (by repeat (first | exact Below.refl _ _ | apply Below.drew | apply below_drewN | apply below_al))))).mono ?_; rintro e w4 ⟨M, m, rfl, hbt, hb⟩; replace HL := HL.go2 (by repeat (first | exact Below.refl _ _ | apply Below.drew | apply below_drewN | apply below_al)) hb; replace HI := HI.go2 (by repeat (first | exact Below.refl _ _ | apply Below.drew | apply below_drewN | apply below_al)) hb; clear hb; have HM : At (fun w => BT w M m bs) w4 := ⟨kept_bt _ _ _, hbt⟩; have hm1 := hbt.1; have hm2 := hbt.2.1; clear hbt; obtain ⟨p1, p2, q1, q2⟩ := P2.cells HI)
    | (go_at_call 18; refine (pawake_any _ (P2.m (HI.go (by repeat (first | exact Below.refl _ _ | apply Below.drew | apply below_drewN | apply below_al))))).mono ?_; rintro e w8 ⟨rfl, hb⟩; replace HI := HI.go2 (by repeat (first | exact Below.refl _ _ | apply Below.drew | apply below_drewN | apply below_al)) hb; clear hb))
  all_goals try (go_ret; exact ⟨rfl, P2.b (HI.go (by repeat (first | exact Below.refl _ _ | apply Below.drew | apply below_drewN | apply below_al)))⟩)
  have HA : At (PBB W A c xs r B d ys t L M n m bs) w4 := ⟨PBB.kept _ _ _ _ _ _ _ _ _ _ _ _ _ _, HI.out, HL.out, HM.out⟩
  clear HI HL HM p1 p2 q1 q2
  go_loopw [43] (fun i wr => ∃ k : Nat, k ≤ bs.length ∧ i = .int .i64 k ∧ At (PBB W A c xs r B d ys t L M n m bs) wr) (fun i _ => bs.length - (intOf i).toNat)
  case atStart => exact ⟨0, Nat.zero_le _, rfl, HA.go (by repeat (first | exact Below.refl _ _ | apply Below.drew | apply below_drewN | apply below_al))⟩
  case round =>
    obtain ⟨k, hk, rfl, HJ⟩ := hrel
    clear HA
    by_cases hlt : k < bs.length
    · obtain ⟨⟨zs, q⟩, hp⟩ : ∃ p, bs[k]? = some p := ⟨_, List.getElem?_eq_getElem hlt⟩
      obtain ⟨b1, o1, rfl, hb1, hc1⟩ := HJ.out.2.1.2.2 (by omega)
      obtain ⟨b2, o2, rfl, hb2, hc2⟩ := HJ.out.2.2.2.2 (by omega)
      obtain ⟨C, e, x1, x2, x3⟩ := hc1 k _ hp
      obtain ⟨D, f, y1, y2, y3⟩ := hc2 k _ hp
      have hlI : (k : Int) < (bs.length : Int) := by omega
      have hqq : (q != q) = false := by simp
      have hz1 := x3.1
      have hz2 := x3.2.1
      have hz3 := y3.1
      have hz4 := y3.2.1
      have HQ : At (PCC (PBB W A c xs r B d ys t (some ⟨b1, o1, none⟩) (some ⟨b2, o2, none⟩) n m bs) b1 (o1 + k * 2) b2 (o2 + k * 2) (.slice C zs.length e) (.bool q) (.slice D zs.length f) (.bool q) C D e f zs) wr :=
        ⟨PCC.kept (PBB.kept _ _ _ _ _ _ _ _ _ _ _ _ _ _) _ _ _ _ _ _ _ _ _ _ _ _ _, HJ.out, ⟨hb1, x1, x2⟩, ⟨hb2, y1, y2⟩, x3, y3⟩
      clear hc1 hc2 hp hb1 hb2 x3 y3 HJ
      go_wp2_with fail
      go_region_held3 (fun w' => (w'.cell? ⟨b1, o1 + k * 2, none⟩ = some (.slice C zs.length e) ∧ w'.cell? ⟨b1, o1 + k * 2 + 1, none⟩ = some (.bool q) ∧ w'.cell? ⟨b2, o2 + k * 2, none⟩ = some (.slice D zs.length f) ∧ w'.cell? ⟨b2, o2 + k * 2 + 1, none⟩ = some (.bool q)) ∧ At (PCC (PBB W A c xs r B d ys t (some ⟨b1, o1, none⟩) (some ⟨b2, o2, none⟩) n m bs) b1 (o1 + k * 2) b2 (o2 + k * 2) (.slice C zs.length e) (.bool q) (.slice D zs.length f) (.bool q) C D e f zs) w')
        ((exact ⟨PCC.cells (HQ.go (by repeat (first | exact Below.refl _ _ | apply Below.drew | apply below_drewN | apply below_al))), HQ.go (by repeat (first | exact Below.refl _ _ | apply Below.drew | apply below_drewN | apply below_al))⟩))
        ((go_at_call 25; refine (HEQ.out _ _ _ _ _ _ (HQ.go (by repeat (first | exact Below.refl _ _ | apply Below.drew | apply below_drewN | apply below_al))).out.2.2.2.1 (HQ.go (by repeat (first | exact Below.refl _ _ | apply Below.drew | apply below_drewN | apply below_al))).out.2.2.2.2).mono ?_; rintro e w7 ⟨rfl, hb⟩; replace HQ := HQ.go2 (by repeat (first | exact Below.refl _ _ | apply Below.drew | apply below_drewN | apply below_al)) hb; clear hb))
      all_goals
        go_wp2_with fail
        go_roundw
        case rel => exact ⟨k + 1, by omega, by go_num, ⟨PBB.kept _ _ _ _ _ _ _ _ _ _ _ _ _ _, (HQ.go (by repeat (first | exact Below.refl _ _ | apply Below.drew | apply below_drewN | apply below_al))).out.1⟩⟩
        case measure => simp [intOf]; omega
    · go_wp2_with (go_at_call 18; refine (pawake_any _ (P2.m ⟨P2.kept _ _ _ _ _ _ _ _ _, (HJ.go (by repeat (first | exact Below.refl _ _ | apply Below.drew | apply below_drewN | apply below_al))).out.1⟩)).mono ?_; rintro e w8 ⟨rfl, hb⟩; replace HJ := HJ.go2 (by repeat (first | exact Below.refl _ _ | apply Below.drew | apply below_drewN | apply below_al)) hb; clear hb)
      go_ret
      exact ⟨rfl, P2.b ⟨P2.kept _ _ _ _ _ _ _ _ _, (HJ.go (by repeat (first | exact Below.refl _ _ | apply Below.drew | apply below_drewN | apply below_al))).out.1⟩⟩
end Go.Proofs.YtofmngfmoagenaaDoor

