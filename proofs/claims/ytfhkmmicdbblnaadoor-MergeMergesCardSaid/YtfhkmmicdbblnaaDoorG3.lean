/-
  The walk of the law's pieces.
-/
import Derived.Test.YtfhkmmicdbblnaaDoorG2
namespace Go.Proofs.YtfhkmmicdbblnaaDoor
set_option linter.unusedSimpArgs false
set_option linter.unusedVariables false
open Go.RowKit

theorem below_two2 (w : World) (x y : Obj) : Below w.heap.size w ((w.alloc x).alloc y) := (below_alloc w x).alloc (below_alloc w x).size y
set_option maxHeartbeats 2000000 in
set_option maxRecDepth 100000 in
theorem pieces_any (A B : Option Addr) (c d : Nat) (ps : List (Pc ByteArray)) (w : World) (h : RF w A c 4 (ps.map pcF)) (k : RF w B d 4 (ps.map pcF)) :
    Calls Tryd.prog 20 #[.slice A ps.length c, .slice B ps.length d] w fun e w' => e = .returned (.bool true) ∧ Below w.heap.size w w' := by
  have h1 := h.1
  have h2 := h.2.1
  have k1 := k.1
  have k2 := k.2.1
  rw [List.length_map] at h1 k1
  have HR := Lib.hid h
  have KR := Lib.hid k
  have b2 : (((ps.length : Int)) != ((ps.length : Int))) = false := by simp
  clear h k
  go_enter Tryd.func20, Tryd.ntmps20
  go_wp2_with fail
  clear b2
  go_loopw [15] (fun i wr => ∃ k : Nat, k ≤ ps.length ∧ i = .int .i64 k ∧ Hid (Below w.heap.size w wr)) (fun i _ => ps.length - (intOf i).toNat)
  case atStart => exact ⟨0, by omega, rfl, Lib.hid (Below.refl _ _)⟩
  case round =>
    obtain ⟨k, hk, rfl, HB⟩ := hrel
    have hbs := HB.out.size
    by_cases hlt : k < ps.length
    · obtain ⟨⟨kd, O, P, Q⟩, hx⟩ : ∃ x, ps[k]? = some x := ⟨_, List.getElem?_eq_getElem hlt⟩
      obtain ⟨g, og, C1, n1, C2, n2, C3, n3, rfl, hb1, x0, x1, x2, x3, r1, r2, r3⟩ := (HR.out.below HB.out).piece hx
      obtain ⟨g', og', D1, m1, D2, m2, D3, m3, rfl, hb2, y0, y1, y2, y3, s1, s2, s3⟩ := (KR.out.below HB.out).piece hx
      simp only at x0 x1 x2 x3 r1 r2 r3 y0 y1 y2 y3 s1 s2 s3
      have HE1 := Lib.hid (fun W (h : Below wr.heap.size wr W) => eqT_is (decide_eq_true (rfl : O = O)) W (r1.below h) (s1.below h))
      have HE2 := Lib.hid (fun W (h : Below wr.heap.size wr W) => eqT_is (decide_eq_true (rfl : P = P)) W (r2.below h) (s2.below h))
      have HE3 := Lib.hid (fun W (h : Below wr.heap.size wr W) => eqT_is (decide_eq_true (rfl : Q = Q)) W (r3.below h) (s3.below h))
      have b3 : ((kd : Int) != kd) = false := by simp
      have HXB := Lib.hid ((BX.new wr [.int .i64 kd, .slice C1 O.length n1, .slice C2 P.length n2, .slice C3 Q.length n3] 81 rfl).below (below_alloc _ (.cells #[.int .i64 kd, .slice D1 O.length m1, .slice D2 P.length m2, .slice D3 Q.length m3] 81)))
      have HYB := Lib.hid (BX.new (wr.alloc (.cells #[.int .i64 kd, .slice C1 O.length n1, .slice C2 P.length n2, .slice C3 Q.length n3] 81)) [.int .i64 kd, .slice D1 O.length m1, .slice D2 P.length m2, .slice D3 Q.length m3] 81 (g := wr.heap.size + 1) (by simp))
      have HBT := Lib.hid (below_two2 wr (.cells #[.int .i64 kd, .slice C1 O.length n1, .slice C2 P.length n2, .slice C3 Q.length n3] 81) (.cells #[.int .i64 kd, .slice D1 O.length m1, .slice D2 P.length m2, .slice D3 Q.length m3] 81))
      clear hx r1 r2 r3 s1 s2 s3
      go_wp2_with (first
        | (go_at_call_of 13 (Value.slice C1 O.length n1); refine (HE1.out _ HBT.out).mono ?_; rintro e w3 ⟨rfl, hb⟩; have HB3 := Lib.hid (go3 HBT.out hb); have z2 := (HXB.out.below hb).1 2 _ rfl; have z3 := (HXB.out.below hb).1 3 _ rfl; have t2 := (HYB.out.below hb).1 2 _ rfl; have t3 := (HYB.out.below hb).1 3 _ rfl; clear hb)
        | (go_at_call_of 13 (Value.slice C2 P.length n2); refine (HE2.out _ HB3.out).mono ?_; rintro e w4 ⟨rfl, hb⟩; have HB4 := Lib.hid (go3 HB3.out hb); have z3' := (hb.cell (p := ⟨wr.heap.size, 3, none⟩) (cell_lt z3)).trans z3; have t3' := (hb.cell (p := ⟨wr.heap.size + 1, 3, none⟩) (cell_lt t3)).trans t3; clear hb)
        | (go_at_call_of 13 (Value.slice C3 Q.length n3); refine (HE3.out _ HB4.out).mono ?_; rintro e w5 ⟨rfl, hb⟩; have HB5 := Lib.hid (go3 HB4.out hb); clear hb))
      go_roundw
      case rel => exact ⟨k + 1, by omega, by go_num, Lib.hid (go3 HB.out HB5.out)⟩
      case measure => simp [intOf]; omega
    · obtain rfl : k = ps.length := by omega
      go_wp2_with fail
      go_ret
      exact ⟨rfl, HB.out⟩
end Go.Proofs.YtfhkmmicdbblnaaDoor

