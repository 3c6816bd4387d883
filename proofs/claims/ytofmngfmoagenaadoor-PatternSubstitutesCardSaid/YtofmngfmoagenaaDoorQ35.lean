/-
  The walk of the reference's Substitute: the errors ahead of its work.
-/
import Derived.Test.YtofmngfmoagenaaDoorQ34
namespace Go.Proofs.YtofmngfmoagenaaDoor
set_option linter.unusedSimpArgs false
set_option linter.unusedVariables false
open Go.RowKit
open Pm

set_option maxHeartbeats 1000000 in
theorem rsub_chk (A B : Option Addr) (c d : Nat) (xs : List ByteArray) (bs : List (List ByteArray × Bool)) (r : Bool) (w : World) (h : RT w A c xs) (k : BT w B d bs)
    (hsx : ∀ x ∈ xs, x.size ≤ 9223372036854775807) (hn : checkP xs r ≠ 0) :
    Calls Tryd.prog 40 #[.agg #[.slice A xs.length c, .bool r], .slice B bs.length d] w (RetP w [] false (checkP xs r)) := by
  have HI := PS.enter h k r 25
  have HK := Lib.hid (fun W (h : RT W A c xs) => rcheck_any A c xs r W h hsx)
  have HWC := Lib.hid True.intro
  have hnB : (checkP xs r != 0) = true := by rw [bne_iff_ne]; exact hn
  have hx1 := h.1
  have hx2 := h.2.1
  have hy1 := k.1
  have hy2 := k.2.1
  generalize checkP xs r = n at *
  clear h k hsx hn
  go_enter Tryd.func40, Tryd.ntmps40
  go_wp2_with (go_at_call 28; refine (HK.out _ (PS.x (HI.go (by repeat (first | exact Below.refl _ _ | apply Below.drew | apply below_drewN | apply below_al))))).mono ?_; rintro e w1 ⟨rfl, hb⟩; replace HI := HI.go2 (by repeat (first | exact Below.refl _ _ | apply Below.drew | apply below_drewN | apply below_al)) hb; clear hb; obtain ⟨⟨p1, p2, p3, p4, p5⟩, ⟨r1, r2, r3, r4, r5⟩⟩ := PS.cells HI)
  refine bodyPost_ret (v := .tuple #[.agg #[.slice none 0 0, .bool false], .int .i64 n]) (by simp [results, Tryd.results40, go_sem, r1, r2, r3, r4]) rfl ⟨none, 0, rfl, RT.nil _ _ _ (by omega), ?_⟩
  exact below_box (PS.b HI) (by omega) _ _
set_option maxHeartbeats 1000000 in
theorem rsub_len (A B : Option Addr) (c d : Nat) (xs : List ByteArray) (bs : List (List ByteArray × Bool)) (r : Bool) (w : World) (h : RT w A c xs) (k : BT w B d bs)
    (hsx : ∀ x ∈ xs, x.size ≤ 9223372036854775807) (hn : checkP xs r = 0) (hl : bs.length ≠ wildB stB xs r) :
    Calls Tryd.prog 40 #[.agg #[.slice A xs.length c, .bool r], .slice B bs.length d] w (RetP w [] false 33) := by
  have HI := PS.enter h k r 25
  have hx12 := (check_zero hn).2.1
  have HK := Lib.hid (fun W (h : RT W A c xs) => rcheck_any A c xs r W h hsx)
  have HWC := Lib.hid (fun W (h : RT W A c xs) => rwild_any A c xs r W h hsx (by omega))
  rw [wild_agree (parts_all (check_zero hn).2.2)] at HWC
  rw [hn] at HK
  have hx1 := h.1
  have hx2 := h.2.1
  have hy1 := k.1
  have hy2 := k.2.1
  generalize wildB stB xs r = st at *
  clear h k hsx hn
  have hl2 : ¬ (bs.length : Int) = (st : Int) := by omega
  have hl3 : ((bs.length : Int) != (st : Int)) = true := by rw [bne_iff_ne]; exact hl2
  have hl4 : ((bs.length : Int) == (st : Int)) = false := by rw [beq_eq_false_iff_ne]; exact hl2
  clear hl hl2
  go_enter Tryd.func40, Tryd.ntmps40
  go_wp2_with (first
    | (go_at_call 28; refine (HK.out _ (PS.x (HI.go (by repeat (first | exact Below.refl _ _ | apply Below.drew | apply below_drewN | apply below_al))))).mono ?_; rintro e w1 ⟨rfl, hb⟩; replace HI := HI.go2 (by repeat (first | exact Below.refl _ _ | apply Below.drew | apply below_drewN | apply below_al)) hb; clear hb; obtain ⟨⟨p1, p2, p3, p4, p5⟩, ⟨r1, r2, r3, r4, r5⟩⟩ := PS.cells HI)
    | (go_at_call 64; refine (HWC.out _ (PS.x (HI.go (by repeat (first | exact Below.refl _ _ | apply Below.drew | apply below_drewN | apply below_al))))).mono ?_; rintro e w2 ⟨rfl, hb⟩; replace HI := HI.go2 (by repeat (first | exact Below.refl _ _ | apply Below.drew | apply below_drewN | apply below_al)) hb; clear hb; obtain ⟨⟨p1, p2, p3, p4, p5⟩, ⟨r1, r2, r3, r4, r5⟩⟩ := PS.cells HI))
  refine bodyPost_ret (v := .tuple #[.agg #[.slice none 0 0, .bool false], .int .i64 33]) (by simp [results, Tryd.results40, go_sem, r1, r2, r3, r4]) rfl ⟨none, 0, rfl, RT.nil _ _ _ (by omega), ?_⟩
  exact below_box (PS.b HI) (by omega) _ _
end Go.Proofs.YtofmngfmoagenaaDoor

