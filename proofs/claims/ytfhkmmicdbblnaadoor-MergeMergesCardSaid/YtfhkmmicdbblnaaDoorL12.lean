/-
  The walk of the merger's same: a stable line that begins a piece.
-/
import Derived.Test.YtfhkmmicdbblnaaDoorM11
import Derived.Test.YtfhkmmicdbblnaaDoorO1
import Derived.Deep.RegionWith
import Derived.Deep.DeepCutAuto
namespace Go.Proofs.YtfhkmmicdbblnaaDoor
set_option linter.unusedSimpArgs false
set_option linter.unusedVariables false
open Go.RowKit

set_option maxHeartbeats 8000000 in
set_option maxRecDepth 100000 in
theorem same_no (W : World) (TA : Option Addr) (tc : Nat) (O A B : List ByteArray) (f1 f2 f3 : Nat) (v : Value) (ps : List (Pc ByteArray)) (w : World) (hm : MB w W.heap.size (.slice TA 3 tc) [f1, f2, f3] v) (hp : PS w (W.heap.size + 1) v ps) (hb : Below W.heap.size W w) (ht : RF W TA tc 1 ([O, A, B].map lnF))
    (b1 : f1 < O.length) (b2 : f2 < A.length) (b3 : f3 < B.length) (n1 : O.length ≤ 1000) (n2 : A.length ≤ 1000) (n3 : B.length ≤ 1000) (hl : ps.length ≤ 100000) :
    Calls Tryd.prog 38 #[.pointer (some ⟨W.heap.size, 0, none⟩), .bool false] w (RetM W (.slice TA 3 tc) [f1 + 1, f2 + 1, f3 + 1] (ps ++ [⟨1, seg O f1 (f1 + 1), seg A f2 (f2 + 1), seg B f3 (f3 + 1)⟩])) := by
  obtain ⟨_, m0, m1, m4, mf, ml⟩ := id hm
  have y0 := m1 0 _ rfl
  have y1 := m1 1 _ rfl
  have y2 := m1 2 _ rfl
  rw [Nat.add_zero] at y0
  have hB1 := hb.size
  have HTK := Lib.hid (fun W' hm ht => take_any W.heap.size TA tc O A B f1 f2 f3 (f1 + 1) (f2 + 1) (f3 + 1) v W' hm ht (by omega) (by omega) (by omega) (by omega) (by omega) (by omega) n1 n2 n3)
  unfold RetK at HTK
  have HM := Lib.hid hm
  have HP := Lib.hid hp
  have HB := Lib.hid hb
  have HT := Lib.hid ht
  have HL := Lib.hid hl
  have g1 : (f1 : Int) ≤ 1000 := by omega
  have g2 : (f2 : Int) ≤ 1000 := by omega
  have g3 : (f3 : Int) ≤ 1000 := by omega
  clear hm hp hb ht m1 m4 hl hB1
  have HLN1 : Hid ((seg O f1 (f1 + 1)).length ≤ 1000) := Lib.hid (by rw [seg_len (by omega)]; omega)
  have HLN2 : Hid ((seg A f2 (f2 + 1)).length ≤ 1000) := Lib.hid (by rw [seg_len (by omega)]; omega)
  have HLN3 : Hid ((seg B f3 (f3 + 1)).length ≤ 1000) := Lib.hid (by rw [seg_len (by omega)]; omega)
  generalize seg O f1 (f1 + 1) = l1 at *
  generalize seg A f2 (f2 + 1) = l2 at *
  generalize seg B f3 (f3 + 1) = l3 at *
  generalize he1 : f1 + 1 = e1 at *
  generalize he2 : f2 + 1 = e2 at *
  generalize he3 : f3 + 1 = e3 at *
  have hw1 : IntKind.i64.wrap ((f1 : Int) + 1) = (e1 : Int) := by rw [← he1]; exact (IntWalk.i64_in _ (by omega))
  have hw2 : IntKind.i64.wrap ((f2 : Int) + 1) = (e2 : Int) := by rw [← he2]; exact (IntWalk.i64_in _ (by omega))
  have hw3 : IntKind.i64.wrap ((f3 : Int) + 1) = (e3 : Int) := by rw [← he3]; exact (IntWalk.i64_in _ (by omega))
  clear he1 he2 he3
  go_enter Tryd.func38, Tryd.ntmps38
  go_wp2_with fail
  go_upto_region 0 with fail
  go_cut [4] (fun s4 wx => ∃ (g : Nat) (C1 : Option Addr) (c1 : Nat) (C2 : Option Addr) (c2 : Nat) (C3 : Option Addr) (c3 : Nat), s4 = .pointer (some ⟨g, 0, none⟩) ∧ Hid (SM w W.heap.size (.slice TA 3 tc) v [e1, e2, e3] g 0 (.slice C1 l1.length c1) (.slice C2 l2.length c2) (.slice C3 l3.length c3) l1 l2 l3 wx))
  case first =>
    have hlt1 : W.heap.size < w.heap.size + 1 := by omega
    have HS : w.drew.cell? ⟨W.heap.size, 1, none⟩ = some (.int .i64 (f1 : Int)) ∧ w.drew.cell? ⟨W.heap.size, 1 + 1, none⟩ = some (.int .i64 (f2 : Int)) ∧ w.drew.cell? ⟨W.heap.size, 1 + 2, none⟩ = some (.int .i64 (f3 : Int)) := ⟨y0, y1, y2⟩
    refine wp_region_wpH (S := fun w' => w'.cell? ⟨W.heap.size, 1, none⟩ = some (.int .i64 (f1 : Int)) ∧ w'.cell? ⟨W.heap.size, 1 + 1, none⟩ = some (.int .i64 (f2 : Int)) ∧ w'.cell? ⟨W.heap.size, 1 + 2, none⟩ = some (.int .i64 (f3 : Int))) (c := 20) (by kernel_rfl) ?_
    refine wpH_take2 (i := 0) (v := ?_) [20] 6 rfl rfl (by kernel_rfl) (by kernel_rfl) (by kernel_rfl) (by kernel_rfl) (by kernel_rfl) (fun _ _ _ h => h) (Or.inl ⟨by rfl, ?y0⟩) HS ?r0
    case y0 =>
      intro w' hSw
      obtain ⟨s1, s2, s3⟩ := hSw
      go_simp
      with_reducible rfl
    try simp only [Act.put, List.setIfInBounds_toArray, List.set_cons_zero, List.set_cons_succ]
    refine wpH_take2 (i := 1) (v := ?_) [2, 3, 4, 5, 6, 19, 20] 7 rfl rfl (by kernel_rfl) (by kernel_rfl) (by kernel_rfl) (by kernel_rfl) (by kernel_rfl) (fun _ _ _ h => h) (Or.inl ⟨by rfl, ?y1⟩) HS ?r1
    case y1 =>
      intro w' hSw
      obtain ⟨s1, s2, s3⟩ := hSw
      go_simp
      with_reducible rfl
    try simp only [Act.put, List.setIfInBounds_toArray, List.set_cons_zero, List.set_cons_succ]
    refine wpH_take2 (i := 2) (v := ?_) [3, 4, 5, 6, 19, 20] 8 rfl rfl (by kernel_rfl) (by kernel_rfl) (by kernel_rfl) (by kernel_rfl) (by kernel_rfl) (fun _ _ _ h => h) (Or.inl ⟨by rfl, ?y2⟩) HS ?r2
    case y2 =>
      intro w' hSw
      obtain ⟨s1, s2, s3⟩ := hSw
      go_simp
      with_reducible rfl
    try simp only [Act.put, List.setIfInBounds_toArray, List.set_cons_zero, List.set_cons_succ]
    refine wpH_take2 (i := 3) (v := ?_) [4, 5, 6, 19, 20] 9 rfl rfl (by kernel_rfl) (by kernel_rfl) (by kernel_rfl) (by kernel_rfl) (by kernel_rfl) (fun _ _ _ h => h) (Or.inl ⟨by rfl, ?y3⟩) HS ?r3
    case y3 =>
      intro w' hSw
      obtain ⟨s1, s2, s3⟩ := hSw
      go_simp
      with_reducible rfl
    try simp only [Act.put, List.setIfInBounds_toArray, List.set_cons_zero, List.set_cons_succ]
    refine wpH_take2 (i := 4) (v := ?_) [5, 6, 19, 20] 10 rfl rfl (by kernel_rfl) (by kernel_rfl) (by kernel_rfl) (by kernel_rfl) (by kernel_rfl) (fun _ _ _ h => h) (Or.inl ⟨by rfl, ?y4⟩) HS ?r4
    case y4 =>
      intro w' hSw
      obtain ⟨s1, s2, s3⟩ := hSw
      go_simp
      with_reducible rfl
    try simp only [Act.put, List.setIfInBounds_toArray, List.set_cons_zero, List.set_cons_succ]
    refine wpH_take2 (i := 5) (v := ?_) [6, 19, 20] 11 rfl rfl (by kernel_rfl) (by kernel_rfl) (by kernel_rfl) (by kernel_rfl) (by kernel_rfl) (fun _ _ _ h => h) (Or.inl ⟨by rfl, ?y5⟩) HS ?r5
    case y5 =>
      intro w' hSw
      obtain ⟨s1, s2, s3⟩ := hSw
      go_simp
      with_reducible rfl
    try simp only [Act.put, List.setIfInBounds_toArray, List.set_cons_zero, List.set_cons_succ]
    refine wpH_take2 (i := 6) (v := ?_) [19, 20] 12 rfl rfl (by kernel_rfl) (by kernel_rfl) (by kernel_rfl) (by kernel_rfl) (by kernel_rfl) (fun _ _ _ h => h) (Or.inl ⟨by rfl, ?y6⟩) HS ?r6
    case y6 =>
      intro w' hSw
      obtain ⟨s1, s2, s3⟩ := hSw
      go_simp
      with_reducible rfl
    try simp only [Act.put, List.setIfInBounds_toArray, List.set_cons_zero, List.set_cons_succ]
    refine wpH_take2 (i := 7) (v := ?_) [8, 9, 10, 11, 12, 19, 20] 13 rfl rfl (by kernel_rfl) (by kernel_rfl) (by kernel_rfl) (by kernel_rfl) (by kernel_rfl) (fun _ _ _ h => h) (Or.inl ⟨by rfl, ?y7⟩) HS ?r7
    case y7 =>
      intro w' hSw
      obtain ⟨s1, s2, s3⟩ := hSw
      go_simp
      with_reducible rfl
    try simp only [Act.put, List.setIfInBounds_toArray, List.set_cons_zero, List.set_cons_succ]
    refine wpH_take2 (i := 8) (v := ?_) [9, 10, 11, 12, 19, 20] 14 rfl rfl (by kernel_rfl) (by kernel_rfl) (by kernel_rfl) (by kernel_rfl) (by kernel_rfl) (fun _ _ _ h => h) (Or.inl ⟨by rfl, ?y8⟩) HS ?r8
    case y8 =>
      intro w' hSw
      obtain ⟨s1, s2, s3⟩ := hSw
      go_simp
      with_reducible rfl
    try simp only [Act.put, List.setIfInBounds_toArray, List.set_cons_zero, List.set_cons_succ]
    refine wpH_take2 (i := 9) (v := ?_) [10, 11, 12, 19, 20] 15 rfl rfl (by kernel_rfl) (by kernel_rfl) (by kernel_rfl) (by kernel_rfl) (by kernel_rfl) (fun _ _ _ h => h) (Or.inl ⟨by rfl, ?y9⟩) HS ?r9
    case y9 =>
      intro w' hSw
      obtain ⟨s1, s2, s3⟩ := hSw
      go_simp
      with_reducible rfl
    try simp only [Act.put, List.setIfInBounds_toArray, List.set_cons_zero, List.set_cons_succ]
    refine wpH_take2 (i := 10) (v := ?_) [11, 12, 19, 20] 16 rfl rfl (by kernel_rfl) (by kernel_rfl) (by kernel_rfl) (by kernel_rfl) (by kernel_rfl) (fun _ _ _ h => h) (Or.inl ⟨by rfl, ?y10⟩) HS ?r10
    case y10 =>
      intro w' hSw
      obtain ⟨s1, s2, s3⟩ := hSw
      go_simp
      with_reducible rfl
    try simp only [Act.put, List.setIfInBounds_toArray, List.set_cons_zero, List.set_cons_succ]
    refine wpH_take2 (i := 11) (v := ?_) [12, 19, 20] 17 rfl rfl (by kernel_rfl) (by kernel_rfl) (by kernel_rfl) (by kernel_rfl) (by kernel_rfl) (fun _ _ _ h => h) (Or.inl ⟨by rfl, ?y11⟩) HS ?r11
    case y11 =>
      intro w' hSw
      obtain ⟨s1, s2, s3⟩ := hSw
      go_simp
      with_reducible rfl
    try simp only [Act.put, List.setIfInBounds_toArray, List.set_cons_zero, List.set_cons_succ]
    refine wpH_take2 (i := 12) (v := ?_) [19, 20] 18 rfl rfl (by kernel_rfl) (by kernel_rfl) (by kernel_rfl) (by kernel_rfl) (by kernel_rfl) (fun _ _ _ h => h) (Or.inl ⟨by rfl, ?y12⟩) HS ?r12
    case y12 =>
      intro w' hSw
      obtain ⟨s1, s2, s3⟩ := hSw
      go_simp
      with_reducible rfl
    try simp only [Act.put, List.setIfInBounds_toArray, List.set_cons_zero, List.set_cons_succ]
    refine wpH_take2 (i := 13) (v := ?_) [14, 15, 16, 17, 18, 19, 20] 19 rfl rfl (by kernel_rfl) (by kernel_rfl) (by kernel_rfl) (by kernel_rfl) (by kernel_rfl) (fun _ _ _ h => h) (Or.inl ⟨by rfl, ?y13⟩) HS ?r13
    case y13 =>
      intro w' hSw
      obtain ⟨s1, s2, s3⟩ := hSw
      go_simp
      with_reducible rfl
    try simp only [Act.put, List.setIfInBounds_toArray, List.set_cons_zero, List.set_cons_succ]
    refine wpH_take2 (i := 14) (v := ?_) [15, 16, 17, 18, 19, 20] 20 rfl rfl (by kernel_rfl) (by kernel_rfl) (by kernel_rfl) (by kernel_rfl) (by kernel_rfl) (fun _ _ _ h => h) (Or.inl ⟨by rfl, ?y14⟩) HS ?r14
    case y14 =>
      intro w' hSw
      obtain ⟨s1, s2, s3⟩ := hSw
      go_simp
      with_reducible rfl
    try simp only [Act.put, List.setIfInBounds_toArray, List.set_cons_zero, List.set_cons_succ]
    refine wpH_take2 (i := 15) (v := ?_) [16, 17, 18, 19, 20] 21 rfl rfl (by kernel_rfl) (by kernel_rfl) (by kernel_rfl) (by kernel_rfl) (by kernel_rfl) (fun _ _ _ h => h) (Or.inl ⟨by rfl, ?y15⟩) HS ?r15
    case y15 =>
      intro w' hSw
      obtain ⟨s1, s2, s3⟩ := hSw
      go_simp
      with_reducible rfl
    try simp only [Act.put, List.setIfInBounds_toArray, List.set_cons_zero, List.set_cons_succ]
    refine wpH_take2 (i := 16) (v := ?_) [17, 18, 19, 20] 22 rfl rfl (by kernel_rfl) (by kernel_rfl) (by kernel_rfl) (by kernel_rfl) (by kernel_rfl) (fun _ _ _ h => h) (Or.inl ⟨by rfl, ?y16⟩) HS ?r16
    case y16 =>
      intro w' hSw
      obtain ⟨s1, s2, s3⟩ := hSw
      go_simp
      with_reducible rfl
    try simp only [Act.put, List.setIfInBounds_toArray, List.set_cons_zero, List.set_cons_succ]
    refine wpH_take2 (i := 17) (v := ?_) [18, 19, 20] 23 rfl rfl (by kernel_rfl) (by kernel_rfl) (by kernel_rfl) (by kernel_rfl) (by kernel_rfl) (fun _ _ _ h => h) (Or.inl ⟨by rfl, ?y17⟩) HS ?r17
    case y17 =>
      intro w' hSw
      obtain ⟨s1, s2, s3⟩ := hSw
      go_simp
      with_reducible rfl
    try simp only [Act.put, List.setIfInBounds_toArray, List.set_cons_zero, List.set_cons_succ]
    refine wpH_take2 (i := 18) (v := ?_) [19, 20] 24 rfl rfl (by kernel_rfl) (by kernel_rfl) (by kernel_rfl) (by kernel_rfl) (by kernel_rfl) (fun _ _ _ h => h) (Or.inl ⟨by rfl, ?y18⟩) HS ?r18
    case y18 =>
      intro w' hSw
      obtain ⟨s1, s2, s3⟩ := hSw
      go_simp
      with_reducible rfl
    try simp only [Act.put, List.setIfInBounds_toArray, List.set_cons_zero, List.set_cons_succ]
    refine wpH_take2 (i := 19) (v := ?_) [20] 25 rfl rfl (by kernel_rfl) (by kernel_rfl) (by kernel_rfl) (by kernel_rfl) (by kernel_rfl) (fun _ _ _ h => h) (Or.inl ⟨by rfl, ?y19⟩) HS ?r19
    case y19 =>
      intro w' hSw
      obtain ⟨s1, s2, s3⟩ := hSw
      go_simp
      with_reducible rfl
    try simp only [Act.put, List.setIfInBounds_toArray, List.set_cons_zero, List.set_cons_succ]
    refine wpH_all (rs := [20, 21]) (by kernel_rfl) (by simp) ?_
    intro i hi
    have hi2 : i = 20 ∨ i = 21 := by simpa using hi
    clear hi
    rcases hi2 with rfl | rfl
    · refine wpOp_step rfl (fun K hK => ?_)
      go_simp
      refine (HTK.out _ (HM.out.below (by repeat (first | exact Below.refl _ _ | apply Below.drew | apply below_drewN | apply below_al))) (HT.out.below (go3 HB.out (by repeat (first | exact Below.refl _ _ | apply Below.drew | apply below_drewN | apply below_al))))).mono ?_
      rintro e w2 ⟨C1, c1, C2, c2, C3, c3, rfl, o1, o2, o3, d12, d13, d23, hmb, hg⟩
      have HG2 := Lib.hid (gb_trans (gb_below (World.grownBy.refl w _) (by repeat (first | exact Below.refl _ _ | apply Below.drew | apply below_drewN | apply below_al))) hg)
      have HMB2 := Lib.hid hmb
      have HO := Lib.hid (And.intro o1 (And.intro o2 o3))
      have HD := Lib.hid (And.intro d12 (And.intro d13 d23))
      clear o1 o2 o3 d12 d13 d23 hmb hg
      refine hK _ _ ?_
      rw [if_pos rfl]
      refine wpAny_all (rs := [21]) (by kernel_rfl) (by simp) ?_
      intro i hi
      obtain rfl : i = 21 := by simpa using hi
      refine wpOp_step rfl (fun K2 hK2 => ?_)
      go_simp
      refine hK2 _ _ ?_
      refine wpAny_all (rs := [22]) (by kernel_rfl) (by simp) ?_
      intro i hi
      obtain rfl : i = 22 := by simpa using hi
      refine wpOp_step rfl (fun K3 hK3 => ?_)
      go_simp
      refine hK3 _ _ ?_
      refine wpAny_done (by kernel_rfl) ?_ _
      go_wp2_with fail
      go_meet
      exact ⟨_, C1, c1, C2, c2, C3, c3, rfl, Lib.hid (SM.late HG2.out HMB2.out ⟨HO.out.1.baseN (by simp), HO.out.2.1.baseN (by simp), HO.out.2.2.baseN (by simp)⟩ HD.out ml (by repeat (first | exact Below.refl _ _ | apply Below.drew | apply below_drewN | apply below_al)) (by rfl) _)⟩
    · refine wpOp_step rfl (fun K hK => ?_)
      go_simp
      refine hK _ _ ?_
      rw [if_neg (by decide)]
      refine ⟨⟨by simp [World.cell?_alloc_lt, ml, y0], by simp [World.cell?_alloc_lt, ml, y1], by simp [World.cell?_alloc_lt, ml, y2]⟩, ?_⟩
      refine wpH_all (rs := [20]) (by kernel_rfl) (by simp) ?_
      intro i hi
      obtain rfl : i = 20 := by simpa using hi
      refine wpOp_step rfl (fun K2 hK2 => ?_)
      go_simp
      refine (HTK.out _ (HM.out.below (by repeat (first | exact Below.refl _ _ | apply Below.drew | apply below_drewN | apply below_al))) (HT.out.below (go3 HB.out (by repeat (first | exact Below.refl _ _ | apply Below.drew | apply below_drewN | apply below_al))))).mono ?_
      rintro e w2 ⟨C1, c1, C2, c2, C3, c3, rfl, o1, o2, o3, d12, d13, d23, hmb, hg⟩
      have HG2 := Lib.hid (gb_trans (gb_below (World.grownBy.refl w _) (by repeat (first | exact Below.refl _ _ | apply Below.drew | apply below_drewN | apply below_al))) hg)
      have HMB2 := Lib.hid hmb
      have HO := Lib.hid (And.intro o1 (And.intro o2 o3))
      have HD := Lib.hid (And.intro d12 (And.intro d13 d23))
      have HBX : Hid (BX w2 w.heap.size [.int .i64 0, .slice none 0 0, .slice none 0 0, .slice none 0 0]) := Lib.hid (((BX.new w [.int .i64 0, .slice none 0 0, .slice none 0 0, .slice none 0 0] 81 rfl).below (by repeat (first | exact Below.refl _ _ | apply Below.drew | apply below_drewN | apply below_al))).grown hg (by intro e; have := Option.some.inj e; omega))
      have q0 := HBX.out.1 0 _ rfl
      have q1 := HBX.out.1 1 _ rfl
      have q2 := HBX.out.1 2 _ rfl
      have q3 := HBX.out.1 3 _ rfl
      have qf := HBX.out.2.1
      clear o1 o2 o3 d12 d13 d23 hmb hg
      refine hK2 _ _ ?_
      rw [if_pos rfl]
      refine wpAny_all (rs := [22]) (by kernel_rfl) (by simp) ?_
      intro i hi
      obtain rfl : i = 22 := by simpa using hi
      refine wpOp_step rfl (fun K3 hK3 => ?_)
      go_simp
      refine hK3 _ _ ?_
      refine wpAny_done (by kernel_rfl) ?_ _
      go_wp2_with fail
      go_meet
      exact ⟨_, C1, c1, C2, c2, C3, c3, rfl, Lib.hid (SM.early HG2.out HMB2.out HBX.out rfl HO.out (by simp) (by simp) HD.out ml (Nat.le_refl _) (by repeat (first | exact Below.refl _ _ | apply Below.drew | apply below_drewN | apply below_al)))⟩
  case rest =>
    obtain ⟨g, C1, c1, C2, c2, C3, c3, rfl, HSM⟩ := hcut
    clear HTK hw1 hw2 hw3 y0 y1 y2 mf m0 g1 g2 g3
    have p0 := HSM.out.2.2.1.1 0 _ rfl
    have pf := HSM.out.2.2.1.2.1
    go_wp2_with fail
    obtain ⟨wE, hwE⟩ : ∃ wE : World, wE = wc.setCell ⟨g, 0, none⟩ (.int .i64 1) := ⟨_, rfl⟩
    have hS2 : SM w W.heap.size (.slice TA 3 tc) v [e1, e2, e3] g 1 (.slice C1 l1.length c1) (.slice C2 l2.length c2) (.slice C3 l3.length c3) l1 l2 l3 wE := by rw [hwE]; exact HSM.out.kind 1
    rw [← hwE]
    have HI3 : At (fun w' => SM w W.heap.size (.slice TA 3 tc) v [e1, e2, e3] g 1 (.slice C1 l1.length c1) (.slice C2 l2.length c2) (.slice C3 l3.length c3) l1 l2 l3 w' ∧ PZ w' w.heap.size (W.heap.size + 1) v ps ∧ Below W.heap.size W w' ∧ w.heap.size ≤ w'.heap.size) wE := ⟨fun X Y h hb => ⟨h.1.below hb, h.2.1.below hb, go3 h.2.2.1 hb, Nat.le_trans h.2.2.2 hb.size⟩, hS2, HP.out.still.grown hS2.1 (fun j e => by cases e; exact Nat.lt_succ_self _), below_gbM HB.out hS2.1, hS2.1.size⟩
    have p0' := hS2.2.2.1.1 0 _ rfl
    have p1' := hS2.2.2.1.1 1 _ rfl
    have p2' := hS2.2.2.1.1 2 _ rfl
    have p3' := hS2.2.2.1.1 3 _ rfl
    have q4 := hS2.2.1.2.2.2.1
    have qf := hS2.2.1.2.2.2.2.1
    have hWE : W.heap.size < wE.heap.size := hS2.2.1.2.2.2.2.2
    have hPE : g < wE.heap.size := hS2.2.2.1.2.2
    clear hwE hS2 HSM p0 pf
    go_region_law (refine step_append_chunk rfl _ _ rfl w.heap.size (W.heap.size + 1) v ps ⟨1, l1, l2, l3⟩ (.slice C1 l1.length c1) (.slice C2 l2.length c2) (.slice C3 l3.length c3) _ 1 rfl rfl (HI3.go (by repeat (first | exact Below.refl _ _ | apply Below.drew | apply below_drewN | apply below_al))).out.2.1 (HI3.go (by repeat (first | exact Below.refl _ _ | apply Below.drew | apply below_drewN | apply below_al))).out.1.2.2.2.1.1 (HI3.go (by repeat (first | exact Below.refl _ _ | apply Below.drew | apply below_drewN | apply below_al))).out.1.2.2.2.1.2.1 (HI3.go (by repeat (first | exact Below.refl _ _ | apply Below.drew | apply below_drewN | apply below_al))).out.1.2.2.2.1.2.2 (HI3.go (by repeat (first | exact Below.refl _ _ | apply Below.drew | apply below_drewN | apply below_al))).out.1.2.2.2.2.2.1.1 (HI3.go (by repeat (first | exact Below.refl _ _ | apply Below.drew | apply below_drewN | apply below_al))).out.1.2.2.2.2.2.1.2.1 (HI3.go (by repeat (first | exact Below.refl _ _ | apply Below.drew | apply below_drewN | apply below_al))).out.1.2.2.2.2.2.1.2.2 (by omega) (HI3.go (by repeat (first | exact Below.refl _ _ | apply Below.drew | apply below_drewN | apply below_al))).out.2.2.2 (cells_new _ [_, _, _, _] _ rfl) rfl rfl rfl (by have := HL.out; omega) ?_; intro v7 w7 hps hg hown; obtain ⟨A7, n7, c7, hv7⟩ := hps.shape; subst hv7; have HPS := Lib.hid hps; have HMB := Lib.hid ((HI3.go (by repeat (first | exact Below.refl _ _ | apply Below.drew | apply below_drewN | apply below_al))).out.1.2.1.grown hg (fun e => by have := hown _ e; omega)); have HB7 := Lib.hid ((HI3.go (by repeat (first | exact Below.refl _ _ | apply Below.drew | apply below_drewN | apply below_al))).out.2.2.1.grown hg (HI3.go (by repeat (first | exact Below.refl _ _ | apply Below.drew | apply below_drewN | apply below_al))).out.2.2.1.size (fun k e => by have := hown _ e; omega)); have qv := HMB.out.2.2.2.1; have qg := HMB.out.2.2.2.2.1 4; clear hps hg hown)
    all_goals
      go_wp2_with fail
      go_end0
      refine ⟨rfl, .slice A7 n7 c7, ?_, ?_, ?_⟩
      · exact (HMB.out.setv _).below (by repeat (first | exact Below.refl _ _ | apply Below.drew | apply below_drewN | apply below_al))
      · exact (HPS.out.set (p := ⟨W.heap.size, 4, none⟩) (by simp) _).below (by repeat (first | exact Below.refl _ _ | apply Below.drew | apply below_drewN | apply below_al))
      · exact go3 (HB7.out.setCell (p := ⟨W.heap.size, 4, none⟩) (Nat.le_refl _) _) (by repeat (first | exact Below.refl _ _ | apply Below.drew | apply below_drewN | apply below_al))
end Go.Proofs.YtfhkmmicdbblnaaDoor

