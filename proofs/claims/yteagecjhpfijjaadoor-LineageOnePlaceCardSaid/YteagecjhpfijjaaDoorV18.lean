/-
  The walk of the reference's record: some truth value comes back.
-/
import Derived.Test.YteagecjhpfijjaaDoorV18d4
namespace Go.Proofs.YteagecjhpfijjaaDoor
set_option linter.unusedSimpArgs false
set_option linter.unusedVariables false
open Go.RowKit

set_option maxHeartbeats 60000000 in
set_option maxRecDepth 100000 in
theorem record_any (A B : Option Addr) (c m d : Nat) (rs : List Rv) (n : Int) (S T : ByteArray) (C D : Option Addr) (ce dr : Nat) (es : List Ed) (rcs : List Rc) (i : Nat) (x : Rc) (w : World) (h : RV w A c rs) (k : EV w C ce es) (q : RC w D dr rcs) (hm : ML w) (hx : rcs[i]? = some x)
    (hsh : ∀ r ∈ rcs, shortC r) (hrl : rs.length ≤ 100000) (hel : es.length ≤ 100000) (hcl : rcs.length ≤ 100000) (hr : ∀ u ∈ rs, nearN u.num) (he : ∀ y ∈ es, nearN y.base ∧ nearN (y.base + 1)) :
    Calls Tryd.prog 52 #[.agg #[.slice A rs.length c, .slice B m d], .agg #[.int .i64 n, .string S, .string T, .slice C es.length ce, .slice D rcs.length dr], .int .i64 i] w (RetQ w) := by
  have HR := Lib.hid h
  have HE := Lib.hid k
  have HC := Lib.hid q
  have HM := Lib.hid hm
  have HRN := Lib.hid hr
  have HEN := Lib.hid he
  have HX := Lib.hid hx
  have HSH := Lib.hid hsh
  have q1 := q.1
  have q2 := q.2.1
  rw [List.length_map] at q1
  have hil := (List.getElem?_eq_some_iff.1 hx).1
  have hilI : (i : Int) < (rcs.length : Int) := by omega
  obtain ⟨b, o', e0, hb1, y0, y1, y2, y3, y4, y5⟩ := (q.below (below_two w (.cells #[.slice A rs.length c, .slice B m d] 28) (.cells #[.int .i64 n, .string S, .string T, .slice C es.length ce, .slice D rcs.length dr] 52))).at_ hx
  have HS : At (BB w [(w.heap.size, [.slice A rs.length c, .slice B m d]), (w.heap.size + 1, [.int .i64 n, .string S, .string T, .slice C es.length ce, .slice D rcs.length dr]), (w.heap.size + 1 + 1, recV x)]) (((w.alloc (.cells #[.slice A rs.length c, .slice B m d] 28)).alloc (.cells #[.int .i64 n, .string S, .string T, .slice C es.length ce, .slice D rcs.length dr] 52)).alloc (.cells (recV x).toArray 71)) :=
    ((((BB.nil w).push [.slice A rs.length c, .slice B m d] 28 rfl).push [.int .i64 n, .string S, .string T, .slice C es.length ce, .slice D rcs.length dr] 52 (g := w.heap.size + 1) (by simp)).push (recV x) 71 (g := w.heap.size + 1 + 1) (by simp)).at_
  have HPV : Hid (0 < i → ∃ y, rcs[i - 1]? = some y ∧ shortC y) := Lib.hid (fun h0 => ⟨_, List.getElem?_eq_getElem (by omega), hsh _ (List.getElem_mem _)⟩)
  have HSX := Lib.hid (hsh x (List.mem_of_getElem? hx))
  clear h k q hm hr he hx hsh
  subst e0
  obtain ⟨d0, d1⟩ := (HS.go (by repeat (first | exact Below.refl _ _ | apply Below.drew | apply below_drewN | apply below_al))).out.get 0 rfl |>.c2
  obtain ⟨k0, k1, k2, k3, k4⟩ := (HS.go (by repeat (first | exact Below.refl _ _ | apply Below.drew | apply below_drewN | apply below_al))).out.get 1 rfl |>.c5
  obtain ⟨x0, x1, x2, x3, x4, x5⟩ := (HS.go (by repeat (first | exact Below.refl _ _ | apply Below.drew | apply below_drewN | apply below_al))).out.get 2 rfl |>.rc
  go_enter Tryd.func52, Tryd.ntmps52
  go_upto_region 2 with (fail)
  go_cut [52] (fun s52 wx => ∃ t : Bool, s52 = .bool t ∧ At (BB w [(w.heap.size, [.slice A rs.length c, .slice B m d]), (w.heap.size + 1, [.int .i64 n, .string S, .string T, .slice C es.length ce, .slice (some ⟨b, o', none⟩) rcs.length dr]), (w.heap.size + 1 + 1, recV x)]) wx)
  case first =>
   as_aux_lemma =>
    by_cases h0 : 0 < i
    · obtain ⟨y, hy, hys⟩ := HPV.out h0
      have HY : At (fun w' => AtC w' b (o' + (i - 1) * 6) y ∧ b < w'.heap.size) (((w.alloc (.cells #[.slice A rs.length c, .slice B m d] 28)).alloc (.cells #[.int .i64 n, .string S, .string T, .slice C es.length ce, .slice (some ⟨b, o', none⟩) rcs.length dr] 52)).alloc (.cells (recV x).toArray 71)) := ⟨fun X Y h hb => ⟨⟨(hb.cell (p := ⟨b, _, none⟩) h.2).trans h.1.1, (hb.cell (p := ⟨b, _, none⟩) h.2).trans h.1.2.1, (hb.cell (p := ⟨b, _, none⟩) h.2).trans h.1.2.2.1, (hb.cell (p := ⟨b, _, none⟩) h.2).trans h.1.2.2.2.1, (hb.cell (p := ⟨b, _, none⟩) h.2).trans h.1.2.2.2.2.1, (hb.cell (p := ⟨b, _, none⟩) h.2).trans h.1.2.2.2.2.2⟩, Nat.lt_of_lt_of_le h.2 hb.size⟩, by
        obtain ⟨b2, o2, e2, c0, c1⟩ := (HC.out.below HS.out.low).at_ hy
        cases e2
        exact ⟨c1, c0⟩⟩
      have HBF := Lib.hid (fun W h => beforeB_any y x W hys HSX.out h)
      unfold aggC at HBF
      have hd : decide (0 < i) = true := decide_eq_true h0
      have hw1 : IntKind.i64.wrap ((i : Int) - 1) = (i : Int) - 1 := IntWalk.i64_in _ (by omega)
      have hw2 : 0 ≤ (i : Int) - 1 := by omega
      have hw2' : 1 ≤ (i : Int) := by omega
      have hw3 : ((i : Int) - 1).toNat = i - 1 := by omega
      have hw4 : i - 1 < rcs.length := by omega
      have hw6 : (i : Int) - 1 < (rcs.length : Int) := by omega
      have hw7 : (i : Int) < (rcs.length : Int) + 1 := by omega
      clear hy hys
      cases hbf : befB y x with
      | false =>
        rw [hbf] at HBF
        clear hbf
        refine wp_region_held_drew (S := fun w' => w'.cell? ⟨w.heap.size + 1, 4, none⟩ = some (.slice (some ⟨b, o', none⟩) rcs.length dr) ∧ w'.cell? ⟨b, o' + (i - 1) * 6, none⟩ = some (.string y.frm) ∧ w'.cell? ⟨b, o' + (i - 1) * 6 + 1, none⟩ = some (.int .i64 y.fst) ∧ w'.cell? ⟨b, o' + (i - 1) * 6 + 2, none⟩ = some (.int .i64 y.lst) ∧ w'.cell? ⟨b, o' + (i - 1) * 6 + 3, none⟩ = some (.string y.dst) ∧ w'.cell? ⟨b, o' + (i - 1) * 6 + 4, none⟩ = some (.int .i64 y.num) ∧ w'.cell? ⟨b, o' + (i - 1) * 6 + 5, none⟩ = some (.int .i64 y.how) ∧ w'.cell? ⟨w.heap.size + 1 + 1, 0, none⟩ = some (.string x.frm) ∧ w'.cell? ⟨w.heap.size + 1 + 1, 1, none⟩ = some (.int .i64 x.fst) ∧ w'.cell? ⟨w.heap.size + 1 + 1, 2, none⟩ = some (.int .i64 x.lst) ∧ w'.cell? ⟨w.heap.size + 1 + 1, 3, none⟩ = some (.string x.dst) ∧ w'.cell? ⟨w.heap.size + 1 + 1, 4, none⟩ = some (.int .i64 x.num) ∧ w'.cell? ⟨w.heap.size + 1 + 1, 5, none⟩ = some (.int .i64 x.how)) (by kernel_rfl) ?hs0 (fun hHeld => ?_)
        case hs0 => exact rec_prev ((HS.go (by repeat (first | exact Below.refl _ _ | apply Below.drew | apply below_drewN | apply below_al))).out.get 1 rfl |>.c5).2.2.2.2 (HY.go (by repeat (first | exact Below.refl _ _ | apply Below.drew | apply below_drewN | apply below_al))).out.1 ((HS.go (by repeat (first | exact Below.refl _ _ | apply Below.drew | apply below_drewN | apply below_al))).out.get 2 rfl |>.rc)
        refine takeH (i := 0) (v := ?_) 30 rfl rfl (by kernel_rfl) (by kernel_rfl) (by kernel_rfl) (fun _ _ _ h => h) (Or.inl ⟨by rfl, ?y0⟩) hHeld ?_
        case y0 =>
          intro w' hSw
          try dsimp only at hSw
          go_simp <;> with_reducible rfl
        try simp only [Act.put, List.setIfInBounds_toArray, List.set_cons_zero, List.set_cons_succ]
        refine takeH (i := 1) (v := ?_) 31 rfl rfl (by kernel_rfl) (by kernel_rfl) (by kernel_rfl) (fun _ _ _ h => h) (Or.inl ⟨by rfl, ?y1⟩) hHeld ?_
        case y1 =>
          intro w' hSw
          try dsimp only at hSw
          go_simp <;> with_reducible rfl
        try simp only [Act.put, List.setIfInBounds_toArray, List.set_cons_zero, List.set_cons_succ]
        refine takeH (i := 2) (v := ?_) 32 rfl rfl (by kernel_rfl) (by kernel_rfl) (by kernel_rfl) (fun _ _ _ h => h) (Or.inl ⟨by rfl, ?y2⟩) hHeld ?_
        case y2 =>
          intro w' hSw
          try dsimp only at hSw
          go_simp <;> with_reducible rfl
        try simp only [Act.put, List.setIfInBounds_toArray, List.set_cons_zero, List.set_cons_succ]
        refine takeH (i := 3) (v := ?_) 33 rfl rfl (by kernel_rfl) (by kernel_rfl) (by kernel_rfl) (fun _ _ _ h => h) (Or.inl ⟨by rfl, ?y3⟩) hHeld ?_
        case y3 =>
          intro w' hSw
          try dsimp only at hSw
          go_simp <;> with_reducible rfl
        try simp only [Act.put, List.setIfInBounds_toArray, List.set_cons_zero, List.set_cons_succ]
        refine takeH (i := 4) (v := ?_) 34 rfl rfl (by kernel_rfl) (by kernel_rfl) (by kernel_rfl) (fun _ _ _ h => h) (Or.inl ⟨by rfl, ?y4⟩) hHeld ?_
        case y4 =>
          intro w' hSw
          try dsimp only at hSw
          go_simp <;> with_reducible rfl
        try simp only [Act.put, List.setIfInBounds_toArray, List.set_cons_zero, List.set_cons_succ]
        refine takeH (i := 5) (v := ?_) 35 rfl rfl (by kernel_rfl) (by kernel_rfl) (by kernel_rfl) (fun _ _ _ h => h) (Or.inl ⟨by rfl, ?y5⟩) hHeld ?_
        case y5 =>
          intro w' hSw
          try dsimp only at hSw
          go_simp <;> with_reducible rfl
        try simp only [Act.put, List.setIfInBounds_toArray, List.set_cons_zero, List.set_cons_succ]
        refine takeH (i := 6) (v := ?_) 36 rfl rfl (by kernel_rfl) (by kernel_rfl) (by kernel_rfl) (fun _ _ _ h => h) (Or.inl ⟨by rfl, ?y6⟩) hHeld ?_
        case y6 =>
          intro w' hSw
          try dsimp only at hSw
          go_simp <;> with_reducible rfl
        try simp only [Act.put, List.setIfInBounds_toArray, List.set_cons_zero, List.set_cons_succ]
        refine takeH (i := 7) (v := ?_) 37 rfl rfl (by kernel_rfl) (by kernel_rfl) (by kernel_rfl) (fun _ _ _ h => h) (Or.inl ⟨by rfl, ?y7⟩) hHeld ?_
        case y7 =>
          intro w' hSw
          try dsimp only at hSw
          go_simp <;> with_reducible rfl
        try simp only [Act.put, List.setIfInBounds_toArray, List.set_cons_zero, List.set_cons_succ]
        refine takeH (i := 8) (v := ?_) 38 rfl rfl (by kernel_rfl) (by kernel_rfl) (by kernel_rfl) (fun _ _ _ h => h) (Or.inl ⟨by rfl, ?y8⟩) hHeld ?_
        case y8 =>
          intro w' hSw
          try dsimp only at hSw
          go_simp <;> with_reducible rfl
        try simp only [Act.put, List.setIfInBounds_toArray, List.set_cons_zero, List.set_cons_succ]
        refine takeH (i := 9) (v := ?_) 39 rfl rfl (by kernel_rfl) (by kernel_rfl) (by kernel_rfl) (fun _ _ _ h => h) (Or.inl ⟨by rfl, ?y9⟩) hHeld ?_
        case y9 =>
          intro w' hSw
          try dsimp only at hSw
          go_simp <;> with_reducible rfl
        try simp only [Act.put, List.setIfInBounds_toArray, List.set_cons_zero, List.set_cons_succ]
        refine wpAnyH_ready (rs := [10]) (by kernel_rfl) (by simp) ?_
        refine AllReadyH.cons rfl (fun K hK => ?_) AllReadyH.nil
        go_simp
        refine (HBF.out _ (HM.out.below (HS.go (by repeat (first | exact Below.refl _ _ | apply Below.drew | apply below_drewN | apply below_al))).out.low)).mono ?_
        rintro e wm ⟨rfl, hb⟩
        replace HS := HS.go2 (by repeat (first | exact Below.refl _ _ | apply Below.drew | apply below_drewN | apply below_al)) hb
        replace HY := HY.go2 (by repeat (first | exact Below.refl _ _ | apply Below.drew | apply below_drewN | apply below_al)) hb
        clear hb hHeld
        refine hK.out _ _ ?hs1 (fun hHeld => ?_)
        case hs1 => exact rec_prev ((HS.go (by repeat (first | exact Below.refl _ _ | apply Below.drew | apply below_drewN | apply below_al))).out.get 1 rfl |>.c5).2.2.2.2 (HY.go (by repeat (first | exact Below.refl _ _ | apply Below.drew | apply below_drewN | apply below_al))).out.1 ((HS.go (by repeat (first | exact Below.refl _ _ | apply Below.drew | apply below_drewN | apply below_al))).out.get 2 rfl |>.rc)
        clear hK K
        try simp only [Act.put, List.setIfInBounds_toArray, List.set_cons_zero, List.set_cons_succ]
        refine takeH (i := 11) (v := ?_) 41 rfl rfl (by kernel_rfl) (by kernel_rfl) (by kernel_rfl) (fun _ _ _ h => h) (Or.inl ⟨by rfl, ?y11⟩) hHeld ?_
        case y11 =>
          intro w' hSw
          try dsimp only at hSw
          go_simp <;> with_reducible rfl
        try simp only [Act.put, List.setIfInBounds_toArray, List.set_cons_zero, List.set_cons_succ]
        refine takeH (i := 12) (v := ?_) 42 rfl rfl (by kernel_rfl) (by kernel_rfl) (by kernel_rfl) (fun _ _ _ h => h) (Or.inl ⟨by rfl, ?y12⟩) hHeld ?_
        case y12 =>
          intro w' hSw
          try dsimp only at hSw
          go_simp <;> with_reducible rfl
        try simp only [Act.put, List.setIfInBounds_toArray, List.set_cons_zero, List.set_cons_succ]
        refine takeH (i := 13) (v := ?_) 43 rfl rfl (by kernel_rfl) (by kernel_rfl) (by kernel_rfl) (fun _ _ _ h => h) (Or.inl ⟨by rfl, ?y13⟩) hHeld ?_
        case y13 =>
          intro w' hSw
          try dsimp only at hSw
          go_simp <;> with_reducible rfl
        try simp only [Act.put, List.setIfInBounds_toArray, List.set_cons_zero, List.set_cons_succ]
        refine takeH (i := 14) (v := undef) 44 rfl rfl (by kernel_rfl) (by kernel_rfl) (by kernel_rfl) (fun _ _ _ h => h) (Or.inr ⟨by rfl, rfl⟩) hHeld ?_
        try simp only [Act.put, List.setIfInBounds_toArray, List.set_cons_zero, List.set_cons_succ]
        refine takeH (i := 15) (v := undef) 45 rfl rfl (by kernel_rfl) (by kernel_rfl) (by kernel_rfl) (fun _ _ _ h => h) (Or.inr ⟨by rfl, rfl⟩) hHeld ?_
        try simp only [Act.put, List.setIfInBounds_toArray, List.set_cons_zero, List.set_cons_succ]
        refine takeH (i := 16) (v := undef) 46 rfl rfl (by kernel_rfl) (by kernel_rfl) (by kernel_rfl) (fun _ _ _ h => h) (Or.inr ⟨by rfl, rfl⟩) hHeld ?_
        try simp only [Act.put, List.setIfInBounds_toArray, List.set_cons_zero, List.set_cons_succ]
        refine takeH (i := 17) (v := ?_) 47 rfl rfl (by kernel_rfl) (by kernel_rfl) (by kernel_rfl) (fun _ _ _ h => h) (Or.inl ⟨by rfl, ?y17⟩) hHeld ?_
        case y17 =>
          intro w' hSw
          try dsimp only at hSw
          go_simp <;> with_reducible rfl
        try simp only [Act.put, List.setIfInBounds_toArray, List.set_cons_zero, List.set_cons_succ]
        refine takeH (i := 18) (v := ?_) 48 rfl rfl (by kernel_rfl) (by kernel_rfl) (by kernel_rfl) (fun _ _ _ h => h) (Or.inl ⟨by rfl, ?y18⟩) hHeld ?_
        case y18 =>
          intro w' hSw
          try dsimp only at hSw
          go_simp <;> with_reducible rfl
        try simp only [Act.put, List.setIfInBounds_toArray, List.set_cons_zero, List.set_cons_succ]
        refine takeH (i := 19) (v := undef) 49 rfl rfl (by kernel_rfl) (by kernel_rfl) (by kernel_rfl) (fun _ _ _ h => h) (Or.inr ⟨by rfl, rfl⟩) hHeld ?_
        try simp only [Act.put, List.setIfInBounds_toArray, List.set_cons_zero, List.set_cons_succ]
        refine takeH (i := 20) (v := undef) 50 rfl rfl (by kernel_rfl) (by kernel_rfl) (by kernel_rfl) (fun _ _ _ h => h) (Or.inr ⟨by rfl, rfl⟩) hHeld ?_
        try simp only [Act.put, List.setIfInBounds_toArray, List.set_cons_zero, List.set_cons_succ]
        refine takeH (i := 21) (v := undef) 51 rfl rfl (by kernel_rfl) (by kernel_rfl) (by kernel_rfl) (fun _ _ _ h => h) (Or.inr ⟨by rfl, rfl⟩) hHeld ?_
        try simp only [Act.put, List.setIfInBounds_toArray, List.set_cons_zero, List.set_cons_succ]
        refine takeH (i := 22) (v := ?_) 52 rfl rfl (by kernel_rfl) (by kernel_rfl) (by kernel_rfl) (fun _ _ _ h => h) (Or.inl ⟨by rfl, ?y22⟩) hHeld ?_
        case y22 =>
          intro w' hSw
          try dsimp only at hSw
          go_simp <;> with_reducible rfl
        try simp only [Act.put, List.setIfInBounds_toArray, List.set_cons_zero, List.set_cons_succ]
        refine wpAnyH_done (by kernel_rfl) ?_ _
        all_goals
          go_wp2_with fail
          go_meet
          exact ⟨_, rfl, (HS.go (by repeat (first | exact Below.refl _ _ | apply Below.drew | apply below_drewN | apply below_al)))⟩
      | true =>
        rw [hbf] at HBF
        clear hbf
        by_cases p1 : x.how < 1
        ·
          refine wp_region_held_drew (S := fun w' => w'.cell? ⟨w.heap.size + 1, 4, none⟩ = some (.slice (some ⟨b, o', none⟩) rcs.length dr) ∧ w'.cell? ⟨b, o' + (i - 1) * 6, none⟩ = some (.string y.frm) ∧ w'.cell? ⟨b, o' + (i - 1) * 6 + 1, none⟩ = some (.int .i64 y.fst) ∧ w'.cell? ⟨b, o' + (i - 1) * 6 + 2, none⟩ = some (.int .i64 y.lst) ∧ w'.cell? ⟨b, o' + (i - 1) * 6 + 3, none⟩ = some (.string y.dst) ∧ w'.cell? ⟨b, o' + (i - 1) * 6 + 4, none⟩ = some (.int .i64 y.num) ∧ w'.cell? ⟨b, o' + (i - 1) * 6 + 5, none⟩ = some (.int .i64 y.how) ∧ w'.cell? ⟨w.heap.size + 1 + 1, 0, none⟩ = some (.string x.frm) ∧ w'.cell? ⟨w.heap.size + 1 + 1, 1, none⟩ = some (.int .i64 x.fst) ∧ w'.cell? ⟨w.heap.size + 1 + 1, 2, none⟩ = some (.int .i64 x.lst) ∧ w'.cell? ⟨w.heap.size + 1 + 1, 3, none⟩ = some (.string x.dst) ∧ w'.cell? ⟨w.heap.size + 1 + 1, 4, none⟩ = some (.int .i64 x.num) ∧ w'.cell? ⟨w.heap.size + 1 + 1, 5, none⟩ = some (.int .i64 x.how)) (by kernel_rfl) ?hs0 (fun hHeld => ?_)
          case hs0 => exact rec_prev ((HS.go (by repeat (first | exact Below.refl _ _ | apply Below.drew | apply below_drewN | apply below_al))).out.get 1 rfl |>.c5).2.2.2.2 (HY.go (by repeat (first | exact Below.refl _ _ | apply Below.drew | apply below_drewN | apply below_al))).out.1 ((HS.go (by repeat (first | exact Below.refl _ _ | apply Below.drew | apply below_drewN | apply below_al))).out.get 2 rfl |>.rc)
          refine takeH (i := 0) (v := ?_) 30 rfl rfl (by kernel_rfl) (by kernel_rfl) (by kernel_rfl) (fun _ _ _ h => h) (Or.inl ⟨by rfl, ?y0⟩) hHeld ?_
          case y0 =>
            intro w' hSw
            try dsimp only at hSw
            go_simp <;> with_reducible rfl
          try simp only [Act.put, List.setIfInBounds_toArray, List.set_cons_zero, List.set_cons_succ]
          refine takeH (i := 1) (v := ?_) 31 rfl rfl (by kernel_rfl) (by kernel_rfl) (by kernel_rfl) (fun _ _ _ h => h) (Or.inl ⟨by rfl, ?y1⟩) hHeld ?_
          case y1 =>
            intro w' hSw
            try dsimp only at hSw
            go_simp <;> with_reducible rfl
          try simp only [Act.put, List.setIfInBounds_toArray, List.set_cons_zero, List.set_cons_succ]
          refine takeH (i := 2) (v := ?_) 32 rfl rfl (by kernel_rfl) (by kernel_rfl) (by kernel_rfl) (fun _ _ _ h => h) (Or.inl ⟨by rfl, ?y2⟩) hHeld ?_
          case y2 =>
            intro w' hSw
            try dsimp only at hSw
            go_simp <;> with_reducible rfl
          try simp only [Act.put, List.setIfInBounds_toArray, List.set_cons_zero, List.set_cons_succ]
          refine takeH (i := 3) (v := ?_) 33 rfl rfl (by kernel_rfl) (by kernel_rfl) (by kernel_rfl) (fun _ _ _ h => h) (Or.inl ⟨by rfl, ?y3⟩) hHeld ?_
          case y3 =>
            intro w' hSw
            try dsimp only at hSw
            go_simp <;> with_reducible rfl
          try simp only [Act.put, List.setIfInBounds_toArray, List.set_cons_zero, List.set_cons_succ]
          refine takeH (i := 4) (v := ?_) 34 rfl rfl (by kernel_rfl) (by kernel_rfl) (by kernel_rfl) (fun _ _ _ h => h) (Or.inl ⟨by rfl, ?y4⟩) hHeld ?_
          case y4 =>
            intro w' hSw
            try dsimp only at hSw
            go_simp <;> with_reducible rfl
          try simp only [Act.put, List.setIfInBounds_toArray, List.set_cons_zero, List.set_cons_succ]
          refine takeH (i := 5) (v := ?_) 35 rfl rfl (by kernel_rfl) (by kernel_rfl) (by kernel_rfl) (fun _ _ _ h => h) (Or.inl ⟨by rfl, ?y5⟩) hHeld ?_
          case y5 =>
            intro w' hSw
            try dsimp only at hSw
            go_simp <;> with_reducible rfl
          try simp only [Act.put, List.setIfInBounds_toArray, List.set_cons_zero, List.set_cons_succ]
          refine takeH (i := 6) (v := ?_) 36 rfl rfl (by kernel_rfl) (by kernel_rfl) (by kernel_rfl) (fun _ _ _ h => h) (Or.inl ⟨by rfl, ?y6⟩) hHeld ?_
          case y6 =>
            intro w' hSw
            try dsimp only at hSw
            go_simp <;> with_reducible rfl
          try simp only [Act.put, List.setIfInBounds_toArray, List.set_cons_zero, List.set_cons_succ]
          refine takeH (i := 7) (v := ?_) 37 rfl rfl (by kernel_rfl) (by kernel_rfl) (by kernel_rfl) (fun _ _ _ h => h) (Or.inl ⟨by rfl, ?y7⟩) hHeld ?_
          case y7 =>
            intro w' hSw
            try dsimp only at hSw
            go_simp <;> with_reducible rfl
          try simp only [Act.put, List.setIfInBounds_toArray, List.set_cons_zero, List.set_cons_succ]
          refine takeH (i := 8) (v := ?_) 38 rfl rfl (by kernel_rfl) (by kernel_rfl) (by kernel_rfl) (fun _ _ _ h => h) (Or.inl ⟨by rfl, ?y8⟩) hHeld ?_
          case y8 =>
            intro w' hSw
            try dsimp only at hSw
            go_simp <;> with_reducible rfl
          try simp only [Act.put, List.setIfInBounds_toArray, List.set_cons_zero, List.set_cons_succ]
          refine takeH (i := 9) (v := ?_) 39 rfl rfl (by kernel_rfl) (by kernel_rfl) (by kernel_rfl) (fun _ _ _ h => h) (Or.inl ⟨by rfl, ?y9⟩) hHeld ?_
          case y9 =>
            intro w' hSw
            try dsimp only at hSw
            go_simp <;> with_reducible rfl
          try simp only [Act.put, List.setIfInBounds_toArray, List.set_cons_zero, List.set_cons_succ]
          refine wpAnyH_ready (rs := [10]) (by kernel_rfl) (by simp) ?_
          refine AllReadyH.cons rfl (fun K hK => ?_) AllReadyH.nil
          go_simp
          refine (HBF.out _ (HM.out.below (HS.go (by repeat (first | exact Below.refl _ _ | apply Below.drew | apply below_drewN | apply below_al))).out.low)).mono ?_
          rintro e wm ⟨rfl, hb⟩
          replace HS := HS.go2 (by repeat (first | exact Below.refl _ _ | apply Below.drew | apply below_drewN | apply below_al)) hb
          replace HY := HY.go2 (by repeat (first | exact Below.refl _ _ | apply Below.drew | apply below_drewN | apply below_al)) hb
          clear hb hHeld
          refine hK.out _ _ ?hs1 (fun hHeld => ?_)
          case hs1 => exact rec_prev ((HS.go (by repeat (first | exact Below.refl _ _ | apply Below.drew | apply below_drewN | apply below_al))).out.get 1 rfl |>.c5).2.2.2.2 (HY.go (by repeat (first | exact Below.refl _ _ | apply Below.drew | apply below_drewN | apply below_al))).out.1 ((HS.go (by repeat (first | exact Below.refl _ _ | apply Below.drew | apply below_drewN | apply below_al))).out.get 2 rfl |>.rc)
          clear hK K
          try simp only [Act.put, List.setIfInBounds_toArray, List.set_cons_zero, List.set_cons_succ]
          refine takeH (i := 11) (v := ?_) 41 rfl rfl (by kernel_rfl) (by kernel_rfl) (by kernel_rfl) (fun _ _ _ h => h) (Or.inl ⟨by rfl, ?y11⟩) hHeld ?_
          case y11 =>
            intro w' hSw
            try dsimp only at hSw
            go_simp <;> with_reducible rfl
          try simp only [Act.put, List.setIfInBounds_toArray, List.set_cons_zero, List.set_cons_succ]
          refine takeH (i := 12) (v := ?_) 42 rfl rfl (by kernel_rfl) (by kernel_rfl) (by kernel_rfl) (fun _ _ _ h => h) (Or.inl ⟨by rfl, ?y12⟩) hHeld ?_
          case y12 =>
            intro w' hSw
            try dsimp only at hSw
            go_simp <;> with_reducible rfl
          try simp only [Act.put, List.setIfInBounds_toArray, List.set_cons_zero, List.set_cons_succ]
          refine takeH (i := 13) (v := ?_) 43 rfl rfl (by kernel_rfl) (by kernel_rfl) (by kernel_rfl) (fun _ _ _ h => h) (Or.inl ⟨by rfl, ?y13⟩) hHeld ?_
          case y13 =>
            intro w' hSw
            try dsimp only at hSw
            go_simp <;> with_reducible rfl
          try simp only [Act.put, List.setIfInBounds_toArray, List.set_cons_zero, List.set_cons_succ]
          refine takeH (i := 14) (v := ?_) 44 rfl rfl (by kernel_rfl) (by kernel_rfl) (by kernel_rfl) (fun _ _ _ h => h) (Or.inl ⟨by rfl, ?y14⟩) hHeld ?_
          case y14 =>
            intro w' hSw
            try dsimp only at hSw
            go_simp <;> with_reducible rfl
          try simp only [Act.put, List.setIfInBounds_toArray, List.set_cons_zero, List.set_cons_succ]
          refine takeH (i := 15) (v := ?_) 45 rfl rfl (by kernel_rfl) (by kernel_rfl) (by kernel_rfl) (fun _ _ _ h => h) (Or.inl ⟨by rfl, ?y15⟩) hHeld ?_
          case y15 =>
            intro w' hSw
            try dsimp only at hSw
            go_simp <;> with_reducible rfl
          try simp only [Act.put, List.setIfInBounds_toArray, List.set_cons_zero, List.set_cons_succ]
          refine takeH (i := 16) (v := ?_) 46 rfl rfl (by kernel_rfl) (by kernel_rfl) (by kernel_rfl) (fun _ _ _ h => h) (Or.inl ⟨by rfl, ?y16⟩) hHeld ?_
          case y16 =>
            intro w' hSw
            try dsimp only at hSw
            go_simp <;> with_reducible rfl
          try simp only [Act.put, List.setIfInBounds_toArray, List.set_cons_zero, List.set_cons_succ]
          refine takeH (i := 17) (v := ?_) 47 rfl rfl (by kernel_rfl) (by kernel_rfl) (by kernel_rfl) (fun _ _ _ h => h) (Or.inl ⟨by rfl, ?y17⟩) hHeld ?_
          case y17 =>
            intro w' hSw
            try dsimp only at hSw
            go_simp <;> with_reducible rfl
          try simp only [Act.put, List.setIfInBounds_toArray, List.set_cons_zero, List.set_cons_succ]
          refine takeH (i := 18) (v := ?_) 48 rfl rfl (by kernel_rfl) (by kernel_rfl) (by kernel_rfl) (fun _ _ _ h => h) (Or.inl ⟨by rfl, ?y18⟩) hHeld ?_
          case y18 =>
            intro w' hSw
            try dsimp only at hSw
            go_simp <;> with_reducible rfl
          try simp only [Act.put, List.setIfInBounds_toArray, List.set_cons_zero, List.set_cons_succ]
          refine takeH (i := 19) (v := undef) 49 rfl rfl (by kernel_rfl) (by kernel_rfl) (by kernel_rfl) (fun _ _ _ h => h) (Or.inr ⟨by rfl, rfl⟩) hHeld ?_
          try simp only [Act.put, List.setIfInBounds_toArray, List.set_cons_zero, List.set_cons_succ]
          refine takeH (i := 20) (v := undef) 50 rfl rfl (by kernel_rfl) (by kernel_rfl) (by kernel_rfl) (fun _ _ _ h => h) (Or.inr ⟨by rfl, rfl⟩) hHeld ?_
          try simp only [Act.put, List.setIfInBounds_toArray, List.set_cons_zero, List.set_cons_succ]
          refine takeH (i := 21) (v := undef) 51 rfl rfl (by kernel_rfl) (by kernel_rfl) (by kernel_rfl) (fun _ _ _ h => h) (Or.inr ⟨by rfl, rfl⟩) hHeld ?_
          try simp only [Act.put, List.setIfInBounds_toArray, List.set_cons_zero, List.set_cons_succ]
          refine takeH (i := 22) (v := ?_) 52 rfl rfl (by kernel_rfl) (by kernel_rfl) (by kernel_rfl) (fun _ _ _ h => h) (Or.inl ⟨by rfl, ?y22⟩) hHeld ?_
          case y22 =>
            intro w' hSw
            try dsimp only at hSw
            go_simp <;> with_reducible rfl
          try simp only [Act.put, List.setIfInBounds_toArray, List.set_cons_zero, List.set_cons_succ]
          refine wpAnyH_done (by kernel_rfl) ?_ _
          all_goals
            go_wp2_with fail
            go_meet
            exact ⟨_, rfl, (HS.go (by repeat (first | exact Below.refl _ _ | apply Below.drew | apply below_drewN | apply below_al)))⟩
        · by_cases p2 : 4 < x.how
          ·
            refine wp_region_held_drew (S := fun w' => w'.cell? ⟨w.heap.size + 1, 4, none⟩ = some (.slice (some ⟨b, o', none⟩) rcs.length dr) ∧ w'.cell? ⟨b, o' + (i - 1) * 6, none⟩ = some (.string y.frm) ∧ w'.cell? ⟨b, o' + (i - 1) * 6 + 1, none⟩ = some (.int .i64 y.fst) ∧ w'.cell? ⟨b, o' + (i - 1) * 6 + 2, none⟩ = some (.int .i64 y.lst) ∧ w'.cell? ⟨b, o' + (i - 1) * 6 + 3, none⟩ = some (.string y.dst) ∧ w'.cell? ⟨b, o' + (i - 1) * 6 + 4, none⟩ = some (.int .i64 y.num) ∧ w'.cell? ⟨b, o' + (i - 1) * 6 + 5, none⟩ = some (.int .i64 y.how) ∧ w'.cell? ⟨w.heap.size + 1 + 1, 0, none⟩ = some (.string x.frm) ∧ w'.cell? ⟨w.heap.size + 1 + 1, 1, none⟩ = some (.int .i64 x.fst) ∧ w'.cell? ⟨w.heap.size + 1 + 1, 2, none⟩ = some (.int .i64 x.lst) ∧ w'.cell? ⟨w.heap.size + 1 + 1, 3, none⟩ = some (.string x.dst) ∧ w'.cell? ⟨w.heap.size + 1 + 1, 4, none⟩ = some (.int .i64 x.num) ∧ w'.cell? ⟨w.heap.size + 1 + 1, 5, none⟩ = some (.int .i64 x.how)) (by kernel_rfl) ?hs0 (fun hHeld => ?_)
            case hs0 => exact rec_prev ((HS.go (by repeat (first | exact Below.refl _ _ | apply Below.drew | apply below_drewN | apply below_al))).out.get 1 rfl |>.c5).2.2.2.2 (HY.go (by repeat (first | exact Below.refl _ _ | apply Below.drew | apply below_drewN | apply below_al))).out.1 ((HS.go (by repeat (first | exact Below.refl _ _ | apply Below.drew | apply below_drewN | apply below_al))).out.get 2 rfl |>.rc)
            refine takeH (i := 0) (v := ?_) 30 rfl rfl (by kernel_rfl) (by kernel_rfl) (by kernel_rfl) (fun _ _ _ h => h) (Or.inl ⟨by rfl, ?y0⟩) hHeld ?_
            case y0 =>
              intro w' hSw
              try dsimp only at hSw
              go_simp <;> with_reducible rfl
            try simp only [Act.put, List.setIfInBounds_toArray, List.set_cons_zero, List.set_cons_succ]
            refine takeH (i := 1) (v := ?_) 31 rfl rfl (by kernel_rfl) (by kernel_rfl) (by kernel_rfl) (fun _ _ _ h => h) (Or.inl ⟨by rfl, ?y1⟩) hHeld ?_
            case y1 =>
              intro w' hSw
              try dsimp only at hSw
              go_simp <;> with_reducible rfl
            try simp only [Act.put, List.setIfInBounds_toArray, List.set_cons_zero, List.set_cons_succ]
            refine takeH (i := 2) (v := ?_) 32 rfl rfl (by kernel_rfl) (by kernel_rfl) (by kernel_rfl) (fun _ _ _ h => h) (Or.inl ⟨by rfl, ?y2⟩) hHeld ?_
            case y2 =>
              intro w' hSw
              try dsimp only at hSw
              go_simp <;> with_reducible rfl
            try simp only [Act.put, List.setIfInBounds_toArray, List.set_cons_zero, List.set_cons_succ]
            refine takeH (i := 3) (v := ?_) 33 rfl rfl (by kernel_rfl) (by kernel_rfl) (by kernel_rfl) (fun _ _ _ h => h) (Or.inl ⟨by rfl, ?y3⟩) hHeld ?_
            case y3 =>
              intro w' hSw
              try dsimp only at hSw
              go_simp <;> with_reducible rfl
            try simp only [Act.put, List.setIfInBounds_toArray, List.set_cons_zero, List.set_cons_succ]
            refine takeH (i := 4) (v := ?_) 34 rfl rfl (by kernel_rfl) (by kernel_rfl) (by kernel_rfl) (fun _ _ _ h => h) (Or.inl ⟨by rfl, ?y4⟩) hHeld ?_
            case y4 =>
              intro w' hSw
              try dsimp only at hSw
              go_simp <;> with_reducible rfl
            try simp only [Act.put, List.setIfInBounds_toArray, List.set_cons_zero, List.set_cons_succ]
            refine takeH (i := 5) (v := ?_) 35 rfl rfl (by kernel_rfl) (by kernel_rfl) (by kernel_rfl) (fun _ _ _ h => h) (Or.inl ⟨by rfl, ?y5⟩) hHeld ?_
            case y5 =>
              intro w' hSw
              try dsimp only at hSw
              go_simp <;> with_reducible rfl
            try simp only [Act.put, List.setIfInBounds_toArray, List.set_cons_zero, List.set_cons_succ]
            refine takeH (i := 6) (v := ?_) 36 rfl rfl (by kernel_rfl) (by kernel_rfl) (by kernel_rfl) (fun _ _ _ h => h) (Or.inl ⟨by rfl, ?y6⟩) hHeld ?_
            case y6 =>
              intro w' hSw
              try dsimp only at hSw
              go_simp <;> with_reducible rfl
            try simp only [Act.put, List.setIfInBounds_toArray, List.set_cons_zero, List.set_cons_succ]
            refine takeH (i := 7) (v := ?_) 37 rfl rfl (by kernel_rfl) (by kernel_rfl) (by kernel_rfl) (fun _ _ _ h => h) (Or.inl ⟨by rfl, ?y7⟩) hHeld ?_
            case y7 =>
              intro w' hSw
              try dsimp only at hSw
              go_simp <;> with_reducible rfl
            try simp only [Act.put, List.setIfInBounds_toArray, List.set_cons_zero, List.set_cons_succ]
            refine takeH (i := 8) (v := ?_) 38 rfl rfl (by kernel_rfl) (by kernel_rfl) (by kernel_rfl) (fun _ _ _ h => h) (Or.inl ⟨by rfl, ?y8⟩) hHeld ?_
            case y8 =>
              intro w' hSw
              try dsimp only at hSw
              go_simp <;> with_reducible rfl
            try simp only [Act.put, List.setIfInBounds_toArray, List.set_cons_zero, List.set_cons_succ]
            refine takeH (i := 9) (v := ?_) 39 rfl rfl (by kernel_rfl) (by kernel_rfl) (by kernel_rfl) (fun _ _ _ h => h) (Or.inl ⟨by rfl, ?y9⟩) hHeld ?_
            case y9 =>
              intro w' hSw
              try dsimp only at hSw
              go_simp <;> with_reducible rfl
            try simp only [Act.put, List.setIfInBounds_toArray, List.set_cons_zero, List.set_cons_succ]
            refine wpAnyH_ready (rs := [10]) (by kernel_rfl) (by simp) ?_
            refine AllReadyH.cons rfl (fun K hK => ?_) AllReadyH.nil
            go_simp
            refine (HBF.out _ (HM.out.below (HS.go (by repeat (first | exact Below.refl _ _ | apply Below.drew | apply below_drewN | apply below_al))).out.low)).mono ?_
            rintro e wm ⟨rfl, hb⟩
            replace HS := HS.go2 (by repeat (first | exact Below.refl _ _ | apply Below.drew | apply below_drewN | apply below_al)) hb
            replace HY := HY.go2 (by repeat (first | exact Below.refl _ _ | apply Below.drew | apply below_drewN | apply below_al)) hb
            clear hb hHeld
            refine hK.out _ _ ?hs1 (fun hHeld => ?_)
            case hs1 => exact rec_prev ((HS.go (by repeat (first | exact Below.refl _ _ | apply Below.drew | apply below_drewN | apply below_al))).out.get 1 rfl |>.c5).2.2.2.2 (HY.go (by repeat (first | exact Below.refl _ _ | apply Below.drew | apply below_drewN | apply below_al))).out.1 ((HS.go (by repeat (first | exact Below.refl _ _ | apply Below.drew | apply below_drewN | apply below_al))).out.get 2 rfl |>.rc)
            clear hK K
            try simp only [Act.put, List.setIfInBounds_toArray, List.set_cons_zero, List.set_cons_succ]
            refine takeH (i := 11) (v := ?_) 41 rfl rfl (by kernel_rfl) (by kernel_rfl) (by kernel_rfl) (fun _ _ _ h => h) (Or.inl ⟨by rfl, ?y11⟩) hHeld ?_
            case y11 =>
              intro w' hSw
              try dsimp only at hSw
              go_simp <;> with_reducible rfl
            try simp only [Act.put, List.setIfInBounds_toArray, List.set_cons_zero, List.set_cons_succ]
            refine takeH (i := 12) (v := ?_) 42 rfl rfl (by kernel_rfl) (by kernel_rfl) (by kernel_rfl) (fun _ _ _ h => h) (Or.inl ⟨by rfl, ?y12⟩) hHeld ?_
            case y12 =>
              intro w' hSw
              try dsimp only at hSw
              go_simp <;> with_reducible rfl
            try simp only [Act.put, List.setIfInBounds_toArray, List.set_cons_zero, List.set_cons_succ]
            refine takeH (i := 13) (v := ?_) 43 rfl rfl (by kernel_rfl) (by kernel_rfl) (by kernel_rfl) (fun _ _ _ h => h) (Or.inl ⟨by rfl, ?y13⟩) hHeld ?_
            case y13 =>
              intro w' hSw
              try dsimp only at hSw
              go_simp <;> with_reducible rfl
            try simp only [Act.put, List.setIfInBounds_toArray, List.set_cons_zero, List.set_cons_succ]
            refine takeH (i := 14) (v := ?_) 44 rfl rfl (by kernel_rfl) (by kernel_rfl) (by kernel_rfl) (fun _ _ _ h => h) (Or.inl ⟨by rfl, ?y14⟩) hHeld ?_
            case y14 =>
              intro w' hSw
              try dsimp only at hSw
              go_simp <;> with_reducible rfl
            try simp only [Act.put, List.setIfInBounds_toArray, List.set_cons_zero, List.set_cons_succ]
            refine takeH (i := 15) (v := ?_) 45 rfl rfl (by kernel_rfl) (by kernel_rfl) (by kernel_rfl) (fun _ _ _ h => h) (Or.inl ⟨by rfl, ?y15⟩) hHeld ?_
            case y15 =>
              intro w' hSw
              try dsimp only at hSw
              go_simp <;> with_reducible rfl
            try simp only [Act.put, List.setIfInBounds_toArray, List.set_cons_zero, List.set_cons_succ]
            refine takeH (i := 16) (v := ?_) 46 rfl rfl (by kernel_rfl) (by kernel_rfl) (by kernel_rfl) (fun _ _ _ h => h) (Or.inl ⟨by rfl, ?y16⟩) hHeld ?_
            case y16 =>
              intro w' hSw
              try dsimp only at hSw
              go_simp <;> with_reducible rfl
            try simp only [Act.put, List.setIfInBounds_toArray, List.set_cons_zero, List.set_cons_succ]
            refine takeH (i := 17) (v := ?_) 47 rfl rfl (by kernel_rfl) (by kernel_rfl) (by kernel_rfl) (fun _ _ _ h => h) (Or.inl ⟨by rfl, ?y17⟩) hHeld ?_
            case y17 =>
              intro w' hSw
              try dsimp only at hSw
              go_simp <;> with_reducible rfl
            try simp only [Act.put, List.setIfInBounds_toArray, List.set_cons_zero, List.set_cons_succ]
            refine takeH (i := 18) (v := ?_) 48 rfl rfl (by kernel_rfl) (by kernel_rfl) (by kernel_rfl) (fun _ _ _ h => h) (Or.inl ⟨by rfl, ?y18⟩) hHeld ?_
            case y18 =>
              intro w' hSw
              try dsimp only at hSw
              go_simp <;> with_reducible rfl
            try simp only [Act.put, List.setIfInBounds_toArray, List.set_cons_zero, List.set_cons_succ]
            refine takeH (i := 19) (v := ?_) 49 rfl rfl (by kernel_rfl) (by kernel_rfl) (by kernel_rfl) (fun _ _ _ h => h) (Or.inl ⟨by rfl, ?y19⟩) hHeld ?_
            case y19 =>
              intro w' hSw
              try dsimp only at hSw
              go_simp <;> with_reducible rfl
            try simp only [Act.put, List.setIfInBounds_toArray, List.set_cons_zero, List.set_cons_succ]
            refine takeH (i := 20) (v := ?_) 50 rfl rfl (by kernel_rfl) (by kernel_rfl) (by kernel_rfl) (fun _ _ _ h => h) (Or.inl ⟨by rfl, ?y20⟩) hHeld ?_
            case y20 =>
              intro w' hSw
              try dsimp only at hSw
              go_simp <;> with_reducible rfl
            try simp only [Act.put, List.setIfInBounds_toArray, List.set_cons_zero, List.set_cons_succ]
            refine takeH (i := 21) (v := ?_) 51 rfl rfl (by kernel_rfl) (by kernel_rfl) (by kernel_rfl) (fun _ _ _ h => h) (Or.inl ⟨by rfl, ?y21⟩) hHeld ?_
            case y21 =>
              intro w' hSw
              try dsimp only at hSw
              go_simp <;> with_reducible rfl
            try simp only [Act.put, List.setIfInBounds_toArray, List.set_cons_zero, List.set_cons_succ]
            refine takeH (i := 22) (v := ?_) 52 rfl rfl (by kernel_rfl) (by kernel_rfl) (by kernel_rfl) (fun _ _ _ h => h) (Or.inl ⟨by rfl, ?y22⟩) hHeld ?_
            case y22 =>
              intro w' hSw
              try dsimp only at hSw
              go_simp <;> with_reducible rfl
            try simp only [Act.put, List.setIfInBounds_toArray, List.set_cons_zero, List.set_cons_succ]
            refine wpAnyH_done (by kernel_rfl) ?_ _
            all_goals
              go_wp2_with fail
              go_meet
              exact ⟨_, rfl, (HS.go (by repeat (first | exact Below.refl _ _ | apply Below.drew | apply below_drewN | apply below_al)))⟩
          ·
            refine wp_region_held_drew (S := fun w' => w'.cell? ⟨w.heap.size + 1, 4, none⟩ = some (.slice (some ⟨b, o', none⟩) rcs.length dr) ∧ w'.cell? ⟨b, o' + (i - 1) * 6, none⟩ = some (.string y.frm) ∧ w'.cell? ⟨b, o' + (i - 1) * 6 + 1, none⟩ = some (.int .i64 y.fst) ∧ w'.cell? ⟨b, o' + (i - 1) * 6 + 2, none⟩ = some (.int .i64 y.lst) ∧ w'.cell? ⟨b, o' + (i - 1) * 6 + 3, none⟩ = some (.string y.dst) ∧ w'.cell? ⟨b, o' + (i - 1) * 6 + 4, none⟩ = some (.int .i64 y.num) ∧ w'.cell? ⟨b, o' + (i - 1) * 6 + 5, none⟩ = some (.int .i64 y.how) ∧ w'.cell? ⟨w.heap.size + 1 + 1, 0, none⟩ = some (.string x.frm) ∧ w'.cell? ⟨w.heap.size + 1 + 1, 1, none⟩ = some (.int .i64 x.fst) ∧ w'.cell? ⟨w.heap.size + 1 + 1, 2, none⟩ = some (.int .i64 x.lst) ∧ w'.cell? ⟨w.heap.size + 1 + 1, 3, none⟩ = some (.string x.dst) ∧ w'.cell? ⟨w.heap.size + 1 + 1, 4, none⟩ = some (.int .i64 x.num) ∧ w'.cell? ⟨w.heap.size + 1 + 1, 5, none⟩ = some (.int .i64 x.how)) (by kernel_rfl) ?hs0 (fun hHeld => ?_)
            case hs0 => exact rec_prev ((HS.go (by repeat (first | exact Below.refl _ _ | apply Below.drew | apply below_drewN | apply below_al))).out.get 1 rfl |>.c5).2.2.2.2 (HY.go (by repeat (first | exact Below.refl _ _ | apply Below.drew | apply below_drewN | apply below_al))).out.1 ((HS.go (by repeat (first | exact Below.refl _ _ | apply Below.drew | apply below_drewN | apply below_al))).out.get 2 rfl |>.rc)
            refine takeH (i := 0) (v := ?_) 30 rfl rfl (by kernel_rfl) (by kernel_rfl) (by kernel_rfl) (fun _ _ _ h => h) (Or.inl ⟨by rfl, ?y0⟩) hHeld ?_
            case y0 =>
              intro w' hSw
              try dsimp only at hSw
              go_simp <;> with_reducible rfl
            try simp only [Act.put, List.setIfInBounds_toArray, List.set_cons_zero, List.set_cons_succ]
            refine takeH (i := 1) (v := ?_) 31 rfl rfl (by kernel_rfl) (by kernel_rfl) (by kernel_rfl) (fun _ _ _ h => h) (Or.inl ⟨by rfl, ?y1⟩) hHeld ?_
            case y1 =>
              intro w' hSw
              try dsimp only at hSw
              go_simp <;> with_reducible rfl
            try simp only [Act.put, List.setIfInBounds_toArray, List.set_cons_zero, List.set_cons_succ]
            refine takeH (i := 2) (v := ?_) 32 rfl rfl (by kernel_rfl) (by kernel_rfl) (by kernel_rfl) (fun _ _ _ h => h) (Or.inl ⟨by rfl, ?y2⟩) hHeld ?_
            case y2 =>
              intro w' hSw
              try dsimp only at hSw
              go_simp <;> with_reducible rfl
            try simp only [Act.put, List.setIfInBounds_toArray, List.set_cons_zero, List.set_cons_succ]
            refine takeH (i := 3) (v := ?_) 33 rfl rfl (by kernel_rfl) (by kernel_rfl) (by kernel_rfl) (fun _ _ _ h => h) (Or.inl ⟨by rfl, ?y3⟩) hHeld ?_
            case y3 =>
              intro w' hSw
              try dsimp only at hSw
              go_simp <;> with_reducible rfl
            try simp only [Act.put, List.setIfInBounds_toArray, List.set_cons_zero, List.set_cons_succ]
            refine takeH (i := 4) (v := ?_) 34 rfl rfl (by kernel_rfl) (by kernel_rfl) (by kernel_rfl) (fun _ _ _ h => h) (Or.inl ⟨by rfl, ?y4⟩) hHeld ?_
            case y4 =>
              intro w' hSw
              try dsimp only at hSw
              go_simp <;> with_reducible rfl
            try simp only [Act.put, List.setIfInBounds_toArray, List.set_cons_zero, List.set_cons_succ]
            refine takeH (i := 5) (v := ?_) 35 rfl rfl (by kernel_rfl) (by kernel_rfl) (by kernel_rfl) (fun _ _ _ h => h) (Or.inl ⟨by rfl, ?y5⟩) hHeld ?_
            case y5 =>
              intro w' hSw
              try dsimp only at hSw
              go_simp <;> with_reducible rfl
            try simp only [Act.put, List.setIfInBounds_toArray, List.set_cons_zero, List.set_cons_succ]
            refine takeH (i := 6) (v := ?_) 36 rfl rfl (by kernel_rfl) (by kernel_rfl) (by kernel_rfl) (fun _ _ _ h => h) (Or.inl ⟨by rfl, ?y6⟩) hHeld ?_
            case y6 =>
              intro w' hSw
              try dsimp only at hSw
              go_simp <;> with_reducible rfl
            try simp only [Act.put, List.setIfInBounds_toArray, List.set_cons_zero, List.set_cons_succ]
            refine takeH (i := 7) (v := ?_) 37 rfl rfl (by kernel_rfl) (by kernel_rfl) (by kernel_rfl) (fun _ _ _ h => h) (Or.inl ⟨by rfl, ?y7⟩) hHeld ?_
            case y7 =>
              intro w' hSw
              try dsimp only at hSw
              go_simp <;> with_reducible rfl
            try simp only [Act.put, List.setIfInBounds_toArray, List.set_cons_zero, List.set_cons_succ]
            refine takeH (i := 8) (v := ?_) 38 rfl rfl (by kernel_rfl) (by kernel_rfl) (by kernel_rfl) (fun _ _ _ h => h) (Or.inl ⟨by rfl, ?y8⟩) hHeld ?_
            case y8 =>
              intro w' hSw
              try dsimp only at hSw
              go_simp <;> with_reducible rfl
            try simp only [Act.put, List.setIfInBounds_toArray, List.set_cons_zero, List.set_cons_succ]
            refine takeH (i := 9) (v := ?_) 39 rfl rfl (by kernel_rfl) (by kernel_rfl) (by kernel_rfl) (fun _ _ _ h => h) (Or.inl ⟨by rfl, ?y9⟩) hHeld ?_
            case y9 =>
              intro w' hSw
              try dsimp only at hSw
              go_simp <;> with_reducible rfl
            try simp only [Act.put, List.setIfInBounds_toArray, List.set_cons_zero, List.set_cons_succ]
            refine wpAnyH_ready (rs := [10]) (by kernel_rfl) (by simp) ?_
            refine AllReadyH.cons rfl (fun K hK => ?_) AllReadyH.nil
            go_simp
            refine (HBF.out _ (HM.out.below (HS.go (by repeat (first | exact Below.refl _ _ | apply Below.drew | apply below_drewN | apply below_al))).out.low)).mono ?_
            rintro e wm ⟨rfl, hb⟩
            replace HS := HS.go2 (by repeat (first | exact Below.refl _ _ | apply Below.drew | apply below_drewN | apply below_al)) hb
            replace HY := HY.go2 (by repeat (first | exact Below.refl _ _ | apply Below.drew | apply below_drewN | apply below_al)) hb
            clear hb hHeld
            refine hK.out _ _ ?hs1 (fun hHeld => ?_)
            case hs1 => exact rec_prev ((HS.go (by repeat (first | exact Below.refl _ _ | apply Below.drew | apply below_drewN | apply below_al))).out.get 1 rfl |>.c5).2.2.2.2 (HY.go (by repeat (first | exact Below.refl _ _ | apply Below.drew | apply below_drewN | apply below_al))).out.1 ((HS.go (by repeat (first | exact Below.refl _ _ | apply Below.drew | apply below_drewN | apply below_al))).out.get 2 rfl |>.rc)
            clear hK K
            try simp only [Act.put, List.setIfInBounds_toArray, List.set_cons_zero, List.set_cons_succ]
            refine takeH (i := 11) (v := ?_) 41 rfl rfl (by kernel_rfl) (by kernel_rfl) (by kernel_rfl) (fun _ _ _ h => h) (Or.inl ⟨by rfl, ?y11⟩) hHeld ?_
            case y11 =>
              intro w' hSw
              try dsimp only at hSw
              go_simp <;> with_reducible rfl
            try simp only [Act.put, List.setIfInBounds_toArray, List.set_cons_zero, List.set_cons_succ]
            refine takeH (i := 12) (v := ?_) 42 rfl rfl (by kernel_rfl) (by kernel_rfl) (by kernel_rfl) (fun _ _ _ h => h) (Or.inl ⟨by rfl, ?y12⟩) hHeld ?_
            case y12 =>
              intro w' hSw
              try dsimp only at hSw
              go_simp <;> with_reducible rfl
            try simp only [Act.put, List.setIfInBounds_toArray, List.set_cons_zero, List.set_cons_succ]
            refine takeH (i := 13) (v := ?_) 43 rfl rfl (by kernel_rfl) (by kernel_rfl) (by kernel_rfl) (fun _ _ _ h => h) (Or.inl ⟨by rfl, ?y13⟩) hHeld ?_
            case y13 =>
              intro w' hSw
              try dsimp only at hSw
              go_simp <;> with_reducible rfl
            try simp only [Act.put, List.setIfInBounds_toArray, List.set_cons_zero, List.set_cons_succ]
            refine takeH (i := 14) (v := ?_) 44 rfl rfl (by kernel_rfl) (by kernel_rfl) (by kernel_rfl) (fun _ _ _ h => h) (Or.inl ⟨by rfl, ?y14⟩) hHeld ?_
            case y14 =>
              intro w' hSw
              try dsimp only at hSw
              go_simp <;> with_reducible rfl
            try simp only [Act.put, List.setIfInBounds_toArray, List.set_cons_zero, List.set_cons_succ]
            refine takeH (i := 15) (v := ?_) 45 rfl rfl (by kernel_rfl) (by kernel_rfl) (by kernel_rfl) (fun _ _ _ h => h) (Or.inl ⟨by rfl, ?y15⟩) hHeld ?_
            case y15 =>
              intro w' hSw
              try dsimp only at hSw
              go_simp <;> with_reducible rfl
            try simp only [Act.put, List.setIfInBounds_toArray, List.set_cons_zero, List.set_cons_succ]
            refine takeH (i := 16) (v := ?_) 46 rfl rfl (by kernel_rfl) (by kernel_rfl) (by kernel_rfl) (fun _ _ _ h => h) (Or.inl ⟨by rfl, ?y16⟩) hHeld ?_
            case y16 =>
              intro w' hSw
              try dsimp only at hSw
              go_simp <;> with_reducible rfl
            try simp only [Act.put, List.setIfInBounds_toArray, List.set_cons_zero, List.set_cons_succ]
            refine takeH (i := 17) (v := ?_) 47 rfl rfl (by kernel_rfl) (by kernel_rfl) (by kernel_rfl) (fun _ _ _ h => h) (Or.inl ⟨by rfl, ?y17⟩) hHeld ?_
            case y17 =>
              intro w' hSw
              try dsimp only at hSw
              go_simp <;> with_reducible rfl
            try simp only [Act.put, List.setIfInBounds_toArray, List.set_cons_zero, List.set_cons_succ]
            refine takeH (i := 18) (v := ?_) 48 rfl rfl (by kernel_rfl) (by kernel_rfl) (by kernel_rfl) (fun _ _ _ h => h) (Or.inl ⟨by rfl, ?y18⟩) hHeld ?_
            case y18 =>
              intro w' hSw
              try dsimp only at hSw
              go_simp <;> with_reducible rfl
            try simp only [Act.put, List.setIfInBounds_toArray, List.set_cons_zero, List.set_cons_succ]
            refine takeH (i := 19) (v := ?_) 49 rfl rfl (by kernel_rfl) (by kernel_rfl) (by kernel_rfl) (fun _ _ _ h => h) (Or.inl ⟨by rfl, ?y19⟩) hHeld ?_
            case y19 =>
              intro w' hSw
              try dsimp only at hSw
              go_simp <;> with_reducible rfl
            try simp only [Act.put, List.setIfInBounds_toArray, List.set_cons_zero, List.set_cons_succ]
            refine takeH (i := 20) (v := ?_) 50 rfl rfl (by kernel_rfl) (by kernel_rfl) (by kernel_rfl) (fun _ _ _ h => h) (Or.inl ⟨by rfl, ?y20⟩) hHeld ?_
            case y20 =>
              intro w' hSw
              try dsimp only at hSw
              go_simp <;> with_reducible rfl
            try simp only [Act.put, List.setIfInBounds_toArray, List.set_cons_zero, List.set_cons_succ]
            refine takeH (i := 21) (v := ?_) 51 rfl rfl (by kernel_rfl) (by kernel_rfl) (by kernel_rfl) (fun _ _ _ h => h) (Or.inl ⟨by rfl, ?y21⟩) hHeld ?_
            case y21 =>
              intro w' hSw
              try dsimp only at hSw
              go_simp <;> with_reducible rfl
            try simp only [Act.put, List.setIfInBounds_toArray, List.set_cons_zero, List.set_cons_succ]
            refine takeH (i := 22) (v := ?_) 52 rfl rfl (by kernel_rfl) (by kernel_rfl) (by kernel_rfl) (fun _ _ _ h => h) (Or.inl ⟨by rfl, ?y22⟩) hHeld ?_
            case y22 =>
              intro w' hSw
              try dsimp only at hSw
              go_simp <;> with_reducible rfl
            try simp only [Act.put, List.setIfInBounds_toArray, List.set_cons_zero, List.set_cons_succ]
            refine wpAnyH_done (by kernel_rfl) ?_ _
            all_goals
              go_wp2_with fail
              go_meet
              exact ⟨_, rfl, (HS.go (by repeat (first | exact Below.refl _ _ | apply Below.drew | apply below_drewN | apply below_al)))⟩
    · have hd : decide (0 < i) = false := decide_eq_false h0
      by_cases p1 : x.how < 1
      ·
        go_quiet (fail)
        all_goals
          go_wp2_with fail
          go_meet
          exact ⟨_, rfl, (HS.go (by repeat (first | exact Below.refl _ _ | apply Below.drew | apply below_drewN | apply below_al)))⟩
      · by_cases p2 : 4 < x.how
        ·
          go_quiet (fail)
          all_goals
            go_wp2_with fail
            go_meet
            exact ⟨_, rfl, (HS.go (by repeat (first | exact Below.refl _ _ | apply Below.drew | apply below_drewN | apply below_al)))⟩
        ·
          go_quiet (fail)
          all_goals
            go_wp2_with fail
            go_meet
            exact ⟨_, rfl, (HS.go (by repeat (first | exact Below.refl _ _ | apply Below.drew | apply below_drewN | apply below_al)))⟩
  case rest =>
    obtain ⟨t, rfl, HSN⟩ := hcut
    clear HS
    have HS := HSN
    obtain ⟨d0, d1⟩ := (HS.go (by repeat (first | exact Below.refl _ _ | apply Below.drew | apply below_drewN | apply below_al))).out.get 0 rfl |>.c2
    obtain ⟨k0, k1, k2, k3, k4⟩ := (HS.go (by repeat (first | exact Below.refl _ _ | apply Below.drew | apply below_drewN | apply below_al))).out.get 1 rfl |>.c5
    obtain ⟨x0, x1, x2, x3, x4, x5⟩ := (HS.go (by repeat (first | exact Below.refl _ _ | apply Below.drew | apply below_drewN | apply below_al))).out.get 2 rfl |>.rc
    cases t with
    | true =>
      go_wp2_with fail
      go_ret
      exact ⟨_, rfl, HS.out.low⟩
    | false =>
      go_upto_region 4 with (fail)
      exact rec_4 (hK := by assumption) (hrl := hrl) (hel := hel) (hcl := hcl) (q1 := q1) (q2 := q2) (HR := HR) (HE := HE) (HM := HM) (HRN := HRN) (HEN := HEN) (HC := HC) (HS := HS)
end Go.Proofs.YteagecjhpfijjaaDoor

