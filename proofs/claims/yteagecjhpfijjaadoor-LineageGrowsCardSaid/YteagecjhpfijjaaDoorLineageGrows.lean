/-
  LineageGrows returns true.
-/
import Derived.Test.YteagecjhpfijjaaDoorLineageIdentities
import Derived.Test.YteagecjhpfijjaaDoorMX
namespace Go.Proofs.YteagecjhpfijjaaDoor
set_option linter.unusedSimpArgs false
set_option linter.unusedVariables false
open Go.RowKit Go.WideShapes

theorem chgInfo : (Tryd.prog.info? 52).map (fun i => (i.zero, i.size, i.bytes)) = some (some (.agg #[.int .i64 0, .string ByteArray.empty, .string ByteArray.empty, .slice none 0 0, .slice none 0 0]), 5, 88) := by kernel_rfl
theorem RV.lenc {w : World} {A : Option Addr} {c : Nat} {rs : List Rv} (h : RV w A c rs) : rs.length ≤ c := by have := h.1; rwa [List.length_map] at this
theorem RV.capc {w : World} {A : Option Addr} {c : Nat} {rs : List Rv} (h : RV w A c rs) : c ≤ 9223372036854775807 := h.2.1
theorem RV.pre {w : World} {A : Option Addr} {c : Nat} {xs ys : List Rv} (h : RV w A c (xs ++ ys)) : RV w A c xs := by
  refine ⟨?_, h.2.1, fun h0 => ?_⟩
  · have := h.lenc
    rw [List.length_append] at this
    rw [List.length_map]
    omega
  · rw [List.length_map] at h0
    obtain ⟨b, o, e, hb, hc⟩ := h.2.2 (by rw [List.length_map, List.length_append]; omega)
    refine ⟨b, o, e, hb, fun j r hj => hc j r ?_⟩
    have hl := (List.getElem?_eq_some_iff.1 hj).1
    rw [List.map_append, List.getElem?_append_left hl]
    exact hj
theorem FV.lenc {w : World} {A : Option Addr} {c : Nat} {fs : List (ByteArray × Int)} (h : FV w A c fs) : fs.length ≤ c := by have := h.1; rwa [List.length_map] at this
theorem FV.capc {w : World} {A : Option Addr} {c : Nat} {fs : List (ByteArray × Int)} (h : FV w A c fs) : c ≤ 9223372036854775807 := h.2.1
theorem smallL.init {ls : List Cg} {x : Cg} (h : smallL (ls ++ [x])) : smallL ls ∧ smallL [x] ∧ sumN ls + cgN x ≤ 200 := by
  obtain ⟨h1, h2, h3⟩ := h
  have e : sumN (ls ++ [x]) = sumN ls + cgN x := by unfold sumN; simp
  rw [e] at h3
  rw [List.length_append, List.length_singleton] at h2
  refine ⟨⟨fun c hc => h1 c (List.mem_append_left _ hc), by omega, by omega⟩, ⟨fun c hc => h1 c (List.mem_append_right _ hc), by simp, ?_⟩, h3⟩
  have : sumN [x] = cgN x := by unfold sumN; simp
  omega
set_option maxHeartbeats 20000000 in
set_option maxRecDepth 100000 in
theorem lineageGrows_any (A : Option Addr) (c : Nat) (ls : List Cg) (x : Cg) (C : Option Addr) (ce : Nat) (D : Option Addr) (dr : Nat) (w : World) (h : CV w A c ls) (hnil : NilC A c) (hr : CgR ls) (hlen : ls.length ≤ 1599289640354)
    (k : EV w C ce x.es) (hC : NilC C ce) (q : RC w D dr x.rcs) (hD : NilC D dr) (hx : CgR [x]) (hsh : w.ShapedOpen Tryd.prog) :
    Calls Tryd.prog 7 #[.slice A ls.length c, .agg #[.int .i64 x.n, .string x.s, .string x.t, .slice C x.es.length ce, .slice D x.rcs.length dr]] w fun e w' => e = .returned (.bool true) ∧ Below w.heap.size w w' := by
  have HC := Lib.hid h
  have HNIL := Lib.hid hnil
  have HM := Lib.hid (ML.of hsh)
  have hrx : CgR (ls ++ [x]) := fun c hc => by
    rcases List.mem_append.1 hc with hc | hc
    · exact hr c hc
    · exact hx c hc
  have HSM : Hid (∀ (A : Option Addr) (c : Nat) (W : World) (L : Nat), L = (ls ++ [x]).length → CV W A c (ls ++ [x]) → Calls Tryd.prog 11 #[.slice A L c] W (RetS W (ls ++ [x]))) := Lib.hid (fun A c W L hL h => by subst hL; exact small_any A c (ls ++ [x]) W h hrx)
  have HBD := Lib.hid (fun W h hs hm => build_any A c ls W h hs hm)
  unfold RetS at HSM
  obtain ⟨rows, hrr, hrl⟩ := h.rows
  have HRR := Lib.hid hrr
  have HRL := Lib.hid hrl
  have HLR : Hid (rows.length = ls.length) := Lib.hid hrl.1
  have hchR : chR w x [.int .i64 x.n, .string x.s, .string x.t, .slice C x.es.length ce, .slice D x.rcs.length dr] := ⟨C, ce, D, dr, rfl, k, hC, q, hD⟩
  have HRC1 : Hid (relC w [x] [[.int .i64 x.n, .string x.s, .string x.t, .slice C x.es.length ce, .slice D x.rcs.length dr]]) := Lib.hid (relC.snoc (ls := []) (rows := []) ⟨rfl, fun j x r hx => by simp at hx⟩ hchR)
  have HRX : Hid (relC w (ls ++ [x]) (rows ++ [[.int .i64 x.n, .string x.s, .string x.t, .slice C x.es.length ce, .slice D x.rcs.length dr]])) := Lib.hid (hrl.snoc hchR)
  have HEV := Lib.hid k
  have HRC := Lib.hid q
  have HNC := Lib.hid hC
  have HND := Lib.hid hD
  obtain ⟨j0, ji, jz0, jz1, jz2⟩ := info_parts chgInfo
  have HS : At (BB w [(w.heap.size, [.int .i64 x.n, .string x.s, .string x.t, .slice C x.es.length ce, .slice D x.rcs.length dr])]) (w.alloc (.cells #[.int .i64 x.n, .string x.s, .string x.t, .slice C x.es.length ce, .slice D x.rcs.length dr] 52)) := ((BB.nil w).push [.int .i64 x.n, .string x.s, .string x.t, .slice C x.es.length ce, .slice D x.rcs.length dr] 52 rfl).at_
  clear h hnil hr hx hsh k hC q hD hrr hrl hchR hrx
  go_enter Tryd.func7, Tryd.ntmps7
  go_upto_region 1 with (fail)
  go_cut [22] (fun s22 wx => ∃ sq : Bool, s22 = .bool (!sq) ∧ (sq = true → smallL (ls ++ [x])) ∧ At (BB w [(w.heap.size, [.int .i64 x.n, .string x.s, .string x.t, .slice C x.es.length ce, .slice D x.rcs.length dr])]) wx)
  case first =>
    have HSx : (fun w' => w'.cell? ⟨w.heap.size, 0, none⟩ = some (.int .i64 x.n) ∧ w'.cell? ⟨w.heap.size, 1, none⟩ = some (.string x.s) ∧ w'.cell? ⟨w.heap.size, 2, none⟩ = some (.string x.t) ∧ w'.cell? ⟨w.heap.size, 3, none⟩ = some (.slice C x.es.length ce) ∧ w'.cell? ⟨w.heap.size, 4, none⟩ = some (.slice D x.rcs.length dr)) (w.alloc (.cells #[.int .i64 x.n, .string x.s, .string x.t, .slice C x.es.length ce, .slice D x.rcs.length dr] 52)).drew := (((HS.go (w' := _) (Below.drew (Below.refl _ _))).out).get 0 rfl).c5
    have HS1 := (HS.go (w' := _) (Below.drew (Below.refl _ _))).out
    refine wp_region_wpH (S := fun w' => w'.cell? ⟨w.heap.size, 0, none⟩ = some (.int .i64 x.n) ∧ w'.cell? ⟨w.heap.size, 1, none⟩ = some (.string x.s) ∧ w'.cell? ⟨w.heap.size, 2, none⟩ = some (.string x.t) ∧ w'.cell? ⟨w.heap.size, 3, none⟩ = some (.slice C x.es.length ce) ∧ w'.cell? ⟨w.heap.size, 4, none⟩ = some (.slice D x.rcs.length dr)) (c := 6) (by kernel_rfl) ?_
    refine wpH_take2 (i := 0) (v := ?_) [1, 4, 5, 6] 16 rfl rfl (by kernel_rfl) (by kernel_rfl) (by kernel_rfl) (by kernel_rfl) (by kernel_rfl) (fun _ _ _ h => h) (Or.inl ⟨by rfl, ?ya0⟩) HSx ?ra0
    case ya0 =>
      intro w' hSw
      obtain ⟨q0, q1, q2, q3, q4⟩ := hSw
      go_simp
      with_reducible rfl
    try simp only [Act.put, List.getElem_toArray, List.getElem_cons_succ, List.getElem_cons_zero, List.setIfInBounds_toArray, List.set_cons_zero, List.set_cons_succ]
    refine wpH_take2 (i := 2) (v := ?_) [3, 4, 5, 6] 18 rfl rfl (by kernel_rfl) (by kernel_rfl) (by kernel_rfl) (by kernel_rfl) (by kernel_rfl) (fun _ _ _ h => h) (Or.inl ⟨by rfl, ?ya2⟩) HSx ?ra2
    case ya2 =>
      intro w' hSw
      obtain ⟨q0, q1, q2, q3, q4⟩ := hSw
      go_simp
      with_reducible rfl
    try simp only [Act.put, List.getElem_toArray, List.getElem_cons_succ, List.getElem_cons_zero, List.setIfInBounds_toArray, List.set_cons_zero, List.set_cons_succ]
    refine wpH_all (rs := [1, 3]) (by kernel_rfl) (by simp) ?_
    intro z hz
    have hz2 : z = 1 ∨ z = 3 := by simpa using hz
    clear hz
    rcases hz2 with rfl | rfl
    ·
      refine wpOp_step rfl (fun K hK => ?_)
      try simp only [Act.put, List.getElem_toArray, List.getElem_cons_succ, List.getElem_cons_zero, List.setIfInBounds_toArray, List.set_cons_zero, List.set_cons_succ]
      rw [if_pos (by rfl)]
      refine wp_append_rowsW Tryd.underlying22 ji jz0 jz1 jz2 rfl (by decide) _ _ rfl (w.heap.size + 1) (.slice none 0 0) [] rows A ls.length c HLR.out.symm rfl rfl (OR.nil _ _ _ _) (HRR.out.below (HS1).low) HNIL.out HRL.out.len HRL.out.one (by have := HLR.out; simp; omega) (by have := HLR.out; simp; omega) (by simp; try omega) ?_
      intro v1 w1 hown hg _
      rw [List.nil_append] at hown
      have HSa := (HS1).grown hg (fun j hj => by cases hj)
      refine hK _ _ ?_
      clear hK K
      rw [if_neg (by decide)]
      refine ⟨((HSa).get 0 rfl).c5, ?_⟩
      try simp only [Act.put, List.getElem_toArray, List.getElem_cons_succ, List.getElem_cons_zero, List.setIfInBounds_toArray, List.set_cons_zero, List.set_cons_succ]
      refine wpH_all (rs := [3]) (by kernel_rfl) (by simp) ?_
      intro z hz
      obtain rfl : z = 3 := by simpa using hz
      clear hz
      refine wpOp_step rfl (fun K hK => ?_)
      try simp only [Act.put, List.getElem_toArray, List.getElem_cons_succ, List.getElem_cons_zero, List.setIfInBounds_toArray, List.set_cons_zero, List.set_cons_succ]
      go_simp
      have HSb := BB.al (HSa) (.cells #[.int .i64 x.n, .string x.s, .string x.t, .slice C x.es.length ce, .slice D x.rcs.length dr] 52)
      refine hK _ _ ?_
      clear hK K
      rw [if_neg (by decide)]
      refine ⟨((HSb).get 0 rfl).c5, ?_⟩
      try simp only [Act.put, List.getElem_toArray, List.getElem_cons_succ, List.getElem_cons_zero, List.setIfInBounds_toArray, List.set_cons_zero, List.set_cons_succ]
      refine wpH_all (rs := [4]) (by kernel_rfl) (by simp) ?_
      intro z hz
      obtain rfl : z = 4 := by simpa using hz
      clear hz
      refine wpOp_step rfl (fun K hK => ?_)
      try simp only [Act.put, List.getElem_toArray, List.getElem_cons_succ, List.getElem_cons_zero, List.setIfInBounds_toArray, List.set_cons_zero, List.set_cons_succ]
      rw [if_pos (by rfl)]
      refine wp_append_rowsW Tryd.underlying22 ji jz0 jz1 jz2 rfl (by decide) _ _ rfl (w.heap.size + 1) v1 rows [[.int .i64 x.n, .string x.s, .string x.t, .slice C x.es.length ce, .slice D x.rcs.length dr]] (some ⟨_, 0, none⟩) 1 1 rfl rfl rfl (hown.below (below_alloc _ _)) (RR.of_bx (BX.new _ [.int .i64 x.n, .string x.s, .string x.t, .slice C x.es.length ce, .slice D x.rcs.length dr] _ rfl) HRC1.out.len (Nat.le_refl _) (by decide)) (fun h => by cases h) (HRC1.out.len) (HRC1.out.one) (by have := HLR.out; simp; omega) (by have := HLR.out; simp; omega) (by have := hg.size; simp at this ⊢; omega) ?_
      intro v3 w3 hown3 hg3 _
      have HS3 := BB.grown (HSb) hg3 (fun j hj => by have := (hown.own j hj).1; exact ⟨fun p hp => (by obtain rfl := List.mem_singleton.1 hp; simp only; omega), by omega⟩)
      obtain ⟨A1, c1, hv3, hrr3, _⟩ := hown3.readN
      have hL1 : (rows ++ ([[.int .i64 x.n, .string x.s, .string x.t, .slice C x.es.length ce, .slice D x.rcs.length dr]] : List (List Value))).length = (ls ++ [x]).length := (HRX.out).1
      rw [hL1] at hv3
      generalize hL : (ls ++ [x]).length = L at hv3
      have HL := Lib.hid hL.symm
      subst hv3
      clear hL hL1
      have HCX := Lib.hid (CV.of_rows hrr3 (HRX.out.below HS3.low))
      refine hK _ _ ?_
      clear hK K
      rw [if_neg (by decide)]
      refine ⟨((HS3).get 0 rfl).c5, ?_⟩
      try simp only [Act.put, List.getElem_toArray, List.getElem_cons_succ, List.getElem_cons_zero, List.setIfInBounds_toArray, List.set_cons_zero, List.set_cons_succ]
      refine wpH_all (rs := [5]) (by kernel_rfl) (by simp) ?_
      intro z hz
      obtain rfl : z = 5 := by simpa using hz
      clear hz
      refine wpOp_step rfl (fun K hK => ?_)
      try simp only [Act.put, List.getElem_toArray, List.getElem_cons_succ, List.getElem_cons_zero, List.setIfInBounds_toArray, List.set_cons_zero, List.set_cons_succ]
      go_simp
      refine (HSM.out A1 c1 _ L HL.out HCX.out).mono ?_
      rintro e w4 ⟨sq, rfl, hsq, hb⟩
      have HS4 := HS3.at_.go2 (by repeat (first | exact Below.refl _ _ | apply Below.drew | apply below_drewN | apply below_al)) hb
      refine hK _ _ ?_
      clear hK K
      rw [if_neg (by decide)]
      refine ⟨((HS4.out).get 0 rfl).c5, ?_⟩
      try simp only [Act.put, List.getElem_toArray, List.getElem_cons_succ, List.getElem_cons_zero, List.setIfInBounds_toArray, List.set_cons_zero, List.set_cons_succ]
      refine wpH_all (rs := [6]) (by kernel_rfl) (by simp) ?_
      intro z hz
      obtain rfl : z = 6 := by simpa using hz
      clear hz
      refine wpOp_step rfl (fun K hK => ?_)
      try simp only [Act.put, List.getElem_toArray, List.getElem_cons_succ, List.getElem_cons_zero, List.setIfInBounds_toArray, List.set_cons_zero, List.set_cons_succ]
      go_simp
      refine hK _ _ ?_
      clear hK K
      rw [if_pos rfl]
      try simp only [Act.put, List.getElem_toArray, List.getElem_cons_succ, List.getElem_cons_zero, List.setIfInBounds_toArray, List.set_cons_zero, List.set_cons_succ]
      refine wpAny_done (by kernel_rfl) ?_ _
      go_wp2_with fail
      go_meet
      exact ⟨sq, rfl, hsq, HS4⟩
    ·
      refine wpOp_step rfl (fun K hK => ?_)
      try simp only [Act.put, List.getElem_toArray, List.getElem_cons_succ, List.getElem_cons_zero, List.setIfInBounds_toArray, List.set_cons_zero, List.set_cons_succ]
      go_simp
      have HSa := BB.al (HS1) (.cells #[.int .i64 x.n, .string x.s, .string x.t, .slice C x.es.length ce, .slice D x.rcs.length dr] 52)
      refine hK _ _ ?_
      clear hK K
      rw [if_neg (by decide)]
      refine ⟨((HSa).get 0 rfl).c5, ?_⟩
      try simp only [Act.put, List.getElem_toArray, List.getElem_cons_succ, List.getElem_cons_zero, List.setIfInBounds_toArray, List.set_cons_zero, List.set_cons_succ]
      refine wpH_all (rs := [1]) (by kernel_rfl) (by simp) ?_
      intro z hz
      obtain rfl : z = 1 := by simpa using hz
      clear hz
      refine wpOp_step rfl (fun K hK => ?_)
      try simp only [Act.put, List.getElem_toArray, List.getElem_cons_succ, List.getElem_cons_zero, List.setIfInBounds_toArray, List.set_cons_zero, List.set_cons_succ]
      rw [if_pos (by rfl)]
      refine wp_append_rowsW Tryd.underlying22 ji jz0 jz1 jz2 rfl (by decide) _ _ rfl (w.heap.size + 1) (.slice none 0 0) [] rows A ls.length c HLR.out.symm rfl rfl (OR.nil _ _ _ _) (HRR.out.below (HSa).low) HNIL.out HRL.out.len HRL.out.one (by have := HLR.out; simp; omega) (by have := HLR.out; simp; omega) (by simp; try omega) ?_
      intro v1 w1 hown hg _
      rw [List.nil_append] at hown
      have HSb := (HSa).grown hg (fun j hj => by cases hj)
      refine hK _ _ ?_
      clear hK K
      rw [if_neg (by decide)]
      refine ⟨((HSb).get 0 rfl).c5, ?_⟩
      try simp only [Act.put, List.getElem_toArray, List.getElem_cons_succ, List.getElem_cons_zero, List.setIfInBounds_toArray, List.set_cons_zero, List.set_cons_succ]
      refine wpH_all (rs := [4]) (by kernel_rfl) (by simp) ?_
      intro z hz
      obtain rfl : z = 4 := by simpa using hz
      clear hz
      refine wpOp_step rfl (fun K hK => ?_)
      try simp only [Act.put, List.getElem_toArray, List.getElem_cons_succ, List.getElem_cons_zero, List.setIfInBounds_toArray, List.set_cons_zero, List.set_cons_succ]
      rw [if_pos (by rfl)]
      refine wp_append_rowsW Tryd.underlying22 ji jz0 jz1 jz2 rfl (by decide) _ _ rfl (w.heap.size + 1) v1 rows [[.int .i64 x.n, .string x.s, .string x.t, .slice C x.es.length ce, .slice D x.rcs.length dr]] (some ⟨_, 0, none⟩) 1 1 rfl rfl rfl (hown) (RR.of_bx (((BX.new _ [.int .i64 x.n, .string x.s, .string x.t, .slice C x.es.length ce, .slice D x.rcs.length dr] _ (g := w.heap.size + 1) (by simp)).below (Below.drew (Below.refl _ _))).grown hg (fun e => by cases e)) HRC1.out.len (Nat.le_refl _) (by decide)) (fun h => by cases h) (HRC1.out.len) (HRC1.out.one) (by have := HLR.out; simp; omega) (by have := HLR.out; simp; omega) (by have := hg.size; simp at this ⊢; omega) ?_
      intro v3 w3 hown3 hg3 _
      have HS3 := BB.grown (HSb) hg3 (fun j hj => by have := (hown.own j hj).1; exact ⟨fun p hp => (by obtain rfl := List.mem_singleton.1 hp; simp only; omega), by omega⟩)
      obtain ⟨A1, c1, hv3, hrr3, _⟩ := hown3.readN
      have hL1 : (rows ++ ([[.int .i64 x.n, .string x.s, .string x.t, .slice C x.es.length ce, .slice D x.rcs.length dr]] : List (List Value))).length = (ls ++ [x]).length := (HRX.out).1
      rw [hL1] at hv3
      generalize hL : (ls ++ [x]).length = L at hv3
      have HL := Lib.hid hL.symm
      subst hv3
      clear hL hL1
      have HCX := Lib.hid (CV.of_rows hrr3 (HRX.out.below HS3.low))
      refine hK _ _ ?_
      clear hK K
      rw [if_neg (by decide)]
      refine ⟨((HS3).get 0 rfl).c5, ?_⟩
      try simp only [Act.put, List.getElem_toArray, List.getElem_cons_succ, List.getElem_cons_zero, List.setIfInBounds_toArray, List.set_cons_zero, List.set_cons_succ]
      refine wpH_all (rs := [5]) (by kernel_rfl) (by simp) ?_
      intro z hz
      obtain rfl : z = 5 := by simpa using hz
      clear hz
      refine wpOp_step rfl (fun K hK => ?_)
      try simp only [Act.put, List.getElem_toArray, List.getElem_cons_succ, List.getElem_cons_zero, List.setIfInBounds_toArray, List.set_cons_zero, List.set_cons_succ]
      go_simp
      refine (HSM.out A1 c1 _ L HL.out HCX.out).mono ?_
      rintro e w4 ⟨sq, rfl, hsq, hb⟩
      have HS4 := HS3.at_.go2 (by repeat (first | exact Below.refl _ _ | apply Below.drew | apply below_drewN | apply below_al)) hb
      refine hK _ _ ?_
      clear hK K
      rw [if_neg (by decide)]
      refine ⟨((HS4.out).get 0 rfl).c5, ?_⟩
      try simp only [Act.put, List.getElem_toArray, List.getElem_cons_succ, List.getElem_cons_zero, List.setIfInBounds_toArray, List.set_cons_zero, List.set_cons_succ]
      refine wpH_all (rs := [6]) (by kernel_rfl) (by simp) ?_
      intro z hz
      obtain rfl : z = 6 := by simpa using hz
      clear hz
      refine wpOp_step rfl (fun K hK => ?_)
      try simp only [Act.put, List.getElem_toArray, List.getElem_cons_succ, List.getElem_cons_zero, List.setIfInBounds_toArray, List.set_cons_zero, List.set_cons_succ]
      go_simp
      refine hK _ _ ?_
      clear hK K
      rw [if_pos rfl]
      try simp only [Act.put, List.getElem_toArray, List.getElem_cons_succ, List.getElem_cons_zero, List.setIfInBounds_toArray, List.set_cons_zero, List.set_cons_succ]
      refine wpAny_done (by kernel_rfl) ?_ _
      go_wp2_with fail
      go_meet
      exact ⟨sq, rfl, hsq, HS4⟩
  case rest =>
    obtain ⟨sq, rfl, hsq, HS⟩ := hcut
    have HQ := Lib.hid hsq
    clear hsq
    cases sq with
    | false =>
      go_wp2_with (go_at_call 12; refine (awake_any _).mono ?_; rintro e wa ⟨rfl, hb⟩; have HBA := Lib.hid hb; clear hb)
      go_ret
      exact ⟨rfl, go3 HS.out.low HBA.out⟩
    | true =>
      obtain ⟨hs1, hs2, hs3⟩ := smallL.init (HQ.out rfl)
      have HS1 := Lib.hid hs1
      have HCN := Lib.hid (hs2.1 x (List.mem_singleton.2 rfl))
      clear HQ hs1 hs2 HSM HRR HRL HLR HRC1 HRX j0 ji jz0 jz1 jz2
      go_upto_region 4 with (go_at_call 13; refine (HBD.out _ (HC.out.below HS.out.low) HS1.out (HM.out.below HS.out.low)).mono ?_; rintro e w2 ⟨rs, recs, A2, c2, B2, d2, rfl, hdv, hvh, hsz, hsl, hb⟩; have HDV := Lib.hid hdv; have HVH := Lib.hid hvh; have HSZ := Lib.hid hsz; replace HS := HS.go2 (Below.refl _ _) hb; have HB2 := Lib.hid HS.out.low; clear hdv hb hvh hsz)
      replace HS := (HS.out.push [.slice A2 rs.length c2, .slice B2 recs.length d2] 28 (g := w2.heap.size) rfl).at_
      have h200 := HS1.out.2.2
      have hcgn : cgN x = x.es.length + x.rcs.length := rfl
      have HDP := Lib.hid (HVH.out.dp HSZ.out (by omega))
      have HAP := Lib.hid (fun W (h : DV W A2 c2 B2 d2 rs recs) (k : EV W C ce x.es) (q : RC W D dr x.rcs) mm => append_any A2 B2 c2 d2 rs recs x.n x.s x.t C D ce dr x.es x.rcs W h.1 h.2.1 h.2.2.1 h.2.2.2.1 k q HND.out mm
        (fun y hy => by have := HCN.out.1 y hy; unfold edS at this; simp at this; omega) (fun y hy => by have := HCN.out.2 y hy; unfold rcS at this; simp at this; exact ⟨by omega, by omega⟩) h.2.2.2.2 (by omega) (by omega) (by omega) (by omega) HDP.out.near (HVH.out.near (by omega)).2)
      replace HDV := Lib.hid (HDV.out.below (below_alloc _ (.cells #[.slice A2 rs.length c2, .slice B2 recs.length d2] 28)))
      obtain ⟨h0, h1, h2, h3, h4⟩ := (HS.out.get 0 rfl).c5
      obtain ⟨d0, d1⟩ := (HS.out.get 1 rfl).c2
      go_upto_region 5 with (go_at_call 23; refine (HAP.out _ (HDV.out.below (by repeat (first | exact Below.refl _ _ | apply Below.drew | apply below_drewN | apply below_al))) (HEV.out.below (HS.go (by repeat (first | exact Below.refl _ _ | apply Below.drew | apply below_drewN | apply below_al))).out.low) (HRC.out.below (HS.go (by repeat (first | exact Below.refl _ _ | apply Below.drew | apply below_drewN | apply below_al))).out.low) (HM.out.below (HS.go (by repeat (first | exact Below.refl _ _ | apply Below.drew | apply below_drewN | apply below_al))).out.low)).mono ?_; intro e w6 hR; obtain ⟨en, A3, k3, c3, B3, m3, d3, rfl, hb, hok⟩ := hR.one; have HOK := Lib.hid hok; replace HDV := Lib.hid (HDV.out.below (go3 (by repeat (first | exact Below.refl _ _ | apply Below.drew | apply below_drewN | apply below_al)) hb)); replace HS := HS.go2 (by repeat (first | exact Below.refl _ _ | apply Below.drew | apply below_drewN | apply below_al)) hb; clear hR hok hb)
      replace HS := (HS.out.push [.slice A3 k3 c3, .slice B3 m3 d3] 28 (g := w6.heap.size) rfl).at_
      replace HDV := Lib.hid (HDV.out.below (below_alloc _ (.cells #[.slice A3 k3 c3, .slice B3 m3 d3] 28)))
      by_cases hen : en = 0
      · have b1 : (en != 0) = false := by simpa using hen
        obtain ⟨hbt, hk3, hrv3, _⟩ := HOK.out hen
        have HBT := Lib.hid hbt
        have HR3 := Lib.hid (hrv3.below (below_alloc _ (.cells #[.slice A3 k3 c3, .slice B3 m3 d3] 28)))
        have HDP3 : Hid (Dp (rs ++ x.es.map (madeR x.n))) := Lib.hid ((VH.app HVH.out hbt).dp (HSZ.out.app HCN.out.1) (by rw [List.length_append, List.length_map]; omega))
        have HGR := Lib.hid (fun f => HDP.out.inv.line_grow hbt f)
        have HNW := Lib.hid (fun f hf => HDP.out.inv.line_new hbt (f := f) hf)
        have HR2 := Lib.hid HDV.out.1
        subst hk3
        clear hen HOK hbt hrv3 HDV HAP HBT HVH HSZ HCN HEV HRC HBD HC h200 hcgn hs3 hsl HS1
        generalize rs ++ x.es.map (madeR x.n) = rs3 at *
        have HF5 : Hid ((linesR rs).length ≤ 500) := Lib.hid (by unfold linesR; rw [List.length_map]; have := List.length_filter_le (fun v : Rv => v.act == 1) rs; have := HDP.out.len; omega)
        have HG5 : Hid ((linesR rs3).length ≤ 500) := Lib.hid (by unfold linesR; rw [List.length_map]; have := List.length_filter_le (fun v : Rv => v.act == 1) rs3; have := HDP3.out.len; omega)
        have HL5 : Hid (∀ f, (lineR rs f).length ≤ 500 ∧ (lineR rs3 f).length ≤ 500) := Lib.hid (fun f => by unfold lineR; have := List.length_filter_le (memF rs f) rs; have := HDP.out.len; have := List.length_filter_le (memF rs3 f) rs3; have := HDP3.out.len; omega)
        have HNP := Lib.hid (fun W h => lines_any A2 B2 c2 recs.length d2 rs W h (Nat.le_trans HDP.out.len (by decide)))
        have HNN := Lib.hid (fun W h => lines_any A3 B3 c3 m3 d3 rs3 W h (Nat.le_trans HDP3.out.len (by decide)))
        unfold RetFs at HNP HNN
        generalize hfs : linesR rs = fs at *
        generalize hgs : linesR rs3 = gs at *
        have hf5 := HF5.out
        have hg5 := HG5.out
        clear h0 h1 h2 h3 h4 d0 d1
        obtain ⟨d0, d1⟩ := (HS.out.get 1 rfl).c2
        go_upto_region 8 with (go_at_call 21; refine (HNP.out _ (HR2.out.below (by repeat (first | exact Below.refl _ _ | apply Below.drew | apply below_drewN | apply below_al)))).mono ?_; rintro e w7 ⟨A5, c5, rfl, hv5, hb⟩; have HF1 := Lib.hid hv5; have q5 := hv5.1; have q5' := hv5.2.1; rw [List.length_map] at q5; replace HR2 := Lib.hid (HR2.out.below (go3 (by repeat (first | exact Below.refl _ _ | apply Below.drew | apply below_drewN | apply below_al)) hb)); replace HR3 := Lib.hid (HR3.out.below (go3 (by repeat (first | exact Below.refl _ _ | apply Below.drew | apply below_drewN | apply below_al)) hb)); replace HS := HS.go2 (by repeat (first | exact Below.refl _ _ | apply Below.drew | apply below_drewN | apply below_al)) hb; clear hb hv5)
        go_loopw [38] (fun s wr => ∃ k : Nat, k ≤ fs.length ∧ s = .int .i64 k ∧ Hid (BB w [(w.heap.size, [.int .i64 x.n, .string x.s, .string x.t, .slice C x.es.length ce, .slice D x.rcs.length dr]), (w2.heap.size, [.slice A2 rs.length c2, .slice B2 recs.length d2]), (w6.heap.size, [.slice A3 rs3.length c3, .slice B3 m3 d3])] wr) ∧ Hid (RV wr A2 c2 rs) ∧ Hid (RV wr A3 c3 rs3) ∧ Hid (FV wr A5 c5 fs)) (fun s _ => fs.length - (intOf s).toNat)
        case atStart => exact ⟨0, Nat.zero_le _, rfl, Lib.hid HS.out, HR2, HR3, HF1⟩
        case round =>
          clear HS HR2 HR3 HF1 d0 d1
          obtain ⟨k, hk, rfl, HS0, HR2, HR3, HF1⟩ := hrel
          have HS := HS0.out.at_
          clear HS0
          by_cases hlt : k < fs.length
          · obtain ⟨f, hf⟩ : ∃ f, fs[k]? = some f := ⟨_, List.getElem?_eq_getElem hlt⟩
            obtain ⟨b5, o5, rfl, hb5, x0, x1⟩ := HF1.out.at_ hf
            obtain ⟨t, ht, ht1, ht2⟩ := HGR.out f
            have hll := HL5.out f
            have HLA := Lib.hid (fun W h => lline_any A2 B2 c2 recs.length d2 rs f.1 f.2 W h HDP.out)
            have HLB := Lib.hid (fun W h => lline_any A3 B3 c3 m3 d3 rs3 f.1 f.2 W h HDP3.out)
            unfold RetVN at HLA HLB
            rw [show lineR rs3 (f.1, f.2) = lineR rs f ++ t from ht] at HLB
            rw [ht] at hll
            rw [show lineR rs (f.1, f.2) = lineR rs f from rfl] at HLA
            generalize lineR rs f = la at *
            obtain ⟨hl1, hl2⟩ := hll
            clear hf ht
            replace HS := (HS.out.push [.string f.1, .int .i64 f.2] 31 (g := wr.heap.size) rfl).at_
            replace HR2 := Lib.hid (HR2.out.below (below_alloc _ (.cells #[.string f.1, .int .i64 f.2] 31)))
            replace HR3 := Lib.hid (HR3.out.below (below_alloc _ (.cells #[.string f.1, .int .i64 f.2] 31)))
            replace HF1 := Lib.hid (HF1.out.below (below_alloc _ (.cells #[.string f.1, .int .i64 f.2] 31)))
            go_upto_region 10 with (fail)
            obtain ⟨d0, d1⟩ := (HS.out.get 1 rfl).c2
            obtain ⟨n0, n1⟩ := (HS.out.get 2 rfl).c2
            obtain ⟨f0, f1⟩ := (HS.out.get 3 rfl).c2
            go_region_held3 (fun w' => w'.cell? ⟨w2.heap.size, 0, none⟩ = some (.slice A2 rs.length c2) ∧ w'.cell? ⟨w2.heap.size, 1, none⟩ = some (.slice B2 recs.length d2) ∧ w'.cell? ⟨w6.heap.size, 0, none⟩ = some (.slice A3 rs3.length c3) ∧ w'.cell? ⟨w6.heap.size, 1, none⟩ = some (.slice B3 m3 d3) ∧ w'.cell? ⟨wr.heap.size, 0, none⟩ = some (.string f.1) ∧ w'.cell? ⟨wr.heap.size, 1, none⟩ = some (.int .i64 f.2))
              (first | exact ⟨((HS.go (by repeat (first | exact Below.refl _ _ | apply Below.drew | apply below_drewN | apply below_al))).out.get 1 rfl).c2.1, ((HS.go (by repeat (first | exact Below.refl _ _ | apply Below.drew | apply below_drewN | apply below_al))).out.get 1 rfl).c2.2, ((HS.go (by repeat (first | exact Below.refl _ _ | apply Below.drew | apply below_drewN | apply below_al))).out.get 2 rfl).c2.1, ((HS.go (by repeat (first | exact Below.refl _ _ | apply Below.drew | apply below_drewN | apply below_al))).out.get 2 rfl).c2.2, ((HS.go (by repeat (first | exact Below.refl _ _ | apply Below.drew | apply below_drewN | apply below_al))).out.get 3 rfl).c2.1, ((HS.go (by repeat (first | exact Below.refl _ _ | apply Below.drew | apply below_drewN | apply below_al))).out.get 3 rfl).c2.2⟩)
              (first
                | (go_at_call 18; with_reducible refine (HLA.out _ ?hx).mono ?_; (case hx => exact HR2.out.below (by repeat (first | exact Below.refl _ _ | apply Below.drew | apply below_drewN | apply below_al))); rintro e w3 ⟨A7, c7, rfl, hv7, hb, _⟩; have HL1 := Lib.hid hv7; have q7 := hv7.lenc; have q7' := hv7.capc; replace HR2 := Lib.hid (HR2.out.below (go3 (by repeat (first | exact Below.refl _ _ | apply Below.drew | apply below_drewN | apply below_al)) hb)); replace HR3 := Lib.hid (HR3.out.below (go3 (by repeat (first | exact Below.refl _ _ | apply Below.drew | apply below_drewN | apply below_al)) hb)); replace HF1 := Lib.hid (HF1.out.below (go3 (by repeat (first | exact Below.refl _ _ | apply Below.drew | apply below_drewN | apply below_al)) hb)); replace HS := HS.go2 (by repeat (first | exact Below.refl _ _ | apply Below.drew | apply below_drewN | apply below_al)) hb; clear hb hv7 d0 d1 n0 n1 f0 f1)
                | (go_at_call 18; with_reducible refine (HLB.out _ ?hx).mono ?_; (case hx => exact HR3.out.below (by repeat (first | exact Below.refl _ _ | apply Below.drew | apply below_drewN | apply below_al))); rintro e w4 ⟨A8, c8, rfl, hv8, hb, _⟩; have HL2 := Lib.hid hv8; have q8 := hv8.lenc; have q8' := hv8.capc; replace HL1 := Lib.hid (HL1.out.below (go3 (by repeat (first | exact Below.refl _ _ | apply Below.drew | apply below_drewN | apply below_al)) hb)); replace HR2 := Lib.hid (HR2.out.below (go3 (by repeat (first | exact Below.refl _ _ | apply Below.drew | apply below_drewN | apply below_al)) hb)); replace HR3 := Lib.hid (HR3.out.below (go3 (by repeat (first | exact Below.refl _ _ | apply Below.drew | apply below_drewN | apply below_al)) hb)); replace HF1 := Lib.hid (HF1.out.below (go3 (by repeat (first | exact Below.refl _ _ | apply Below.drew | apply below_drewN | apply below_al)) hb)); replace HS := HS.go2 (by repeat (first | exact Below.refl _ _ | apply Below.drew | apply below_drewN | apply below_al)) hb; clear hb hv8))
            all_goals
              have HTK : Hid (RV w4 A8 c8 la) := Lib.hid (RV.pre HL2.out)
              have h0 := ((HS.go (by repeat (first | exact Below.refl _ _ | apply Below.drew | apply below_drewN | apply below_al))).out.get 0 rfl).c5.1
              have HSQ : Hid (∀ n, Calls Tryd.prog 19 #[.slice A7 la.length c7, .slice A8 la.length c8] (w4.drewN n) fun e w'' => e = .returned (.bool true) ∧ ∃ m, w'' = w4.drewN m) := Lib.hid (fun n => Calls.quiet_of (sameQ_any A7 A8 c7 c8 la la _ (HL1.out.below (below_drewN (Below.refl _ _) _)) (HTK.out.below (below_drewN (Below.refl _ _) _)) rfl (by omega)))
              rcases t with _ | ⟨v, _ | ⟨v2, t⟩⟩
              · simp only [List.length_nil, Nat.add_zero, List.append_nil] at q8 HL2 ⊢
                have hw1 : IntKind.i64.wrap ((la.length : Int) + 1) = (la.length : Int) + 1 := IntWalk.i64_in _ (by omega)
                have g1 : decide ((la.length : Int) < (la.length : Int)) = false := by simp
                have g2 : decide (IntKind.i64.wrap ((la.length : Int) + 1) < (la.length : Int)) = false := by rw [hw1]; simp; omega
                have g4 : decide ((la.length : Int) + 1 < (la.length : Int)) = false := by simp; omega
                clear ht1 ht2 hw1
                go_upto_region 11 with (fail)
                go_quiet ((go_at_call 19; exact HSQ.out _))
                all_goals
                  go_wp2_with fail
                  go_roundw
                  case rel => exact ⟨k + 1, by omega, by go_num, Lib.hid ((show BB w [(w.heap.size, [.int .i64 x.n, .string x.s, .string x.t, .slice C x.es.length ce, .slice D x.rcs.length dr]), (w2.heap.size, [.slice A2 rs.length c2, .slice B2 recs.length d2]), (w6.heap.size, [.slice A3 rs3.length c3, .slice B3 m3 d3])] _ from ⟨fun p hp => HS.out.1 p (by simp only [List.mem_cons, List.not_mem_nil, or_false] at hp ⊢; rcases hp with rfl | rfl | rfl <;> simp), HS.out.2⟩).at_.go (by repeat (first | exact Below.refl _ _ | apply Below.drew | apply below_drewN | apply below_al))).out, Lib.hid (HR2.out.below (by repeat (first | exact Below.refl _ _ | apply Below.drew | apply below_drewN | apply below_al))), Lib.hid (HR3.out.below (by repeat (first | exact Below.refl _ _ | apply Below.drew | apply below_drewN | apply below_al))), Lib.hid (HF1.out.below (by repeat (first | exact Below.refl _ _ | apply Below.drew | apply below_drewN | apply below_al)))⟩
                  case measure => simp [intOf]; omega
              · simp only [List.length_cons, List.length_nil, Nat.zero_add] at q8 ⊢
                have hvc : v.chg = x.n := ht2 v (by simp)
                have hw1 : IntKind.i64.wrap ((la.length : Int) + 1) = (la.length : Int) + 1 := IntWalk.i64_in _ (by omega)
                have g1 : decide ((la.length : Int) + 1 < (la.length : Int)) = false := by simp; omega
                have g2 : decide (IntKind.i64.wrap ((la.length : Int) + 1) < (la.length : Int) + 1) = false := by rw [hw1]; simp
                have g3 : decide ((la.length : Int) < (la.length : Int) + 1) = true := by simp; omega
                have q9 : la.length ≤ c8 := by have := HTK.out.lenc; exact this
                obtain ⟨b8, o8, rfl, hb8, y0, y1, y2, y3, y4, y5, y6, y7, y8, y9, y10, y11⟩ := HL2.out.at_ (j := la.length) (v := v) (by simp)
                have HY2 : Hid (∀ W, RV W (some ⟨b8, o8, none⟩) c8 (la ++ [v]) → W.cell? ⟨b8, o8 + la.length * 12 + 2, none⟩ = some (.int .i64 x.n)) := Lib.hid (fun W h => by obtain ⟨b, o, e, _, _, _, z, _⟩ := h.at_ (j := la.length) (v := v) (by simp); cases e; rw [z, hvc])
                rw [hvc] at y2
                clear ht1 ht2 hw1 hvc
                go_upto_region 11 with (fail)
                go_quiet ((go_at_call 19; exact HSQ.out _))
                all_goals
                  go_wp2_with fail
                  go_roundw
                  case rel => exact ⟨k + 1, by omega, by go_num, Lib.hid ((show BB w [(w.heap.size, [.int .i64 x.n, .string x.s, .string x.t, .slice C x.es.length ce, .slice D x.rcs.length dr]), (w2.heap.size, [.slice A2 rs.length c2, .slice B2 recs.length d2]), (w6.heap.size, [.slice A3 rs3.length c3, .slice B3 m3 d3])] _ from ⟨fun p hp => HS.out.1 p (by simp only [List.mem_cons, List.not_mem_nil, or_false] at hp ⊢; rcases hp with rfl | rfl | rfl <;> simp), HS.out.2⟩).at_.go (by repeat (first | exact Below.refl _ _ | apply Below.drew | apply below_drewN | apply below_al))).out, Lib.hid (HR2.out.below (by repeat (first | exact Below.refl _ _ | apply Below.drew | apply below_drewN | apply below_al))), Lib.hid (HR3.out.below (by repeat (first | exact Below.refl _ _ | apply Below.drew | apply below_drewN | apply below_al))), Lib.hid (HF1.out.below (by repeat (first | exact Below.refl _ _ | apply Below.drew | apply below_drewN | apply below_al)))⟩
                  case measure => simp [intOf]; omega
              · exfalso
                simp at ht1
          · obtain rfl : k = fs.length := by omega
            obtain ⟨wo, rfl⟩ : ∃ wo, wo = wr := ⟨wr, rfl⟩
            obtain ⟨n0, n1⟩ := (HS.out.get 2 rfl).c2
            go_upto_region 15 with (go_at_call 21; refine (HNN.out _ (HR3.out.below (by repeat (first | exact Below.refl _ _ | apply Below.drew | apply below_drewN | apply below_al)))).mono ?_; rintro e w8 ⟨A6, c6, rfl, hv6, hb⟩; have HF2 := Lib.hid hv6; have q6 := hv6.lenc; have q6' := hv6.capc; replace HR3 := Lib.hid (HR3.out.below (go3 (by repeat (first | exact Below.refl _ _ | apply Below.drew | apply below_drewN | apply below_al)) hb)); replace HS := HS.go2 (by repeat (first | exact Below.refl _ _ | apply Below.drew | apply below_drewN | apply below_al)) hb; clear hb hv6 n0 n1)
            have HGT := Lib.hid (fun p n W h => hget_any A3 B3 c3 m3 d3 rs3 p n W h (Nat.le_trans HDP3.out.len (by decide)) HDP3.out.inv)
            have HGS : Hid (∀ f ∈ gs, ∃ v, getR rs3 f.1 f.2 = some v ∧ (v.chg = x.n → (lineR rs3 f).length = 1)) := Lib.hid (by subst hgs; exact HNW.out)
            clear HNW HGR HNP HNN hfs hgs HF1 HR2 HF5 HDP
            unfold RetOR at HGT
            go_loopw [92] (fun s wr => ∃ k : Nat, k ≤ gs.length ∧ s = .int .i64 k ∧ Hid (BB w [(w.heap.size, [.int .i64 x.n, .string x.s, .string x.t, .slice C x.es.length ce, .slice D x.rcs.length dr]), (w2.heap.size, [.slice A2 rs.length c2, .slice B2 recs.length d2]), (w6.heap.size, [.slice A3 rs3.length c3, .slice B3 m3 d3])] wr) ∧ Hid (RV wr A3 c3 rs3) ∧ Hid (FV wr A6 c6 gs)) (fun s _ => gs.length - (intOf s).toNat)
            case atStart => exact ⟨0, Nat.zero_le _, rfl, Lib.hid HS.out, HR3, HF2⟩
            case round =>
              clear HS HR3 HF2
              obtain ⟨k, hk, rfl, HS0, HR3, HF2⟩ := hrel
              have HS := HS0.out.at_
              clear HS0
              by_cases hlt : k < gs.length
              · obtain ⟨f, hf⟩ : ∃ f, gs[k]? = some f := ⟨_, List.getElem?_eq_getElem hlt⟩
                obtain ⟨b6, o6, rfl, hb6, x0, x1⟩ := HF2.out.at_ hf
                obtain ⟨v, hg1, hg2⟩ := HGS.out f (List.mem_of_getElem? hf)
                have HLB := Lib.hid (fun W h => lline_any A3 B3 c3 m3 d3 rs3 f.1 f.2 W h HDP3.out)
                have HG := Lib.hid (HGT.out f.1 f.2)
                rw [hg1] at HG
                simp only [Option.getD_some, Option.isSome_some] at HG
                unfold RetVN at HLB
                unfold aggR at HG
                rw [show lineR rs3 (f.1, f.2) = lineR rs3 f from rfl] at HLB
                have hl5 := (HL5.out f).2
                generalize lineR rs3 f = lb at *
                replace HS := (HS.out.push [.string f.1, .int .i64 f.2] 31 (g := wr.heap.size) rfl).at_
                replace HR3 := Lib.hid (HR3.out.below (below_alloc _ (.cells #[.string f.1, .int .i64 f.2] 31)))
                replace HF2 := Lib.hid (HF2.out.below (below_alloc _ (.cells #[.string f.1, .int .i64 f.2] 31)))
                clear hf hg1
                go_upto_region 17 with (fail)
                obtain ⟨n0, n1⟩ := (HS.out.get 2 rfl).c2
                obtain ⟨f0, f1⟩ := (HS.out.get 3 rfl).c2
                go_upto_region 18 with (go_at_call 24; refine (HG.out _ (HR3.out.below (by repeat (first | exact Below.refl _ _ | apply Below.drew | apply below_drewN | apply below_al)))).mono ?_; rintro e w9 ⟨rfl, hb⟩; replace HR3 := Lib.hid (HR3.out.below (go3 (by repeat (first | exact Below.refl _ _ | apply Below.drew | apply below_drewN | apply below_al)) hb)); replace HF2 := Lib.hid (HF2.out.below (go3 (by repeat (first | exact Below.refl _ _ | apply Below.drew | apply below_drewN | apply below_al)) hb)); replace HS := HS.go2 (by repeat (first | exact Below.refl _ _ | apply Below.drew | apply below_drewN | apply below_al)) hb; clear hb n0 n1 f0 f1)
                replace HS := (HS.out.push [.string v.path, .int .i64 v.num, .int .i64 v.chg, .int .i64 v.act, .int .i64 v.ty.1, .bool v.ty.2.1, .bool v.ty.2.2.1, .bool v.ty.2.2.2, .int .u64 v.cid.1, .int .i64 v.cid.2, .string v.frm, .int .i64 v.fnum] 40 (g := w9.heap.size) rfl).at_
                replace HR3 := Lib.hid (HR3.out.below (below_alloc _ (.cells #[.string v.path, .int .i64 v.num, .int .i64 v.chg, .int .i64 v.act, .int .i64 v.ty.1, .bool v.ty.2.1, .bool v.ty.2.2.1, .bool v.ty.2.2.2, .int .u64 v.cid.1, .int .i64 v.cid.2, .string v.frm, .int .i64 v.fnum] 40)))
                replace HF2 := Lib.hid (HF2.out.below (below_alloc _ (.cells #[.string v.path, .int .i64 v.num, .int .i64 v.chg, .int .i64 v.act, .int .i64 v.ty.1, .bool v.ty.2.1, .bool v.ty.2.2.1, .bool v.ty.2.2.2, .int .u64 v.cid.1, .int .i64 v.cid.2, .string v.frm, .int .i64 v.fnum] 40)))
                obtain ⟨h0, _, _, _, _⟩ := (HS.out.get 0 rfl).c5
                obtain ⟨n0, n1⟩ := (HS.out.get 2 rfl).c2
                obtain ⟨f0, f1⟩ := (HS.out.get 3 rfl).c2
                obtain ⟨v0, v1, v2, v3, v4, v5, v6, v7, v8, v9, v10, v11⟩ := (HS.out.get 4 rfl).rev
                have HB3 : At (BB w [(w.heap.size, [.int .i64 x.n, .string x.s, .string x.t, .slice C x.es.length ce, .slice D x.rcs.length dr]), (w2.heap.size, [.slice A2 rs.length c2, .slice B2 recs.length d2]), (w6.heap.size, [.slice A3 rs3.length c3, .slice B3 m3 d3])]) (w9.alloc (.cells #[.string v.path, .int .i64 v.num, .int .i64 v.chg, .int .i64 v.act, .int .i64 v.ty.1, .bool v.ty.2.1, .bool v.ty.2.2.1, .bool v.ty.2.2.2, .int .u64 v.cid.1, .int .i64 v.cid.2, .string v.frm, .int .i64 v.fnum] 40)) := (show BB w [(w.heap.size, [.int .i64 x.n, .string x.s, .string x.t, .slice C x.es.length ce, .slice D x.rcs.length dr]), (w2.heap.size, [.slice A2 rs.length c2, .slice B2 recs.length d2]), (w6.heap.size, [.slice A3 rs3.length c3, .slice B3 m3 d3])] _ from ⟨fun p hp => HS.out.1 p (by simp only [List.mem_cons, List.not_mem_nil, or_false] at hp ⊢; rcases hp with rfl | rfl | rfl <;> simp), HS.out.2⟩).at_
                by_cases hvc : v.chg = x.n
                · have hl1 := hg2 hvc
                  have b1 : (v.chg == x.n) = true := by simpa using hvc
                  clear hg2 hvc
                  go_wp2_with (go_at_call 18; refine (HLB.out _ (HR3.out.below (by repeat (first | exact Below.refl _ _ | apply Below.drew | apply below_drewN | apply below_al)))).mono ?_; rintro e w3 ⟨A7, c7, rfl, hv7, hb, _⟩; rw [hl1]; replace HR3 := Lib.hid (HR3.out.below (go3 (by repeat (first | exact Below.refl _ _ | apply Below.drew | apply below_drewN | apply below_al)) hb)); replace HF2 := Lib.hid (HF2.out.below (go3 (by repeat (first | exact Below.refl _ _ | apply Below.drew | apply below_drewN | apply below_al)) hb)); replace HB3 := HB3.go2 (by repeat (first | exact Below.refl _ _ | apply Below.drew | apply below_drewN | apply below_al)) hb; clear hb hv7)
                  go_roundw
                  case rel => exact ⟨k + 1, by omega, by go_num, Lib.hid (HB3.go (by repeat (first | exact Below.refl _ _ | apply Below.drew | apply below_drewN | apply below_al))).out, Lib.hid (HR3.out.below (by repeat (first | exact Below.refl _ _ | apply Below.drew | apply below_drewN | apply below_al))), Lib.hid (HF2.out.below (by repeat (first | exact Below.refl _ _ | apply Below.drew | apply below_drewN | apply below_al)))⟩
                  case measure => simp [intOf]; omega
                · have b1 : (v.chg == x.n) = false := by simpa using hvc
                  clear hg2 hvc
                  go_wp2_with fail
                  go_roundw
                  case rel => exact ⟨k + 1, by omega, by go_num, Lib.hid (HB3.go (by repeat (first | exact Below.refl _ _ | apply Below.drew | apply below_drewN | apply below_al))).out, Lib.hid (HR3.out.below (by repeat (first | exact Below.refl _ _ | apply Below.drew | apply below_drewN | apply below_al))), Lib.hid (HF2.out.below (by repeat (first | exact Below.refl _ _ | apply Below.drew | apply below_drewN | apply below_al)))⟩
                  case measure => simp [intOf]; omega
              · obtain rfl : k = gs.length := by omega
                go_wp2_with (go_at_call 12; refine (awake_any _).mono ?_; rintro e wa ⟨rfl, hb⟩; have HBA := Lib.hid hb; clear hb)
                go_ret
                exact ⟨rfl, go3 HS.out.low HBA.out⟩
      · have b1 : (en != 0) = true := by simpa using hen
        clear hen HOK
        go_wp2_with (go_at_call 12; refine (awake_any _).mono ?_; rintro e wa ⟨rfl, hb⟩; have HBA := Lib.hid hb; clear hb)
        go_ret
        exact ⟨rfl, go3 HS.out.low HBA.out⟩
end Go.Proofs.YteagecjhpfijjaaDoor

