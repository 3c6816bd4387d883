/-
  The walk of the merger's same: a stable line that joins the piece ahead.
-/
import Derived.Test.YtfhkmmicdbblnaaDoorL12
namespace Go.Proofs.YtfhkmmicdbblnaaDoor
set_option linter.unusedSimpArgs false
set_option linter.unusedVariables false
open Go.RowKit

theorem PL.len {w : World} {base : Nat} {v : Value} {qs : List (Pc ByteArray)} {kd : Int} {us : List Value} {ls : List (List ByteArray)} (h : PL w base v qs kd us ls) : ∃ g cap, v = .slice (some ⟨g, 0, none⟩) (qs.length + 1) cap ∧ base ≤ g ∧ g < w.heap.size ∧ qs.length + 1 ≤ cap ∧ cap ≤ 9223372036854775807 := by
  obtain ⟨rows, h1, h2, h3, h4, _⟩ := h
  have hrl : rows.length = qs.length := by have := h4.1; rw [List.length_map] at this; exact this.symm
  obtain ⟨g, cap, e⟩ := h1.block (by simp)
  rw [List.length_append, hrl, List.length_singleton] at e
  subst e
  obtain ⟨_, _, a3, a4, a5, a6, a7⟩ := h1.cell (j := rows.length) (r := .int .i64 kd :: us) (by simp) (i := 0) (u := .int .i64 kd) rfl
  exact ⟨g, cap, rfl, a3, a4, a6, a7⟩
theorem PL.cell {w : World} {base g n cap : Nat} {qs : List (Pc ByteArray)} {kd : Int} {us : List Value} {ls : List (List ByteArray)} (h : PL w base (.slice (some ⟨g, 0, none⟩) n cap) qs kd us ls) (j : Nat) {u : Value} (hu : us[j]? = some u) :
    w.cell? ⟨g, qs.length * 4 + (1 + j), none⟩ = some u ∧ w.frozen? ⟨g, qs.length * 4 + (1 + j), none⟩ = false := by
  obtain ⟨rows, h1, h2, h3, h4, _⟩ := h
  have hrl : rows.length = qs.length := by have := h4.1; rw [List.length_map] at this; exact this.symm
  have := h1.cell (j := rows.length) (r := .int .i64 kd :: us) (by simp) (i := 1 + j) (u := u) (by rw [Nat.add_comm]; simpa using hu)
  rw [hrl] at this
  exact ⟨this.1, this.2.1⟩
theorem PL.row {w : World} {base : Nat} {v : Value} {qs : List (Pc ByteArray)} {kd : Int} {us : List Value} {ls : List (List ByteArray)} (h : PL w base v qs kd us ls) (j : Nat) {u : Value} {l : List ByteArray} (hu : us[j]? = some u) (hl : ls[j]? = some l) : OT w base u l := by
  obtain ⟨_, _, _, _, _, h5, _⟩ := h
  exact h5 j u l hu hl
theorem PL.own3 {w : World} {base : Nat} {v : Value} {qs : List (Pc ByteArray)} {kd : Int} {us : List Value} {ls : List (List ByteArray)} (h : PL w base v qs kd us ls) (j : Nat) {u : Value} {l : List ByteArray} (hu : us[j]? = some u) (hl : ls[j]? = some l) : ∀ k, u.ownBlock = some k → base ≤ k ∧ k < w.heap.size := fun k e => World.ownsRow.lt (h.row j hu hl) k e
theorem PL.uslen {w : World} {base : Nat} {v : Value} {qs : List (Pc ByteArray)} {kd : Int} {us : List Value} {ls : List (List ByteArray)} (h : PL w base v qs kd us ls) : us.length = 3 := by
  obtain ⟨_, _, h2, _⟩ := h
  exact h2
theorem PL.off3 {w : World} {base g n cap : Nat} {qs : List (Pc ByteArray)} {kd : Int} {us : List Value} {ls : List (List ByteArray)} (h : PL w base (.slice (some ⟨g, 0, none⟩) n cap) qs kd us ls) {u : Value} (hu : u ∈ us) : u.ownBlock ≠ some g := by
  obtain ⟨_, _, _, _, _, _, h6, _⟩ := h
  exact h6 u hu g rfl
theorem OT.shape {w : World} {base : Nat} {v : Value} {xs : List ByteArray} (h : OT w base v xs) : ∃ A n c, v = .slice A n c := by
  obtain ⟨A, c, e, _⟩ := h.read
  exact ⟨A, _, c, e⟩
/-- the state while a line joins the last piece -/
def YS (W w : World) (tv v : Value) (t : List Nat) (g : Nat) (s1 s2 s3 : Value) (l1 l2 l3 : List ByteArray) (qs : List (Pc ByteArray)) (kd : Int) (us : List Value) (ls : List (List ByteArray)) (wx : World) : Prop :=
  MB wx W.heap.size tv t v ∧ BX wx g [.int .i64 0, s1, s2, s3] ∧ (OT wx w.heap.size s1 l1 ∧ OT wx w.heap.size s2 l2 ∧ OT wx w.heap.size s3 l3) ∧ w.heap.size ≤ g ∧ PL wx (W.heap.size + 1) v qs kd us ls ∧ Below W.heap.size W wx ∧ W.heap.size < w.heap.size
theorem YS.kept (W w : World) (tv v : Value) (t : List Nat) (g : Nat) (s1 s2 s3 : Value) (l1 l2 l3 : List ByteArray) (qs : List (Pc ByteArray)) (kd : Int) (us : List Value) (ls : List (List ByteArray)) : Kept (YS W w tv v t g s1 s2 s3 l1 l2 l3 qs kd us ls) := fun X Y h hb => by
  obtain ⟨h1, h2, ⟨h3, h4, h5⟩, h6, h7, h8, h9⟩ := h
  exact ⟨h1.below hb, h2.below hb, ⟨h3.below hb, h4.below hb, h5.below hb⟩, h6, h7.grown (gb_below (World.grownBy.refl X none) hb) (fun j e => by cases e), go3 h8 hb, h9⟩
theorem YS.put {W w : World} {tv : Value} {t : List Nat} {g g7 n cap : Nat} {s1 s2 s3 : Value} {l1 l2 l3 : List ByteArray} {qs : List (Pc ByteArray)} {kd : Int} {us : List Value} {ls : List (List ByteArray)} {wx w1 : World} (h : YS W w tv (.slice (some ⟨g7, 0, none⟩) n cap) t g s1 s2 s3 l1 l2 l3 qs kd us ls wx) (hg7 : g7 < w.heap.size)
    {j : Nat} {u u' : Value} {l' : List ByteArray} (hj : us[j]? = some u) (hul : ∀ k, u.ownBlock = some k → W.heap.size + 1 ≤ k ∧ k < w.heap.size) (hot : OT w1 (W.heap.size + 1) u' l') (hg : wx.grownBy w1 u.ownBlock) (hu : u'.ownBlock = u.ownBlock ∨ u'.ownBlock = some wx.heap.size) {a : Nat} (ha : a = qs.length * 4 + (1 + j)) :
    YS W w tv (.slice (some ⟨g7, 0, none⟩) n cap) t g s1 s2 s3 l1 l2 l3 qs kd (us.set j u') (ls.set j l') (w1.setCell ⟨g7, a, none⟩ u') := by
  subst ha
  obtain ⟨h1, h2, ⟨h3, h4, h5⟩, h6, h7, h8, h9⟩ := h
  have hg7b : W.heap.size + 1 ≤ g7 := by obtain ⟨_, _, e, hb, _⟩ := h7.len; cases e; exact hb
  have o : ∀ {s : Value} {l : List ByteArray}, OT wx w.heap.size s l → OT (w1.setCell ⟨g7, qs.length * 4 + (1 + j), none⟩ u') w.heap.size s l := fun ho =>
    (ho.kept hg (fun k e e2 => by have := hul k e; have := ho.own k e2; omega)).otherN (p := ⟨g7, _, none⟩) (fun e => by have := ho.own _ e; simp only at this; omega) _
  refine ⟨(h1.grown hg (fun e => by have := hul _ e; omega)).other (p := ⟨g7, _, none⟩) (by simp only; omega) _, (h2.grown hg (fun e => by have := hul _ e; omega)).other (p := ⟨g7, _, none⟩) (by simp only; omega) _, ⟨o h3, o h4, o h5⟩, h6, h7.put hj hot hg hu, ?_, h9⟩
  exact (h8.grown hg h8.size (fun k e => by have := hul k e; omega)).setCell (p := ⟨g7, _, none⟩) (by simp only; omega) _

theorem YS.g7lt {W w : World} {tv : Value} {t : List Nat} {g g7 n cap : Nat} {s1 s2 s3 : Value} {l1 l2 l3 : List ByteArray} {qs : List (Pc ByteArray)} {kd : Int} {us : List Value} {ls : List (List ByteArray)} {wx : World} (h : YS W w tv (.slice (some ⟨g7, 0, none⟩) n cap) t g s1 s2 s3 l1 l2 l3 qs kd us ls wx) : g7 < wx.heap.size := by
  obtain ⟨_, _, e, _, hb, _⟩ := h.2.2.2.2.1.len
  cases e
  exact hb
theorem YS.hsize {W w : World} {tv v : Value} {t : List Nat} {g : Nat} {s1 s2 s3 : Value} {l1 l2 l3 : List ByteArray} {qs : List (Pc ByteArray)} {kd : Int} {us : List Value} {ls : List (List ByteArray)} {wx : World} (h : YS W w tv v t g s1 s2 s3 l1 l2 l3 qs kd us ls wx) : W.heap.size + 1 ≤ wx.heap.size := h.1.2.2.2.2.2

set_option maxHeartbeats 8000000 in
set_option maxRecDepth 100000 in
theorem same_yes (W : World) (TA : Option Addr) (tc : Nat) (O A B : List ByteArray) (f1 f2 f3 : Nat) (v : Value) (qs : List (Pc ByteArray)) (p : Pc ByteArray) (us : List Value) (w : World) (hm : MB w W.heap.size (.slice TA 3 tc) [f1, f2, f3] v) (hp : PL w (W.heap.size + 1) v qs p.kind us [p.o, p.a, p.b]) (hb : Below W.heap.size W w) (ht : RF W TA tc 1 ([O, A, B].map lnF))
    (b1 : f1 < O.length) (b2 : f2 < A.length) (b3 : f3 < B.length) (n1 : O.length ≤ 1000) (n2 : A.length ≤ 1000) (n3 : B.length ≤ 1000) (hl : p.o.length ≤ 100000 ∧ p.a.length ≤ 100000 ∧ p.b.length ≤ 100000) :
    Calls Tryd.prog 38 #[.pointer (some ⟨W.heap.size, 0, none⟩), .bool true] w (RetM W (.slice TA 3 tc) [f1 + 1, f2 + 1, f3 + 1] (qs ++ [⟨p.kind, p.o ++ seg O f1 (f1 + 1), p.a ++ seg A f2 (f2 + 1), p.b ++ seg B f3 (f3 + 1)⟩])) := by
  obtain ⟨_, m0, m1, m4, mf, ml⟩ := id hm
  have y0 := m1 0 _ rfl
  have y1 := m1 1 _ rfl
  have y2 := m1 2 _ rfl
  rw [Nat.add_zero] at y0
  have hB1 := hb.size
  have HTK := Lib.hid (fun W' hm ht => take_any W.heap.size TA tc O A B f1 f2 f3 (f1 + 1) (f2 + 1) (f3 + 1) v W' hm ht (by omega) (by omega) (by omega) (by omega) (by omega) (by omega) n1 n2 n3)
  unfold RetK at HTK
  have HM := Lib.hid hm
  have HP := Lib.hid hp
  have HB := Lib.hid hb
  have HT := Lib.hid ht
  have HL := Lib.hid hl
  have g1 : (f1 : Int) ≤ 1000 := by omega
  have g2 : (f2 : Int) ≤ 1000 := by omega
  have g3 : (f3 : Int) ≤ 1000 := by omega
  clear hm hp hb ht m1 m4 hl hB1
  have HLN1 : Hid ((seg O f1 (f1 + 1)).length ≤ 1000) := Lib.hid (by rw [seg_len (by omega)]; omega)
  have HLN2 : Hid ((seg A f2 (f2 + 1)).length ≤ 1000) := Lib.hid (by rw [seg_len (by omega)]; omega)
  have HLN3 : Hid ((seg B f3 (f3 + 1)).length ≤ 1000) := Lib.hid (by rw [seg_len (by omega)]; omega)
  generalize seg O f1 (f1 + 1) = l1 at *
  generalize seg A f2 (f2 + 1) = l2 at *
  generalize seg B f3 (f3 + 1) = l3 at *
  generalize he1 : f1 + 1 = e1 at *
  generalize he2 : f2 + 1 = e2 at *
  generalize he3 : f3 + 1 = e3 at *
  have hw1 : IntKind.i64.wrap ((f1 : Int) + 1) = (e1 : Int) := by rw [← he1]; exact (IntWalk.i64_in _ (by omega))
  have hw2 : IntKind.i64.wrap ((f2 : Int) + 1) = (e2 : Int) := by rw [← he2]; exact (IntWalk.i64_in _ (by omega))
  have hw3 : IntKind.i64.wrap ((f3 : Int) + 1) = (e3 : Int) := by rw [← he3]; exact (IntWalk.i64_in _ (by omega))
  clear he1 he2 he3
  go_enter Tryd.func38, Tryd.ntmps38
  go_wp2_with fail
  go_upto_region 0 with fail
  go_cut [4] (fun s4 wx => ∃ (g : Nat) (C1 : Option Addr) (c1 : Nat) (C2 : Option Addr) (c2 : Nat) (C3 : Option Addr) (c3 : Nat), s4 = .pointer (some ⟨g, 0, none⟩) ∧ Hid (SM w W.heap.size (.slice TA 3 tc) v [e1, e2, e3] g 0 (.slice C1 l1.length c1) (.slice C2 l2.length c2) (.slice C3 l3.length c3) l1 l2 l3 wx))
  case first =>
    have hlt1 : W.heap.size < w.heap.size + 1 := by omega
    have HS : w.drew.cell? ⟨W.heap.size, 1, none⟩ = some (.int .i64 (f1 : Int)) ∧ w.drew.cell? ⟨W.heap.size, 1 + 1, none⟩ = some (.int .i64 (f2 : Int)) ∧ w.drew.cell? ⟨W.heap.size, 1 + 2, none⟩ = some (.int .i64 (f3 : Int)) := ⟨y0, y1, y2⟩
    refine wp_region_wpH (S := fun w' => w'.cell? ⟨W.heap.size, 1, none⟩ = some (.int .i64 (f1 : Int)) ∧ w'.cell? ⟨W.heap.size, 1 + 1, none⟩ = some (.int .i64 (f2 : Int)) ∧ w'.cell? ⟨W.heap.size, 1 + 2, none⟩ = some (.int .i64 (f3 : Int))) (c := 20) (by kernel_rfl) ?_
    refine wpH_take2 (i := 0) (v := ?_) [20] 6 rfl rfl (by kernel_rfl) (by kernel_rfl) (by kernel_rfl) (by kernel_rfl) (by kernel_rfl) (fun _ _ _ h => h) (Or.inl ⟨by rfl, ?y0⟩) HS ?r0
    case y0 =>
      intro w' hSw
      obtain ⟨s1, s2, s3⟩ := hSw
      go_simp
      with_reducible rfl
    try simp only [Act.put, List.setIfInBounds_toArray, List.set_cons_zero, List.set_cons_succ]
    refine wpH_take2 (i := 1) (v := ?_) [2, 3, 4, 5, 6, 19, 20] 7 rfl rfl (by kernel_rfl) (by kernel_rfl) (by kernel_rfl) (by kernel_rfl) (by kernel_rfl) (fun _ _ _ h => h) (Or.inl ⟨by rfl, ?y1⟩) HS ?r1
    case y1 =>
      intro w' hSw
      obtain ⟨s1, s2, s3⟩ := hSw
      go_simp
      with_reducible rfl
    try simp only [Act.put, List.setIfInBounds_toArray, List.set_cons_zero, List.set_cons_succ]
    refine wpH_take2 (i := 2) (v := ?_) [3, 4, 5, 6, 19, 20] 8 rfl rfl (by kernel_rfl) (by kernel_rfl) (by kernel_rfl) (by kernel_rfl) (by kernel_rfl) (fun _ _ _ h => h) (Or.inl ⟨by rfl, ?y2⟩) HS ?r2
    case y2 =>
      intro w' hSw
      obtain ⟨s1, s2, s3⟩ := hSw
      go_simp
      with_reducible rfl
    try simp only [Act.put, List.setIfInBounds_toArray, List.set_cons_zero, List.set_cons_succ]
    refine wpH_take2 (i := 3) (v := ?_) [4, 5, 6, 19, 20] 9 rfl rfl (by kernel_rfl) (by kernel_rfl) (by kernel_rfl) (by kernel_rfl) (by kernel_rfl) (fun _ _ _ h => h) (Or.inl ⟨by rfl, ?y3⟩) HS ?r3
    case y3 =>
      intro w' hSw
      obtain ⟨s1, s2, s3⟩ := hSw
      go_simp
      with_reducible rfl
    try simp only [Act.put, List.setIfInBounds_toArray, List.set_cons_zero, List.set_cons_succ]
    refine wpH_take2 (i := 4) (v := ?_) [5, 6, 19, 20] 10 rfl rfl (by kernel_rfl) (by kernel_rfl) (by kernel_rfl) (by kernel_rfl) (by kernel_rfl) (fun _ _ _ h => h) (Or.inl ⟨by rfl, ?y4⟩) HS ?r4
    case y4 =>
      intro w' hSw
      obtain ⟨s1, s2, s3⟩ := hSw
      go_simp
      with_reducible rfl
    try simp only [Act.put, List.setIfInBounds_toArray, List.set_cons_zero, List.set_cons_succ]
    refine wpH_take2 (i := 5) (v := ?_) [6, 19, 20] 11 rfl rfl (by kernel_rfl) (by kernel_rfl) (by kernel_rfl) (by kernel_rfl) (by kernel_rfl) (fun _ _ _ h => h) (Or.inl ⟨by rfl, ?y5⟩) HS ?r5
    case y5 =>
      intro w' hSw
      obtain ⟨s1, s2, s3⟩ := hSw
      go_simp
      with_reducible rfl
    try simp only [Act.put, List.setIfInBounds_toArray, List.set_cons_zero, List.set_cons_succ]
    refine wpH_take2 (i := 6) (v := ?_) [19, 20] 12 rfl rfl (by kernel_rfl) (by kernel_rfl) (by kernel_rfl) (by kernel_rfl) (by kernel_rfl) (fun _ _ _ h => h) (Or.inl ⟨by rfl, ?y6⟩) HS ?r6
    case y6 =>
      intro w' hSw
      obtain ⟨s1, s2, s3⟩ := hSw
      go_simp
      with_reducible rfl
    try simp only [Act.put, List.setIfInBounds_toArray, List.set_cons_zero, List.set_cons_succ]
    refine wpH_take2 (i := 7) (v := ?_) [8, 9, 10, 11, 12, 19, 20] 13 rfl rfl (by kernel_rfl) (by kernel_rfl) (by kernel_rfl) (by kernel_rfl) (by kernel_rfl) (fun _ _ _ h => h) (Or.inl ⟨by rfl, ?y7⟩) HS ?r7
    case y7 =>
      intro w' hSw
      obtain ⟨s1, s2, s3⟩ := hSw
      go_simp
      with_reducible rfl
    try simp only [Act.put, List.setIfInBounds_toArray, List.set_cons_zero, List.set_cons_succ]
    refine wpH_take2 (i := 8) (v := ?_) [9, 10, 11, 12, 19, 20] 14 rfl rfl (by kernel_rfl) (by kernel_rfl) (by kernel_rfl) (by kernel_rfl) (by kernel_rfl) (fun _ _ _ h => h) (Or.inl ⟨by rfl, ?y8⟩) HS ?r8
    case y8 =>
      intro w' hSw
      obtain ⟨s1, s2, s3⟩ := hSw
      go_simp
      with_reducible rfl
    try simp only [Act.put, List.setIfInBounds_toArray, List.set_cons_zero, List.set_cons_succ]
    refine wpH_take2 (i := 9) (v := ?_) [10, 11, 12, 19, 20] 15 rfl rfl (by kernel_rfl) (by kernel_rfl) (by kernel_rfl) (by kernel_rfl) (by kernel_rfl) (fun _ _ _ h => h) (Or.inl ⟨by rfl, ?y9⟩) HS ?r9
    case y9 =>
      intro w' hSw
      obtain ⟨s1, s2, s3⟩ := hSw
      go_simp
      with_reducible rfl
    try simp only [Act.put, List.setIfInBounds_toArray, List.set_cons_zero, List.set_cons_succ]
    refine wpH_take2 (i := 10) (v := ?_) [11, 12, 19, 20] 16 rfl rfl (by kernel_rfl) (by kernel_rfl) (by kernel_rfl) (by kernel_rfl) (by kernel_rfl) (fun _ _ _ h => h) (Or.inl ⟨by rfl, ?y10⟩) HS ?r10
    case y10 =>
      intro w' hSw
      obtain ⟨s1, s2, s3⟩ := hSw
      go_simp
      with_reducible rfl
    try simp only [Act.put, List.setIfInBounds_toArray, List.set_cons_zero, List.set_cons_succ]
    refine wpH_take2 (i := 11) (v := ?_) [12, 19, 20] 17 rfl rfl (by kernel_rfl) (by kernel_rfl) (by kernel_rfl) (by kernel_rfl) (by kernel_rfl) (fun _ _ _ h => h) (Or.inl ⟨by rfl, ?y11⟩) HS ?r11
    case y11 =>
      intro w' hSw
      obtain ⟨s1, s2, s3⟩ := hSw
      go_simp
      with_reducible rfl
    try simp only [Act.put, List.setIfInBounds_toArray, List.set_cons_zero, List.set_cons_succ]
    refine wpH_take2 (i := 12) (v := ?_) [19, 20] 18 rfl rfl (by kernel_rfl) (by kernel_rfl) (by kernel_rfl) (by kernel_rfl) (by kernel_rfl) (fun _ _ _ h => h) (Or.inl ⟨by rfl, ?y12⟩) HS ?r12
    case y12 =>
      intro w' hSw
      obtain ⟨s1, s2, s3⟩ := hSw
      go_simp
      with_reducible rfl
    try simp only [Act.put, List.setIfInBounds_toArray, List.set_cons_zero, List.set_cons_succ]
    refine wpH_take2 (i := 13) (v := ?_) [14, 15, 16, 17, 18, 19, 20] 19 rfl rfl (by kernel_rfl) (by kernel_rfl) (by kernel_rfl) (by kernel_rfl) (by kernel_rfl) (fun _ _ _ h => h) (Or.inl ⟨by rfl, ?y13⟩) HS ?r13
    case y13 =>
      intro w' hSw
      obtain ⟨s1, s2, s3⟩ := hSw
      go_simp
      with_reducible rfl
    try simp only [Act.put, List.setIfInBounds_toArray, List.set_cons_zero, List.set_cons_succ]
    refine wpH_take2 (i := 14) (v := ?_) [15, 16, 17, 18, 19, 20] 20 rfl rfl (by kernel_rfl) (by kernel_rfl) (by kernel_rfl) (by kernel_rfl) (by kernel_rfl) (fun _ _ _ h => h) (Or.inl ⟨by rfl, ?y14⟩) HS ?r14
    case y14 =>
      intro w' hSw
      obtain ⟨s1, s2, s3⟩ := hSw
      go_simp
      with_reducible rfl
    try simp only [Act.put, List.setIfInBounds_toArray, List.set_cons_zero, List.set_cons_succ]
    refine wpH_take2 (i := 15) (v := ?_) [16, 17, 18, 19, 20] 21 rfl rfl (by kernel_rfl) (by kernel_rfl) (by kernel_rfl) (by kernel_rfl) (by kernel_rfl) (fun _ _ _ h => h) (Or.inl ⟨by rfl, ?y15⟩) HS ?r15
    case y15 =>
      intro w' hSw
      obtain ⟨s1, s2, s3⟩ := hSw
      go_simp
      with_reducible rfl
    try simp only [Act.put, List.setIfInBounds_toArray, List.set_cons_zero, List.set_cons_succ]
    refine wpH_take2 (i := 16) (v := ?_) [17, 18, 19, 20] 22 rfl rfl (by kernel_rfl) (by kernel_rfl) (by kernel_rfl) (by kernel_rfl) (by kernel_rfl) (fun _ _ _ h => h) (Or.inl ⟨by rfl, ?y16⟩) HS ?r16
    case y16 =>
      intro w' hSw
      obtain ⟨s1, s2, s3⟩ := hSw
      go_simp
      with_reducible rfl
    try simp only [Act.put, List.setIfInBounds_toArray, List.set_cons_zero, List.set_cons_succ]
    refine wpH_take2 (i := 17) (v := ?_) [18, 19, 20] 23 rfl rfl (by kernel_rfl) (by kernel_rfl) (by kernel_rfl) (by kernel_rfl) (by kernel_rfl) (fun _ _ _ h => h) (Or.inl ⟨by rfl, ?y17⟩) HS ?r17
    case y17 =>
      intro w' hSw
      obtain ⟨s1, s2, s3⟩ := hSw
      go_simp
      with_reducible rfl
    try simp only [Act.put, List.setIfInBounds_toArray, List.set_cons_zero, List.set_cons_succ]
    refine wpH_take2 (i := 18) (v := ?_) [19, 20] 24 rfl rfl (by kernel_rfl) (by kernel_rfl) (by kernel_rfl) (by kernel_rfl) (by kernel_rfl) (fun _ _ _ h => h) (Or.inl ⟨by rfl, ?y18⟩) HS ?r18
    case y18 =>
      intro w' hSw
      obtain ⟨s1, s2, s3⟩ := hSw
      go_simp
      with_reducible rfl
    try simp only [Act.put, List.setIfInBounds_toArray, List.set_cons_zero, List.set_cons_succ]
    refine wpH_take2 (i := 19) (v := ?_) [20] 25 rfl rfl (by kernel_rfl) (by kernel_rfl) (by kernel_rfl) (by kernel_rfl) (by kernel_rfl) (fun _ _ _ h => h) (Or.inl ⟨by rfl, ?y19⟩) HS ?r19
    case y19 =>
      intro w' hSw
      obtain ⟨s1, s2, s3⟩ := hSw
      go_simp
      with_reducible rfl
    try simp only [Act.put, List.setIfInBounds_toArray, List.set_cons_zero, List.set_cons_succ]
    refine wpH_all (rs := [20, 21]) (by kernel_rfl) (by simp) ?_
    intro i hi
    have hi2 : i = 20 ∨ i = 21 := by simpa using hi
    clear hi
    rcases hi2 with rfl | rfl
    · refine wpOp_step rfl (fun K hK => ?_)
      go_simp
      refine (HTK.out _ (HM.out.below (by repeat (first | exact Below.refl _ _ | apply Below.drew | apply below_drewN | apply below_al))) (HT.out.below (go3 HB.out (by repeat (first | exact Below.refl _ _ | apply Below.drew | apply below_drewN | apply below_al))))).mono ?_
      rintro e w2 ⟨C1, c1, C2, c2, C3, c3, rfl, o1, o2, o3, d12, d13, d23, hmb, hg⟩
      have HG2 := Lib.hid (gb_trans (gb_below (World.grownBy.refl w _) (by repeat (first | exact Below.refl _ _ | apply Below.drew | apply below_drewN | apply below_al))) hg)
      have HMB2 := Lib.hid hmb
      have HO := Lib.hid (And.intro o1 (And.intro o2 o3))
      have HD := Lib.hid (And.intro d12 (And.intro d13 d23))
      clear o1 o2 o3 d12 d13 d23 hmb hg
      refine hK _ _ ?_
      rw [if_pos rfl]
      refine wpAny_all (rs := [21]) (by kernel_rfl) (by simp) ?_
      intro i hi
      obtain rfl : i = 21 := by simpa using hi
      refine wpOp_step rfl (fun K2 hK2 => ?_)
      go_simp
      refine hK2 _ _ ?_
      refine wpAny_all (rs := [22]) (by kernel_rfl) (by simp) ?_
      intro i hi
      obtain rfl : i = 22 := by simpa using hi
      refine wpOp_step rfl (fun K3 hK3 => ?_)
      go_simp
      refine hK3 _ _ ?_
      refine wpAny_done (by kernel_rfl) ?_ _
      go_wp2_with fail
      go_meet
      exact ⟨_, C1, c1, C2, c2, C3, c3, rfl, Lib.hid (SM.late HG2.out HMB2.out ⟨HO.out.1.baseN (by simp), HO.out.2.1.baseN (by simp), HO.out.2.2.baseN (by simp)⟩ HD.out ml (by repeat (first | exact Below.refl _ _ | apply Below.drew | apply below_drewN | apply below_al)) (by rfl) _)⟩
    · refine wpOp_step rfl (fun K hK => ?_)
      go_simp
      refine hK _ _ ?_
      rw [if_neg (by decide)]
      refine ⟨⟨by simp [World.cell?_alloc_lt, ml, y0], by simp [World.cell?_alloc_lt, ml, y1], by simp [World.cell?_alloc_lt, ml, y2]⟩, ?_⟩
      refine wpH_all (rs := [20]) (by kernel_rfl) (by simp) ?_
      intro i hi
      obtain rfl : i = 20 := by simpa using hi
      refine wpOp_step rfl (fun K2 hK2 => ?_)
      go_simp
      refine (HTK.out _ (HM.out.below (by repeat (first | exact Below.refl _ _ | apply Below.drew | apply below_drewN | apply below_al))) (HT.out.below (go3 HB.out (by repeat (first | exact Below.refl _ _ | apply Below.drew | apply below_drewN | apply below_al))))).mono ?_
      rintro e w2 ⟨C1, c1, C2, c2, C3, c3, rfl, o1, o2, o3, d12, d13, d23, hmb, hg⟩
      have HG2 := Lib.hid (gb_trans (gb_below (World.grownBy.refl w _) (by repeat (first | exact Below.refl _ _ | apply Below.drew | apply below_drewN | apply below_al))) hg)
      have HMB2 := Lib.hid hmb
      have HO := Lib.hid (And.intro o1 (And.intro o2 o3))
      have HD := Lib.hid (And.intro d12 (And.intro d13 d23))
      have HBX : Hid (BX w2 w.heap.size [.int .i64 0, .slice none 0 0, .slice none 0 0, .slice none 0 0]) := Lib.hid (((BX.new w [.int .i64 0, .slice none 0 0, .slice none 0 0, .slice none 0 0] 81 rfl).below (by repeat (first | exact Below.refl _ _ | apply Below.drew | apply below_drewN | apply below_al))).grown hg (by intro e; have := Option.some.inj e; omega))
      have q0 := HBX.out.1 0 _ rfl
      have q1 := HBX.out.1 1 _ rfl
      have q2 := HBX.out.1 2 _ rfl
      have q3 := HBX.out.1 3 _ rfl
      have qf := HBX.out.2.1
      clear o1 o2 o3 d12 d13 d23 hmb hg
      refine hK2 _ _ ?_
      rw [if_pos rfl]
      refine wpAny_all (rs := [22]) (by kernel_rfl) (by simp) ?_
      intro i hi
      obtain rfl : i = 22 := by simpa using hi
      refine wpOp_step rfl (fun K3 hK3 => ?_)
      go_simp
      refine hK3 _ _ ?_
      refine wpAny_done (by kernel_rfl) ?_ _
      go_wp2_with fail
      go_meet
      exact ⟨_, C1, c1, C2, c2, C3, c3, rfl, Lib.hid (SM.early HG2.out HMB2.out HBX.out rfl HO.out (by simp) (by simp) HD.out ml (Nat.le_refl _) (by repeat (first | exact Below.refl _ _ | apply Below.drew | apply below_drewN | apply below_al)))⟩
  case rest =>
    obtain ⟨g, C1, c1, C2, c2, C3, c3, rfl, HSM⟩ := hcut
    clear HTK hw1 hw2 hw3 y0 y1 y2 mf m0 g1 g2 g3
    obtain ⟨g7, cap, rfl, h7a, h7b, h7c, h7d⟩ := HP.out.len
    have HG7 := Lib.hid h7b
    obtain ⟨u1, u2, u3, rfl⟩ : ∃ u1 u2 u3, us = [u1, u2, u3] := by
      have := HP.out.uslen
      match us, this with
      | [a, b, c], _ => exact ⟨a, b, c, rfl⟩
    obtain ⟨A1, d1, rfl, r1⟩ := (HP.out.row 0 rfl rfl).read
    obtain ⟨A2, d2, rfl, r2⟩ := (HP.out.row 1 rfl rfl).read
    obtain ⟨A3, d3, rfl, r3⟩ := (HP.out.row 2 rfl rfl).read
    have t1 := r1.1
    have t2 := r1.2.1
    have t3 := r2.1
    have t4 := r2.2.1
    have t5 := r3.1
    have t6 := r3.2.1
    have HU1 := Lib.hid (HP.out.own3 0 rfl rfl)
    have HU2 := Lib.hid (HP.out.own3 1 rfl rfl)
    have HU3 := Lib.hid (HP.out.own3 2 rfl rfl)
    have HGU1 := Lib.hid (HP.out.off3 (u := .slice A1 p.o.length d1) (by simp))
    have HGU2 := Lib.hid (HP.out.off3 (u := .slice A2 p.a.length d2) (by simp))
    have HGU3 := Lib.hid (HP.out.off3 (u := .slice A3 p.b.length d3) (by simp))
    have HY : At (YS W w (.slice TA 3 tc) (.slice (some ⟨g7, 0, none⟩) (qs.length + 1) cap) [e1, e2, e3] g (.slice C1 l1.length c1) (.slice C2 l2.length c2) (.slice C3 l3.length c3) l1 l2 l3 qs p.kind [.slice A1 p.o.length d1, .slice A2 p.a.length d2, .slice A3 p.b.length d3] [p.o, p.a, p.b]) wc := ⟨YS.kept _ _ _ _ _ _ _ _ _ _ _ _ _ _ _ _, HSM.out.2.1, HSM.out.2.2.1, HSM.out.2.2.2.1, HSM.out.2.2.2.2.2.2.1, HP.out.grown HSM.out.1 (fun j e => by cases e; exact Nat.lt_succ_self _), below_gbM HB.out HSM.out.1, ml⟩
    have r4 := HSM.out.2.2.2.1.1.rt.2.1
    have r5 := HSM.out.2.2.2.1.1.rt.2.2.1
    have r6 := HSM.out.2.2.2.1.2.1.rt.2.1
    have r7 := HSM.out.2.2.2.1.2.1.rt.2.2.1
    have r8 := HSM.out.2.2.2.1.2.2.rt.2.1
    have r9 := HSM.out.2.2.2.1.2.2.rt.2.2.1
    generalize hn : qs.length + 1 = n at *
    have hn1 : (1 : Int) ≤ (n : Int) := by omega
    have HA1 : Hid (qs.length * 4 + (1 + 0) = (n - 1) * 4 + 1) := Lib.hid (by omega)
    have HA2 : Hid (qs.length * 4 + (1 + 1) = (n - 1) * 4 + 2) := Lib.hid (by omega)
    have HA3 : Hid (qs.length * 4 + (1 + 2) = (n - 1) * 4 + 3) := Lib.hid (by omega)
    have HLL := HL.out
    have HL1 : Hid (p.o.length + l1.length ≤ 101000) := Lib.hid (by have := HLN1.out; omega)
    have HL2 : Hid (p.a.length + l2.length ≤ 101000) := Lib.hid (by have := HLN2.out; omega)
    have HL3 : Hid (p.b.length + l3.length ≤ 101000) := Lib.hid (by have := HLN3.out; omega)
    clear HLL
    have HN := Lib.hid hn
    clear hn r1 r2 r3 HSM h7a h7b
    have q4 := (HY.out.1).2.2.2.1
    obtain ⟨⟨x1, x1f⟩, ⟨x2, x2f⟩, ⟨x3, x3f⟩⟩ := And.intro (HY.out.2.2.2.2.1.cell 0 rfl) (And.intro (HY.out.2.2.2.2.1.cell 1 rfl) (HY.out.2.2.2.2.1.cell 2 rfl))
    have p1 := HY.out.2.1.1 1 _ rfl
    have p2 := HY.out.2.1.1 2 _ rfl
    have p3 := HY.out.2.1.1 3 _ rfl
    rw [HA1.out] at x1 x1f
    rw [HA2.out] at x2 x2f
    rw [HA3.out] at x3 x3f
    have hgw := HY.out.g7lt
    go_wp2_with fail
    go_quiet (fail)
    go_wp2_with fail
    go_upto_region 5 with fail
    go_cut [5] (fun s5 wx => ∃ (A7 : Option Addr) (m7 d7 : Nat), s5 = .pointer (some ⟨g7, (n - 1) * 4, none⟩) ∧ Hid (YS W w (.slice TA 3 tc) (.slice (some ⟨g7, 0, none⟩) n cap) [e1, e2, e3] g (.slice C1 l1.length c1) (.slice C2 l2.length c2) (.slice C3 l3.length c3) l1 l2 l3 qs p.kind [.slice A7 m7 d7, .slice A2 p.a.length d2, .slice A3 p.b.length d3] [p.o ++ l1, p.a, p.b] wx))
    case first =>
      go_region_law (refine step_append_texts rfl _ _ rfl (W.heap.size + 1) (.slice A1 p.o.length d1) p.o l1 C1 c1 rfl rfl ((HY.go (by repeat (first | exact Below.refl _ _ | apply Below.drew | apply below_drewN | apply below_al))).out.2.2.2.2.1.row 0 rfl rfl) ((HY.go (by repeat (first | exact Below.refl _ _ | apply Below.drew | apply below_drewN | apply below_al))).out.2.2.1.1.rt.2) (by have := HL1.out; omega) (HY.go (by repeat (first | exact Below.refl _ _ | apply Below.drew | apply below_drewN | apply below_al))).out.hsize ?_; intro v7 w7 hown hg hv; obtain ⟨A7, m7, d7, hv7⟩ := hown.shape; subst hv7; have HY1 := Lib.hid ((HY.go (by repeat (first | exact Below.refl _ _ | apply Below.drew | apply below_drewN | apply below_al))).out.put HG7.out (j := 0) rfl HU1.out hown hg hv (a := (n - 1) * 4 + 1) HA1.out.symm); have z1 := (cell_gb hg (HY.go (by repeat (first | exact Below.refl _ _ | apply Below.drew | apply below_drewN | apply below_al))).out.g7lt HGU1.out ((n - 1) * 4 + 1)).trans x1; have z2 := (frozen_gb hg (HY.go (by repeat (first | exact Below.refl _ _ | apply Below.drew | apply below_drewN | apply below_al))).out.g7lt HGU1.out ((n - 1) * 4 + 1)).trans x1f; clear hown hg hv)
      all_goals
        go_wp2_with fail
        go_meet
        exact ⟨A7, m7, d7, rfl, HY1⟩
    case rest =>
      clear q4 x1 x2 x3 x1f x2f x3f p1 p2 p3 hgw HY
      obtain ⟨A7, m7, d7, rfl, HYH⟩ := hcut
      have HY : At _ wc := ⟨YS.kept _ _ _ _ _ _ _ _ _ _ _ _ _ _ _ _, HYH.out⟩
      clear HYH
      have q4 := (HY.out.1).2.2.2.1
      obtain ⟨⟨x1, x1f⟩, ⟨x2, x2f⟩, ⟨x3, x3f⟩⟩ := And.intro (HY.out.2.2.2.2.1.cell 0 rfl) (And.intro (HY.out.2.2.2.2.1.cell 1 rfl) (HY.out.2.2.2.2.1.cell 2 rfl))
      have p1 := HY.out.2.1.1 1 _ rfl
      have p2 := HY.out.2.1.1 2 _ rfl
      have p3 := HY.out.2.1.1 3 _ rfl
      rw [HA1.out] at x1 x1f
      rw [HA2.out] at x2 x2f
      rw [HA3.out] at x3 x3f
      have hgw := HY.out.g7lt
      go_upto_region 6 with fail
      go_cut [5] (fun s5 wx => ∃ (A8 : Option Addr) (m8 d8 : Nat), s5 = .pointer (some ⟨g7, (n - 1) * 4, none⟩) ∧ Hid (YS W w (.slice TA 3 tc) (.slice (some ⟨g7, 0, none⟩) n cap) [e1, e2, e3] g (.slice C1 l1.length c1) (.slice C2 l2.length c2) (.slice C3 l3.length c3) l1 l2 l3 qs p.kind [.slice A7 m7 d7, .slice A8 m8 d8, .slice A3 p.b.length d3] [p.o ++ l1, p.a ++ l2, p.b] wx))
      case first =>
        go_region_law (refine step_append_texts rfl _ _ rfl (W.heap.size + 1) (.slice A2 p.a.length d2) p.a l2 C2 c2 rfl rfl ((HY.go (by repeat (first | exact Below.refl _ _ | apply Below.drew | apply below_drewN | apply below_al))).out.2.2.2.2.1.row 1 rfl rfl) ((HY.go (by repeat (first | exact Below.refl _ _ | apply Below.drew | apply below_drewN | apply below_al))).out.2.2.1.2.1.rt.2) (by have := HL2.out; omega) (HY.go (by repeat (first | exact Below.refl _ _ | apply Below.drew | apply below_drewN | apply below_al))).out.hsize ?_; intro v7 w7 hown hg hv; obtain ⟨A8, m8, d8, hv7⟩ := hown.shape; subst hv7; have HY1 := Lib.hid ((HY.go (by repeat (first | exact Below.refl _ _ | apply Below.drew | apply below_drewN | apply below_al))).out.put HG7.out (j := 1) rfl HU2.out hown hg hv (a := (n - 1) * 4 + 2) HA2.out.symm); have z1 := (cell_gb hg (HY.go (by repeat (first | exact Below.refl _ _ | apply Below.drew | apply below_drewN | apply below_al))).out.g7lt HGU2.out ((n - 1) * 4 + 2)).trans x2; have z2 := (frozen_gb hg (HY.go (by repeat (first | exact Below.refl _ _ | apply Below.drew | apply below_drewN | apply below_al))).out.g7lt HGU2.out ((n - 1) * 4 + 2)).trans x2f; clear hown hg hv)
        all_goals
          go_wp2_with fail
          go_meet
          exact ⟨A8, m8, d8, rfl, HY1⟩
      case rest =>
        clear q4 x1 x2 x3 x1f x2f x3f p1 p2 p3 hgw HY
        obtain ⟨A8, m8, d8, rfl, HYH⟩ := hcut
        have HY : At _ wc := ⟨YS.kept _ _ _ _ _ _ _ _ _ _ _ _ _ _ _ _, HYH.out⟩
        clear HYH
        have q4 := (HY.out.1).2.2.2.1
        obtain ⟨⟨x1, x1f⟩, ⟨x2, x2f⟩, ⟨x3, x3f⟩⟩ := And.intro (HY.out.2.2.2.2.1.cell 0 rfl) (And.intro (HY.out.2.2.2.2.1.cell 1 rfl) (HY.out.2.2.2.2.1.cell 2 rfl))
        have p1 := HY.out.2.1.1 1 _ rfl
        have p2 := HY.out.2.1.1 2 _ rfl
        have p3 := HY.out.2.1.1 3 _ rfl
        rw [HA1.out] at x1 x1f
        rw [HA2.out] at x2 x2f
        rw [HA3.out] at x3 x3f
        have hgw := HY.out.g7lt
        go_wp2_with fail
        go_region_law (refine step_append_texts rfl _ _ rfl (W.heap.size + 1) (.slice A3 p.b.length d3) p.b l3 C3 c3 rfl rfl ((HY.go (by repeat (first | exact Below.refl _ _ | apply Below.drew | apply below_drewN | apply below_al))).out.2.2.2.2.1.row 2 rfl rfl) ((HY.go (by repeat (first | exact Below.refl _ _ | apply Below.drew | apply below_drewN | apply below_al))).out.2.2.1.2.2.rt.2) (by have := HL3.out; omega) (HY.go (by repeat (first | exact Below.refl _ _ | apply Below.drew | apply below_drewN | apply below_al))).out.hsize ?_; intro v7 w7 hown hg hv; obtain ⟨A9, m9, d9, hv7⟩ := hown.shape; subst hv7; have HY1 := Lib.hid ((HY.go (by repeat (first | exact Below.refl _ _ | apply Below.drew | apply below_drewN | apply below_al))).out.put HG7.out (j := 2) rfl HU3.out hown hg hv (a := (n - 1) * 4 + 3) HA3.out.symm); have z1 := (cell_gb hg (HY.go (by repeat (first | exact Below.refl _ _ | apply Below.drew | apply below_drewN | apply below_al))).out.g7lt HGU3.out ((n - 1) * 4 + 3)).trans x3; have z2 := (frozen_gb hg (HY.go (by repeat (first | exact Below.refl _ _ | apply Below.drew | apply below_drewN | apply below_al))).out.g7lt HGU3.out ((n - 1) * 4 + 3)).trans x3f; clear hown hg hv)
        all_goals
          go_wp2_with fail
          go_end0
          exact ⟨rfl, _, HY1.out.1.below (by repeat (first | exact Below.refl _ _ | apply Below.drew | apply below_drewN | apply below_al)), PS.below (.inr ⟨qs, ⟨p.kind, p.o ++ l1, p.a ++ l2, p.b ++ l3⟩, _, rfl, HY1.out.2.2.2.2.1⟩) (by repeat (first | exact Below.refl _ _ | apply Below.drew | apply below_drewN | apply below_al)), go3 HY1.out.2.2.2.2.2.1 (by repeat (first | exact Below.refl _ _ | apply Below.drew | apply below_drewN | apply below_al))⟩
end Go.Proofs.YtfhkmmicdbblnaaDoor

