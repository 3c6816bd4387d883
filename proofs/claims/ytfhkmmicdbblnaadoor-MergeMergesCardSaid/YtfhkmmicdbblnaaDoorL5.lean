/-
  The walk of the program's common.
-/
import Derived.Test.YtfhkmmicdbblnaaDoorL4
import Derived.Test.YtfhkmmicdbblnaaDoorME
namespace Go.Proofs.YtfhkmmicdbblnaaDoor
set_option linter.unusedSimpArgs false
set_option linter.unusedVariables false
open Go.RowKit

/-- the address of a cut: the model keeps the old one where nothing is left to be had -/
def cutA (A : Option Addr) (c j s : Nat) : Option Addr := if c = j then A else A.map (·.add (j * s))
theorem RC.cut {w : World} {A : Option Addr} {c : Nat} {vs : List Value} (h : RC w A c vs) {j : Nat} (hj : j ≤ vs.length) : RC w (cutA A c j 1) (c - j) (vs.drop j) := by
  refine ⟨by rw [List.length_drop]; have := h.1; omega, by have := h.2.1; omega, fun h0 => ?_⟩
  rw [List.length_drop] at h0
  obtain ⟨b, o, rfl, hb, hc⟩ := h.2.2 (by omega)
  have h1 := h.1
  refine ⟨b, o + j, ?_, hb, fun i u hu => ?_⟩
  · unfold cutA
    rw [if_neg (by omega), Nat.mul_one]
    show some (Addr.add ⟨b, o, none⟩ j) = _
    rw [Go.WideShapes.add_plain]
  · rw [List.getElem?_drop] at hu
    rw [show o + j + i = o + (j + i) by omega]
    exact hc _ u hu
theorem size_ints (w : World) : (sizeOf (Tryd.prog.elem 53)).run Tryd.prog w = .ok 1 w := by kernel_rfl
theorem run_cut_ints (A : Option Addr) (n c j : Nat) (hj : j ≤ n) (hn : n ≤ 9223372036854775807) (w : World) : (Instr.sliceAt 53 (.slice A n c) (some (.int .i64 (j : Int))) none none).run Tryd.prog w = .ok (.slice (cutA A c j 1) (n - j) (c - j)) w := by
  rw [run_sliceAt_slice _ _ _ _ _ _ (by kernel_rfl), run_slice_l _ _ _ _ _ (by kernel_rfl) _ _ (by omega) (by omega), size_ints]
  rfl
/-- the place of a number, or -1 -/
def ixI (x : Int) (vs : List Int) : Int := match idx x vs with | some k => k | none => -1
theorem idx_from : ∀ (vs : List Int) (x : Int) (i : Nat), Lib.idxFrom vs x i = match idx x vs with | some k => ((i + k : Nat) : Int) | none => -1
  | [], x, i => rfl
  | y :: vs, x, i => by
    have ih := idx_from vs x (i + 1)
    unfold Lib.idxFrom idx
    by_cases e : y = x
    · rw [if_pos e]
      simp [e]
    · rw [if_neg e]
      have hb : (y == x) = false := by simpa using e
      simp only [hb, Bool.false_eq_true, if_false, if_neg e]
      rw [ih]
      cases idx x vs with
      | none => rfl
      | some k =>
      show ((i + 1 + k : Nat) : Int) = ((i + (k + 1) : Nat) : Int)
      omega
theorem index_any (A : Option Addr) (c n : Nat) (vs : List Int) (x : Int) (w : World) (h : RC w A c (vs.map iV)) (hn : n = vs.length) :
    Calls Tryd.prog 44 #[.slice A n c, .int .i64 x] w fun e w' => e = .returned (.int .i64 (ixI x vs)) ∧ w = w' := by
  subst hn
  have hx : Lib.idxOf vs x = ixI x vs := by
    unfold Lib.idxOf ixI
    rw [idx_from]
    cases idx x vs with
    | none => rfl
    | some k => simp
  by_cases h0 : 0 < vs.length
  · obtain ⟨b, o, rfl, _, hc⟩ := h.ints.2.2 h0
    refine (Tryd.slices_Index_int b o vs.length c vs x w (Nat.le_refl _) (by have a1 := h.ints.1; have a2 := h.ints.2.1; omega) (fun j hj => hc j _ ?_)).mono fun e w' ⟨he, hw⟩ => ⟨?_, hw.symm⟩
    · rw [List.getD, List.getElem?_eq_getElem hj]; rfl
    · rw [he, List.take_length, hx]
  · have : vs = [] := List.eq_nil_of_length_eq_zero (by omega)
    subst this
    exact (Tryd.slices_Index_int_empty A c x w).mono fun e w' ⟨he, hw⟩ => ⟨he, hw.symm⟩

section
variable {α : Type} [DecidableEq α]
theorem comm_yes {x : α} {a b : List α} {j k : Nat} (h : idx x b = some k) (e : 1 + lcs a (b.drop (k + 1)) = lcs (x :: a) b) : comm (x :: a) b j = some (j + k) :: comm a (b.drop (k + 1)) (j + k + 1) := by
  conv => lhs; unfold comm
  rw [h]
  simp only
  rw [if_pos e]
theorem comm_not {x : α} {a b : List α} {j k : Nat} (h : idx x b = some k) (e : 1 + lcs a (b.drop (k + 1)) ≠ lcs (x :: a) b) : comm (x :: a) b j = none :: comm a b j := by
  conv => lhs; unfold comm
  rw [h]
  simp only
  rw [if_neg e]
theorem comm_none {x : α} {a b : List α} {j : Nat} (h : idx x b = none) : comm (x :: a) b j = none :: comm a b j := by
  conv => lhs; unfold comm
  rw [h]
/-- what the loop over lines has found -/
def CM (a b : List α) (k j : Nat) (done : List (Option Nat)) : Prop := done.length = k ∧ comm a b 0 = done ++ comm (a.drop k) (b.drop j) j
theorem CM.none_ {a b : List α} {k j : Nat} {done : List (Option Nat)} (h : CM a b k j done) {x : α} (hx : a[k]? = some x) (hn : comm (x :: a.drop (k + 1)) (b.drop j) j = none :: comm (a.drop (k + 1)) (b.drop j) j) : CM a b (k + 1) j (done ++ [none]) := by
  obtain ⟨h1, h2⟩ := h
  obtain ⟨hl, he⟩ := List.getElem?_eq_some_iff.1 hx
  refine ⟨by rw [List.length_append, h1]; rfl, ?_⟩
  rw [h2, List.drop_eq_getElem_cons hl, he, hn, List.append_assoc]
  rfl
theorem CM.some_ {a b : List α} {k j i : Nat} {done : List (Option Nat)} (h : CM a b k j done) {x : α} (hx : a[k]? = some x) (hi : idx x (b.drop j) = some i) (e : 1 + lcs (a.drop (k + 1)) (b.drop (j + i + 1)) = lcs (a.drop k) (b.drop j)) : CM a b (k + 1) (j + (i + 1)) (done ++ [some (j + i)]) := by
  obtain ⟨h1, h2⟩ := h
  obtain ⟨hl, he⟩ := List.getElem?_eq_some_iff.1 hx
  refine ⟨by rw [List.length_append, h1]; rfl, ?_⟩
  rw [List.drop_eq_getElem_cons hl, he] at e h2
  have e2 : (b.drop j).drop (i + 1) = b.drop (j + i + 1) := by rw [List.drop_drop]; rfl
  rw [h2, comm_yes hi (by rw [e2]; exact e), e2, List.append_assoc]
  rfl
end
def oV (o : Option Nat) : Value := .int .i64 (pI o)
def part (done : List (Option Nat)) (m : Nat) : List Value := done.map oV ++ List.replicate m (.int .i64 0)
theorem part_at (done : List (Option Nat)) (m : Nat) : (part done (m + 1))[done.length]? = some (.int .i64 0) := by
  unfold part
  rw [List.getElem?_append_right (by simp), List.length_map, Nat.sub_self]
  rfl
theorem part_set (done : List (Option Nat)) (m : Nat) (o : Option Nat) : (part done (m + 1)).set done.length (oV o) = part (done ++ [o]) m := by
  unfold part
  rw [List.set_append_right _ _ (by simp), List.length_map, Nat.sub_self, List.replicate_succ, List.set_cons_zero, List.map_append, List.append_assoc]
  rfl
theorem part_len (done : List (Option Nat)) (m : Nat) : (part done m).length = done.length + m := by simp [part]
/-- the partners in memory -/
def PW (w1 : World) (n k : Nat) (done : List (Option Nat)) (wr : World) : Prop :=
  OV wr w1.heap.size 3 (.slice (some ⟨w1.heap.size, 0, none⟩) n n) (part done (n - k)) ∧ Below w1.heap.size w1 wr ∧ w1.heap.size < wr.heap.size ∧ k ≤ n ∧ done.length = k
theorem PW.cell {w1 : World} {n k : Nat} {done : List (Option Nat)} {wr : World} (h : PW w1 n k done wr) (hk : k < n) : wr.cell? ⟨w1.heap.size, k, none⟩ = some (.int .i64 0) ∧ wr.frozen? ⟨w1.heap.size, k, none⟩ = false := by
  obtain ⟨h1, _, _, _, h5⟩ := h
  obtain ⟨m, hm⟩ : ∃ m, n - k = m + 1 := ⟨n - k - 1, by omega⟩
  rw [hm] at h1
  have := h1.cell (part_at done m)
  rw [h5] at this
  exact this
theorem PW.put {w1 : World} {n k : Nat} {done : List (Option Nat)} {wr : World} (h : PW w1 n k done wr) (hk : k < n) (o : Option Nat) {z : Int} (hz : z = pI o) : PW w1 n (k + 1) (done ++ [o]) (wr.setCell ⟨w1.heap.size, k, none⟩ (.int .i64 z)) := by
  subst hz
  obtain ⟨h1, h2, h3, h4, h5⟩ := h
  obtain ⟨m, hm⟩ : ∃ m, n - k = m + 1 := ⟨n - k - 1, by omega⟩
  rw [hm] at h1
  refine ⟨?_, h2.setCell (p := ⟨w1.heap.size, k, none⟩) (Nat.le_refl _) _, by simpa [World.setCell] using h3, hk, by rw [List.length_append, h5]; rfl⟩
  have := h1.set k (oV o)
  rw [← h5, part_set] at this
  rw [show n - (k + 1) = m by omega, ← h5]
  exact this
theorem PW.again {w1 : World} {n k : Nat} {done : List (Option Nat)} {wr : World} (h : PW w1 n (k + 1) (done ++ [none]) wr) (q : Nat) (o : Option Nat) {z : Int} (hz : z = pI o) : PW w1 n (k + 1) (done ++ [o]) ((wr.drewN q).setCell ⟨w1.heap.size, k, none⟩ (.int .i64 z)) := by
  subst hz
  obtain ⟨h1, h2, h3, h4, h5⟩ := h
  have hd : done.length = k := by rw [List.length_append] at h5; simpa using h5
  refine ⟨?_, (below_drewN h2 q).setCell (p := ⟨w1.heap.size, k, none⟩) (Nat.le_refl _) _, by simpa [World.setCell] using h3, h4, by rw [List.length_append, hd]; rfl⟩
  have := (h1.below (below_drewN' wr q)).set k (oV o)
  have e : (part (done ++ [none]) (n - (k + 1))).set k (oV o) = part (done ++ [o]) (n - (k + 1)) := by
    unfold part
    rw [List.map_append, List.append_assoc, List.set_append_right _ _ (by rw [List.length_map]; omega), List.length_map, hd, Nat.sub_self, List.map_append, List.append_assoc]
    rfl
  rw [e] at this
  exact this
theorem PW.below {w1 : World} {n k : Nat} {done : List (Option Nat)} {wr wr' : World} (h : PW w1 n k done wr) (hb : Below wr.heap.size wr wr') : PW w1 n k done wr' :=
  ⟨h.1.below hb, h.2.1.trans (hb.mono (Nat.le_of_lt h.2.2.1)), Nat.lt_of_lt_of_le h.2.2.1 hb.size, h.2.2.2⟩
/-- a row of numbers comes back that the call has made -/
def RetI (w : World) (ns : List (Option Nat)) (e : Ending) (w' : World) : Prop :=
  ∃ g, e = .returned (.slice (some ⟨g, 0, none⟩) ns.length ns.length) ∧ OV w' w.heap.size 3 (.slice (some ⟨g, 0, none⟩) ns.length ns.length) (ns.map oV) ∧ Below w.heap.size w w'

set_option maxHeartbeats 2000000 in
theorem common_any (A B : Option Addr) (c d : Nat) (xs ys : List Int) (w : World) (h : RC w A c (xs.map iV)) (k : RC w B d (ys.map iV)) (ha : xs.length ≤ 900) (hb : ys.length ≤ 900) :
    Calls Tryd.prog 26 #[.slice A xs.length c, .slice B ys.length d] w (RetI w (comm xs ys 0)) := by
  have h1 := h.ints.1
  have h2 := h.ints.2.1
  have k1 := k.ints.1
  have k2 := k.ints.2.1
  have HA := Lib.hid h
  have HB := Lib.hid k
  have HLN := Lib.hid (fun W h k => lengths_any A B c d xs ys W h k ha hb)
  have hmk := make_ints xs.length (by omega)
  clear h k
  go_enter Tryd.func26, Tryd.ntmps26
  go_wp2_with (go_at_call 43; refine (HLN.out _ HA.out HB.out).mono ?_; rintro e w1 ⟨rfl, tb, bl⟩; have HTB := Lib.hid tb; have HBL := Lib.hid bl; clear tb bl)
  clear hmk
  have hbl := HBL.out.size
  go_loopw [7, 19] (fun jv i wr => ∃ (k j : Nat) (done : List (Option Nat)), k ≤ xs.length ∧ j ≤ ys.length ∧ i = .int .i64 k ∧ jv = .int .i64 j ∧ Hid (CM xs ys k j done) ∧ Hid (PW w1 xs.length k done wr)) (fun _ i _ => xs.length - (intOf i).toNat)
  case atStart => exact ⟨0, 0, [], Nat.zero_le _, Nat.zero_le _, rfl, rfl, Lib.hid ⟨rfl, rfl⟩, Lib.hid ⟨by rw [Nat.sub_zero]; exact OV.made _ _ _ _ _ (Nat.le_refl _) (by omega) rfl, below_alloc _ _, by simp, Nat.zero_le _, rfl⟩⟩
  case round =>
    obtain ⟨k, j, done, hk, hj, rfl, rfl, HC, HP⟩ := hrel
    by_cases hlt : k < xs.length
    · obtain ⟨x, hx⟩ : ∃ x, xs[k]? = some x := ⟨_, List.getElem?_eq_getElem hlt⟩
      have HBW := Lib.hid (go3 HBL.out HP.out.2.1)
      obtain ⟨b1, o1, rfl, hb1, hc1⟩ := (HA.out.below HBW.out).ints.2.2 (by omega)
      have x1 := hc1 k x hx
      obtain ⟨y1, y2⟩ := HP.out.cell hlt
      have HX := Lib.hid hx
      have HP2 := Lib.hid (HP.out.put hlt none (z := -1) rfl)
      have HBC := Lib.hid ((HB.out.below (go3 HBL.out HP2.out.2.1)).cut (j := j) (by rw [List.length_map]; exact hj))
      rw [← List.map_drop] at HBC
      have HIX := Lib.hid (fun W h => index_any (cutA B d j 1) (d - j) (ys.length - j) (ys.drop j) x W h (by rw [List.length_drop]))
      have HTR := Lib.hid (HTB.out.below HP2.out.2.1)
      have hcut := run_cut_ints B ys.length d j hj (by omega)
      clear hc1 hx hb1
      cases hi : idx x (ys.drop j) with
      | none =>
        have hm : ixI x (ys.drop j) = -1 := by unfold ixI; rw [hi]
        rw [hm] at HIX
        have HN := Lib.hid (HC.out.none_ HX.out (comm_none hi))
        clear hi hm
        generalize cutA B d j 1 = B' at *
        go_wp2_with (go_at_call 44; refine (HIX.out _ HBC.out).mono ?_; rintro e w' ⟨rfl, rfl⟩)
        go_quiet (fail)
        go_wp2_with fail
        go_roundw
        case rel => exact ⟨k + 1, j, _, by omega, hj, by go_num, rfl, HN, Lib.hid (HP2.out.below (below_drewN' _ _))⟩
        case measure => simp [intOf]; omega
      | some m =>
        have hm : ixI x (ys.drop j) = (m : Int) := by unfold ixI; rw [hi]
        rw [hm] at HIX
        have hml := (List.getElem?_eq_some_iff.1 (idx_some hi).1).1
        rw [List.length_drop] at hml
        obtain ⟨⟨t1, t2, t3, t4⟩, hxd⟩ : TB (wr.setCell ⟨w1.heap.size, k, none⟩ (.int .i64 (-1))) w.heap.size (w.heap.size + 1) xs ys ∧ True := ⟨HTR.out, trivial⟩
        have q1 := t1 k (by omega) (by omega)
        have q2 := t1 (k + 1) (by omega) (by omega)
        have q3 := t2 (k + 1) (j + m + 1) (by omega) (by omega)
        have q4 := t2 k j (by omega) (by omega)
        have l1 := lcs_le_len (xs.drop (k + 1)) (ys.drop (j + m + 1))
        rw [List.length_drop] at l1
        have HI := Lib.hid hi
        have e2 : (ys.drop j).drop (m + 1) = ys.drop (j + m + 1) := by rw [List.drop_drop]; rfl
        obtain ⟨hl, he⟩ := List.getElem?_eq_some_iff.1 HX.out
        have e3 : xs.drop k = x :: xs.drop (k + 1) := by rw [List.drop_eq_getElem_cons hl, he]
        have hmI : (0 : Int) ≤ (m : Int) := by omega
        clear t1 t2 t3 t4 hm he hl
        by_cases e : 1 + lcs (xs.drop (k + 1)) (ys.drop (j + m + 1)) = lcs (xs.drop k) (ys.drop j)
        · have HN := Lib.hid (HC.out.some_ HX.out hi e)
          have he : ((1 + (lcs (xs.drop (k + 1)) (ys.drop (j + m + 1)) : Nat) : Int) == (lcs (xs.drop k) (ys.drop j) : Nat)) = true := by rw [beq_iff_eq]; omega
          have HP3 := Lib.hid (fun q => HP2.out.again q (some (j + m)) (z := (j : Int) + m) (by simp [pI]))
          clear hi e e2 e3
          generalize cutA B d j 1 = B' at *
          generalize lcs (xs.drop (k + 1)) (ys.drop (j + m + 1)) = z1 at *
          generalize lcs (xs.drop k) (ys.drop j) = z2 at *
          generalize (xs.length + 1) * (ys.length + 1) - k * (ys.length + 1) = c1 at *
          generalize (xs.length + 1) * (ys.length + 1) - (k + 1) * (ys.length + 1) = c2 at *
          generalize k * (ys.length + 1) = p1 at *
          generalize (k + 1) * (ys.length + 1) = p2 at *
          go_wp2_with (go_at_call 44; refine (HIX.out _ HBC.out).mono ?_; rintro e w' ⟨rfl, rfl⟩)
          go_quiet (fail)
          obtain ⟨y3, y4⟩ : (∃ v : Int, (wr.setCell ⟨w1.heap.size, k, none⟩ (.int .i64 (-1))).cell? ⟨w1.heap.size, k, none⟩ = some (.int .i64 v)) ∧ True := ⟨⟨_, World.cell?_setCell_same _ _ _ y1⟩, trivial⟩
          go_wp2_with fail
          go_roundw
          case rel => exact ⟨k + 1, j + (m + 1), _, by omega, by omega, by go_num, by go_num, HN, Lib.hid (HP3.out _)⟩
          case measure => simp [intOf]; omega
        · have HN := Lib.hid (HC.out.none_ HX.out (by rw [comm_not hi]; rw [e2, ← e3]; exact e))
          have he : ((1 + (lcs (xs.drop (k + 1)) (ys.drop (j + m + 1)) : Nat) : Int) == (lcs (xs.drop k) (ys.drop j) : Nat)) = false := by rw [beq_eq_false_iff_ne]; omega
          clear hi e e2 e3
          generalize cutA B d j 1 = B' at *
          generalize lcs (xs.drop (k + 1)) (ys.drop (j + m + 1)) = z1 at *
          generalize lcs (xs.drop k) (ys.drop j) = z2 at *
          generalize (xs.length + 1) * (ys.length + 1) - k * (ys.length + 1) = c1 at *
          generalize (xs.length + 1) * (ys.length + 1) - (k + 1) * (ys.length + 1) = c2 at *
          generalize k * (ys.length + 1) = p1 at *
          generalize (k + 1) * (ys.length + 1) = p2 at *
          go_wp2_with (go_at_call 44; refine (HIX.out _ HBC.out).mono ?_; rintro e w' ⟨rfl, rfl⟩)
          go_quiet (fail)
          go_wp2_with fail
          go_roundw
          case rel => exact ⟨k + 1, j, _, by omega, hj, by go_num, rfl, HN, Lib.hid (HP2.out.below (below_drewN' _ _))⟩
          case measure => simp [intOf]; omega
    · obtain rfl : k = xs.length := by omega
      have HD : Hid (done = comm xs ys 0) := Lib.hid (by
        obtain ⟨_, h2⟩ := HC.out
        rw [List.drop_length] at h2
        rw [h2]
        exact (List.append_nil _).symm)
      have HR : Hid (RetI w done (.returned (.slice (some ⟨w1.heap.size, 0, none⟩) xs.length xs.length)) wr) := Lib.hid (by
        obtain ⟨p1, p2, _, _, p5⟩ := HP.out
        rw [Nat.sub_self] at p1
        refine ⟨w1.heap.size, by rw [p5], ?_, go3 HBL.out p2⟩
        rw [p5]
        have : part done 0 = done.map oV := by unfold part; simp
        rw [this] at p1
        obtain ⟨cur, hh, hbg, hn, hnc, hcm, hcs, htk⟩ := p1.form
        exact ⟨p1.1, .inr ⟨w1.heap.size, xs.length, cur, by rw [← hn], hbl, hh, by rw [← hn]; exact hnc, by simpa [maxLen] using hcm, by simpa using hcs, by rw [← hn, Nat.mul_one]; exact htk⟩⟩)
      clear HC HP
      go_wp2_with fail
      go_ret
      rw [← HD.out]
      exact HR.out
end Go.Proofs.YtfhkmmicdbblnaaDoor

