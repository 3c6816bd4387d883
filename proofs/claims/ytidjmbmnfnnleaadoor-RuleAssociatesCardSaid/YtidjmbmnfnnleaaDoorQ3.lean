/-
  Parse on patterns, and the reference's Parse; Same.
-/
import Derived.Test.YtidjmbmnfnnleaaDoorQ2
import Derived.RegionTactic
namespace Go.Proofs.YtidjmbmnfnnleaaDoor
set_option linter.unusedSimpArgs false
set_option linter.unusedVariables false
open Go.RowKit
open Pm

theorem cutSuffix_any (s p : ByteArray) (w : World) (hs : s.size ≤ 9223372036854775807) :
    Calls Tryd.prog 95 #[.string s, .string p] w fun e w' => e = .returned (.tuple #[.string (mkB (Lib.trimSuffix s.data.toList p.data.toList)), .bool (Lib.hasSuffix s.data.toList p.data.toList)]) ∧ w = w' :=
  (Tryd.strings_CutSuffix s p w hs).mono fun _ _ ⟨he, hw⟩ => ⟨he, hw.symm⟩
theorem hasSuffix_any (s p : ByteArray) (w : World) (hs : s.size ≤ 9223372036854775807) :
    Calls Tryd.prog 76 #[.string s, .string p] w fun e w' => e = .returned (.bool (Lib.hasSuffix s.data.toList p.data.toList)) ∧ w = w' :=
  (Tryd.strings_HasSuffix s p w hs).mono fun _ _ ⟨he, hw⟩ => ⟨he, hw.symm⟩
theorem trimSuffix_any (s p : ByteArray) (w : World) (hs : s.size ≤ 9223372036854775807) :
    Calls Tryd.prog 88 #[.string s, .string p] w fun e w' => e = .returned (.string (mkB (Lib.trimSuffix s.data.toList p.data.toList))) ∧ w = w' :=
  (Tryd.strings_TrimSuffix s p w hs).mono fun _ _ ⟨he, hw⟩ => ⟨he, hw.symm⟩

/-- splitting at the last slash -/
theorem sp_app (a b : List UInt8) (hb : (47 : UInt8) ∉ b) : sp (a ++ 47 :: b) = sp a ++ [b] := by
  induction a with
  | nil => rw [List.nil_append, sp_slash, sp_last b hb]; rfl
  | cons c a ih =>
    by_cases hc : c = 47
    · subst hc
      rw [List.cons_append, sp_slash, sp_slash, ih]
      rfl
    · obtain ⟨x, xs, h1, h2⟩ := sp_cons c a hc
      obtain ⟨y, ys, h3, h4⟩ := sp_cons c (a ++ 47 :: b) hc
      rw [List.cons_append, h4, h2]
      rw [ih, h1] at h3
      have := List.cons.inj h3
      rw [← this.1, ← this.2]
      rfl
theorem sp_split_last (l : List UInt8) : (∃ b, (47 : UInt8) ∉ b ∧ l = b ∧ sp l = [b]) ∨ ∃ a b, (47 : UInt8) ∉ b ∧ l = a ++ 47 :: b ∧ sp l = sp a ++ [b] := by
  by_cases h : (47 : UInt8) ∈ l
  · refine .inr ?_
    have hr : (47 : UInt8) ∈ l.reverse := List.mem_reverse.2 h
    obtain ⟨a, b, hab, hna⟩ : ∃ a b, l.reverse = a ++ 47 :: b ∧ (47 : UInt8) ∉ a := by
      generalize l.reverse = m at hr
      clear h
      induction m with
      | nil => cases hr
      | cons c m ih =>
        by_cases e : c = 47
        · exact ⟨[], m, by simp [e], by simp⟩
        · have : (47 : UInt8) ∈ m := by
            rcases List.mem_cons.1 hr with h | h
            · exact absurd h.symm e
            · exact h
          obtain ⟨a, b, rfl, hn⟩ := ih this
          exact ⟨c :: a, b, rfl, fun h => by
            rcases List.mem_cons.1 h with h | h
            · exact e h.symm
            · exact hn h⟩
    have hl : l = b.reverse ++ 47 :: a.reverse := by
      rw [← List.reverse_reverse l, hab]
      simp
    have hn2 : (47 : UInt8) ∉ a.reverse := fun h => hna (List.mem_reverse.1 h)
    exact ⟨b.reverse, a.reverse, hn2, hl, by rw [hl, sp_app _ _ hn2]⟩
  · exact .inl ⟨l, h, rfl, sp_last l h⟩

/-- the ending of the text of a pattern with Rest -/
def dots : List UInt8 := [46, 46, 46]
def bodyL (s : ByteArray) : List UInt8 := s.data.toList.drop 2
def prestB (s : ByteArray) : Bool := Lib.hasSuffix (bodyL s) [47, 46, 46, 46]
def ppartsB (s : ByteArray) : List ByteArray := spB (Lib.trimSuffix (bodyL s) [47, 46, 46, 46])
def parseN (s : ByteArray) : Int := if Lib.hasPrefix s.data.toList [47, 47] = true then checkP (ppartsB s) (prestB s) else 30

theorem dots_no : (47 : UInt8) ∉ dots := by decide
theorem suffix_of {a : List UInt8} : Lib.hasSuffix (a ++ 47 :: dots) [47, 46, 46, 46] = true ∧ Lib.trimSuffix (a ++ 47 :: dots) [47, 46, 46, 46] = a := by
  have h : Lib.hasSuffix (a ++ 47 :: dots) [47, 46, 46, 46] = true := by
    unfold Lib.hasSuffix
    rw [List.isSuffixOf_iff_suffix]
    exact ⟨a, rfl⟩
  refine ⟨h, ?_⟩
  unfold Lib.trimSuffix
  rw [if_pos h]
  simp [dots]
theorem suffix_not {l a b : List UInt8} (hl : l = a ++ 47 :: b) (hb : (47 : UInt8) ∉ b) (hne : b ≠ dots) : Lib.hasSuffix l [47, 46, 46, 46] = false := by
  rw [Bool.eq_false_iff]
  intro h
  unfold Lib.hasSuffix at h
  rw [List.isSuffixOf_iff_suffix] at h
  obtain ⟨c, hc⟩ := h
  have h1 : sp l = sp a ++ [b] := by rw [hl, sp_app _ _ hb]
  have h2 : sp l = sp c ++ [dots] := by rw [← hc]; exact sp_app c dots dots_no
  rw [h1] at h2
  have := List.append_inj_right' h2 rfl
  exact hne (List.cons.inj this).1
theorem suffix_none {l : List UInt8} (h : (47 : UInt8) ∉ l) : Lib.hasSuffix l [47, 46, 46, 46] = false := by
  rw [Bool.eq_false_iff]
  intro hh
  unfold Lib.hasSuffix at hh
  rw [List.isSuffixOf_iff_suffix] at hh
  obtain ⟨c, rfl⟩ := hh
  exact h (by simp)

/-- what the reference reads: the pieces, and whether the last one is three dots -/
theorem spB_last (s : ByteArray) : ∃ init last, spB (bodyL s) = init ++ [last] ∧
    (last.data.toList = dots → (0 < init.length → prestB s = true ∧ ppartsB s = init) ∧ (init = [] → parseN s = 30 ∧ checkP [] true = 30)) ∧
    (last.data.toList ≠ dots → prestB s = false ∧ ppartsB s = init ++ [last]) := by
  rcases sp_split_last (bodyL s) with ⟨b, hb, hl, hsp⟩ | ⟨a, b, hb, hl, hsp⟩
  · refine ⟨[], mkB b, by unfold spB; rw [hsp]; rfl, fun h => ⟨fun h => absurd h (by simp), fun _ => ⟨?_, rfl⟩⟩, fun h => ⟨?_, ?_⟩⟩
    · unfold parseN
      split
      · have h1 : prestB s = false := by unfold prestB; rw [hl]; exact suffix_none hb
        have h2 : ppartsB s = [mkB b] := by
          unfold ppartsB Lib.trimSuffix
          rw [show Lib.hasSuffix (bodyL s) [47, 46, 46, 46] = false from h1]
          simp only [Bool.false_eq_true, if_false]
          unfold spB
          rw [hsp]
          rfl
        rw [h1, h2]
        rfl
      · rfl
    · unfold prestB; rw [hl]; exact suffix_none hb
    · unfold ppartsB Lib.trimSuffix
      rw [show Lib.hasSuffix (bodyL s) [47, 46, 46, 46] = false from by rw [hl]; exact suffix_none hb]
      simp only [Bool.false_eq_true, if_false]
      unfold spB
      rw [hsp]
      rfl
  · refine ⟨(sp a).map mkB, mkB b, by unfold spB; rw [hsp, List.map_append]; rfl, fun h => ⟨fun _ => ?_, fun h0 => ?_⟩, fun h => ?_⟩
    · rw [mkB_data] at h
      subst h
      have := @suffix_of a
      unfold prestB ppartsB
      rw [hl, this.1, this.2]
      exact ⟨rfl, rfl⟩
    · exact absurd (List.map_eq_nil_iff.1 h0) (sp_ne a)
    · rw [mkB_data] at h
      have hs := suffix_not hl hb h
      refine ⟨hs, ?_⟩
      unfold ppartsB Lib.trimSuffix
      rw [hs]
      simp only [Bool.false_eq_true, if_false]
      unfold spB
      rw [hsp, List.map_append]
      rfl

/-- a call hands back a pattern and a number -/
def RetP (w : World) (xs : List ByteArray) (r : Bool) (n : Int) (e : Ending) (w' : World) : Prop :=
  ∃ A c, e = .returned (.tuple #[.agg #[.slice A xs.length c, .bool r], .int .i64 n]) ∧ RT w' A c xs ∧ Below w.heap.size w w'
/-- the pattern if the number is 0, else none -/
def RetPN (w : World) (xs : List ByteArray) (r : Bool) (n : Int) (e : Ending) (w' : World) : Prop :=
  (n = 0 → RetP w xs r 0 e w') ∧ (n ≠ 0 → RetP w [] false n e w')

/-- a box of two cells that may be written -/
def PX (w : World) (g : Nat) (u v : Value) : Prop :=
  w.cell? ⟨g, 0, none⟩ = some u ∧ w.cell? ⟨g, 1, none⟩ = some v ∧ w.frozen? ⟨g, 0, none⟩ = false ∧ w.frozen? ⟨g, 1, none⟩ = false ∧ g < w.heap.size
theorem PX.new (w : World) (u v : Value) (t : TypeId) : PX (w.alloc (.cells #[u, v] t)) w.heap.size u v :=
  ⟨by simp [World.cell?_alloc_new], by simp [World.cell?_alloc_new], by rw [frozen?_alloc_cells]; simp [World.frozen?], by rw [frozen?_alloc_cells]; simp [World.frozen?], by simp⟩
theorem PX.below {w w' : World} {g : Nat} {u v : Value} (h : PX w g u v) (hb : Below w.heap.size w w') : PX w' g u v :=
  ⟨(hb.cell (p := ⟨g, 0, none⟩) h.2.2.2.2).trans h.1, (hb.cell (p := ⟨g, 1, none⟩) h.2.2.2.2).trans h.2.1, (hb.frozen (p := ⟨g, 0, none⟩) h.2.2.2.2).trans h.2.2.1, (hb.frozen (p := ⟨g, 1, none⟩) h.2.2.2.2).trans h.2.2.2.1, Nat.lt_of_lt_of_le h.2.2.2.2 hb.size⟩

theorem RT.init {w : World} {A : Option Addr} {c : Nat} {xs : List ByteArray} {x : ByteArray} (h : RT w A c (xs ++ [x])) : RT w A c xs := by
  have := h.take xs.length
  rwa [List.take_left'] at this
  rfl
theorem RT.setCell {w : World} {A : Option Addr} {c : Nat} {xs : List ByteArray} {p : Addr} {v : Value} (h : RT w A c xs) (hp : w.cell? p = some v) (hv : ∀ x, v ≠ .string x) (u : Value) : RT (w.setCell p u) A c xs :=
  ⟨h.1, h.2.1, fun h0 => by
    obtain ⟨b, o, e, hlt, hc⟩ := h.2.2 h0
    refine ⟨b, o, e, by simpa [World.setCell] using hlt, fun j x hx => ?_⟩
    rw [World.cell?_setCell_other]
    · exact hc j x hx
    · rintro rfl
      rw [hc j x hx] at hp
      exact hv x (Option.some.inj hp).symm⟩
theorem RT.box {w : World} {A : Option Addr} {c g : Nat} {xs : List ByteArray} {u v : Value} (h : RT w A c xs) (hp : PX w g u v) (hu : ∀ x, u ≠ .string x) (hv : ∀ x, v ≠ .string x) (a b : Value) :
    RT ((w.setCell ⟨g, 0, none⟩ a).setCell ⟨g, 1, none⟩ b) A c xs :=
  (h.setCell hp.1 hu a).setCell ((World.cell?_setCell_other _ _ _ _ (by simp)).trans hp.2.1) hv b
theorem below_box {B g : Nat} {w w' : World} (h : Below B w w') (hg : B ≤ g) (a b : Value) : Below B w ((w'.setCell ⟨g, 0, none⟩ a).setCell ⟨g, 1, none⟩ b) :=
  (h.setCell (p := ⟨g, 0, none⟩) hg a).setCell (p := ⟨g, 1, none⟩) hg b
theorem slice_ns (A : Option Addr) (n c : Nat) : ∀ x, Value.slice A n c ≠ .string x := fun _ h => by cases h
theorem bool_ns (r : Bool) : ∀ x, Value.bool r ≠ .string x := fun _ h => by cases h

theorem ppartsB_size (s x : ByteArray) (h : x ∈ ppartsB s) : x.size ≤ s.size := by
  unfold ppartsB spB at h
  obtain ⟨l, hl, rfl⟩ := List.mem_map.1 h
  have h1 := sp_total _ l hl
  have h2 : (Lib.trimSuffix (bodyL s) [47, 46, 46, 46]).length ≤ (bodyL s).length := by
    unfold Lib.trimSuffix
    split
    · rw [List.length_take]; omega
    · exact Nat.le_refl _
  have h3 : (bodyL s).length ≤ s.data.toList.length := by unfold bodyL; rw [List.length_drop]; omega
  rw [mkB_size, Lib.size_eq]
  omega
theorem trimP_body {s : ByteArray} (h : Lib.hasPrefix s.data.toList [47, 47] = true) : Lib.trimPrefix s.data.toList [47, 47] = bodyL s := by
  unfold Lib.trimPrefix bodyL
  rw [if_pos h]
  rfl
theorem trimS_size (l p : List UInt8) : (mkB (Lib.trimSuffix l p)).size ≤ l.length := by
  rw [mkB_size]
  unfold Lib.trimSuffix
  split
  · rw [List.length_take]; omega
  · exact Nat.le_refl _
theorem bodyL_len (s : ByteArray) : (bodyL s).length ≤ s.size := by
  unfold bodyL
  rw [List.length_drop, Lib.size_eq]
  omega

/-- two patterns are one -/
def sameB (xs ys : List ByteArray) (r t : Bool) : Bool := decide (xs = ys) && (r == t)

theorem below_alloc2 (w : World) (o p : Obj) : Below w.heap.size w ((w.alloc o).alloc p) := (below_alloc w o).alloc (by simp) p
theorem same_miss {xs ys : List ByteArray} {k : Nat} {x y : ByteArray} (hx : xs[k]? = some x) (hy : ys[k]? = some y) (he : ¬ x = y) (r t : Bool) : sameB xs ys r t = false := by
  unfold sameB
  rw [Bool.and_eq_false_iff, decide_eq_false_iff_not]
  refine .inl fun e => ?_
  subst e
  rw [hx] at hy
  exact he (Option.some.inj hy)
theorem same_hit {xs ys : List ByteArray} {k : Nat} (h : xs.take k = ys.take k) (hk : xs.length ≤ k) (hl : xs.length = ys.length) (r : Bool) : sameB xs ys r r = true := by
  unfold sameB
  rw [List.take_of_length_le hk, List.take_of_length_le (by omega)] at h
  rw [h]
  simp

set_option maxHeartbeats 1000000 in
theorem psame_any (A B : Option Addr) (c d : Nat) (xs ys : List ByteArray) (r t : Bool) (w : World) (h : RT w A c xs) (k : RT w B d ys) :
    Calls Tryd.prog 34 #[.agg #[.slice A xs.length c, .bool r], .agg #[.slice B ys.length d, .bool t]] w fun e w' => e = .returned (.bool (sameB xs ys r t)) ∧ Below w.heap.size w w' := by
  have h1 := h.1
  have h2 := h.2.1
  have k1 := k.1
  have k2 := k.2.1
  have hx9 : xs.length ≤ 9223372036854775807 := by omega
  clear h1 h2 k1 k2
  have HX := Lib.hid h
  have HY := Lib.hid k
  clear h k
  by_cases hl : xs.length = ys.length ∧ r = t
  · obtain ⟨hl, rfl⟩ := hl
    have hlB : ((xs.length : Int) != (ys.length : Int)) = false := by rw [hl]; simp
    have HL := Lib.hid hl
    clear hl
    cases r <;>
    · go_enter Tryd.func34, Tryd.ntmps34
      go_wp2_with fail
      go_loopw [24] (fun i wr => ∃ k : Nat, k ≤ xs.length ∧ i = .int .i64 k ∧ Hid (xs.take k = ys.take k) ∧ Hid (Below w.heap.size w wr) ∧ wr.cell? ⟨w.heap.size + 1, 0, none⟩ = some (.slice B ys.length d))
        (fun i _ => xs.length - (intOf i).toNat)
      case atStart => exact ⟨0, Nat.zero_le _, rfl, Lib.hid (by simp), Lib.hid (below_alloc2 _ _ _), by simp [World.cell?_alloc_new]⟩
      case round =>
        obtain ⟨k, hka, rfl, HK, HBL, hcy0⟩ := hrel
        by_cases g1 : k < xs.length
        · have g2 : k < ys.length := by rw [← HL.out]; exact g1
          obtain ⟨x, hx⟩ : ∃ x, xs[k]? = some x := ⟨_, List.getElem?_eq_getElem g1⟩
          obtain ⟨y, hy⟩ : ∃ y, ys[k]? = some y := ⟨_, List.getElem?_eq_getElem g2⟩
          obtain ⟨b1, o1, rfl, hb1, hc1⟩ := (HX.out.below HBL.out).2.2 (by omega)
          obtain ⟨b2, o2, rfl, hb2, hc2⟩ := (HY.out.below HBL.out).2.2 (by omega)
          have hcx := hc1 k x hx
          have hcy := hc2 k y hy
          have HHX := Lib.hid hx
          have HHY := Lib.hid hy
          clear hc1 hc2 hx hy hb1 hb2
          by_cases he : x = y
          · have heB : (x.toList == y.toList) = true := by rw [he]; simp
            have HN := Lib.hid (take_eq_step HHX.out HHY.out HK.out he)
            clear he
            go_wp2_with fail
            go_roundw
            case rel => exact ⟨k + 1, by omega, by go_num, HN, Lib.hid (by repeat (first | exact HBL.out | apply Below.drew | apply below_drewN)), hcy0⟩
            case measure => simp [intOf]; omega
          · have heB : (x.toList == y.toList) = false := by
              rw [beq_eq_false_iff_ne, Lib.toList_data, Lib.toList_data]
              intro e
              refine he ?_
              rw [← mkB_back x, ← mkB_back y, e]
            have HN := Lib.hid (fun r t => same_miss HHX.out HHY.out he r t)
            clear he
            go_wp2_with fail
            go_ret
            exact ⟨ret_bool (HN.out _ _).symm, by repeat (first | exact HBL.out | apply Below.drew | apply below_drewN)⟩
        · have HN := Lib.hid (fun r => same_hit HK.out (by omega) HL.out r)
          go_wp2_with fail
          go_ret
          exact ⟨ret_bool (HN.out _).symm, HBL.out⟩
  · have HN : Hid (sameB xs ys r t = false) := Lib.hid (by
      unfold sameB
      rw [Bool.and_eq_false_iff, decide_eq_false_iff_not, beq_eq_false_iff_ne]
      by_cases h1 : r = t
      · exact .inl fun e => hl ⟨by rw [e], h1⟩
      · exact .inr h1)
    by_cases hrt : r = t
    · subst hrt
      have hlB : ((xs.length : Int) != (ys.length : Int)) = true := by
        rw [bne_iff_ne]
        intro e
        exact hl ⟨by omega, rfl⟩
      clear hl
      cases r <;>
      · go_enter Tryd.func34, Tryd.ntmps34
        go_wp2_with fail
        go_ret
        exact ⟨ret_bool HN.out.symm, below_alloc2 _ _ _⟩
    · clear hl
      cases r <;> cases t <;>
      first
      | exact absurd rfl hrt
      | (go_enter Tryd.func34, Tryd.ntmps34
         go_wp2_with fail
         go_ret
         exact ⟨ret_bool HN.out.symm, below_alloc2 _ _ _⟩)
end Go.Proofs.YtidjmbmnfnnleaaDoor

