/-
  The walks of Check on patterns, and of the reference's Check.
-/
import Derived.Test.YtidjmbmnfnnleaaDoorQ1
namespace Go.Proofs.YtidjmbmnfnnleaaDoor
set_option linter.unusedSimpArgs false
set_option linter.unusedVariables false
open Go.RowKit
open Pm

theorem form_zero (x : ByteArray) : formB x = 0 ↔ partB x = false := by
  unfold formB partB
  cases comp x.data.toList <;> cases starOk x <;> simp
theorem form_one (x : ByteArray) : formB x = 1 ↔ comp x.data.toList = true := by
  unfold formB
  cases comp x.data.toList <;> cases starOk x <;> simp
theorem form_cases (x : ByteArray) : formB x = 0 ∨ formB x = 1 ∨ formB x = 2 := by
  unfold formB
  cases comp x.data.toList <;> cases starOk x <;> simp

/-- parts of a pattern: a component, then parts -/
def partsOk : List ByteArray → Bool
  | [] => false
  | x :: r => comp x.data.toList && r.all partB
/-- what is wrong with a pattern -/
def checkP (xs : List ByteArray) (r : Bool) : Int :=
  if xs.length = 0 ∨ (xs.length = 1 ∧ r = false) then 30 else if partsOk xs = false then 30 else if 12 < xs.length then 31 else 0

/-- a pattern's box: its parts, and Rest -/
def PB (w : World) (g : Nat) (A : Option Addr) (n c : Nat) (r : Bool) : Prop :=
  w.cell? ⟨g, 0, none⟩ = some (.slice A n c) ∧ w.cell? ⟨g, 1, none⟩ = some (.bool r) ∧ g < w.heap.size
theorem PB.new (w : World) (A : Option Addr) (n c : Nat) (r : Bool) (t : TypeId) : PB (w.alloc (.cells #[.slice A n c, .bool r] t)) w.heap.size A n c r :=
  ⟨by simp [World.cell?_alloc_new], by simp [World.cell?_alloc_new], by simp⟩
theorem PB.below {w w' : World} {g : Nat} {A : Option Addr} {n c : Nat} {r : Bool} (h : PB w g A n c r) (hb : Below w.heap.size w w') : PB w' g A n c r :=
  ⟨(hb.cell (p := ⟨g, 0, none⟩) h.2.2).trans h.1, (hb.cell (p := ⟨g, 1, none⟩) h.2.2).trans h.2.1, Nat.lt_of_lt_of_le h.2.2 hb.size⟩
theorem below_alloc (w : World) (o : Obj) : Below w.heap.size w (w.alloc o) := (Below.refl _ _).alloc (Nat.le_refl _) _

/-- the first k parts are as they must be -/
def PO (xs : List ByteArray) (k : Nat) : Prop := ∀ j x, j < k → xs[j]? = some x → partB x = true ∧ (j = 0 → comp x.data.toList = true)
theorem PO.zero (xs : List ByteArray) : PO xs 0 := fun j x h => absurd h (Nat.not_lt_zero _)
theorem PO.next {xs : List ByteArray} {k : Nat} {x : ByteArray} (h : PO xs k) (hx : xs[k]? = some x) (h1 : partB x = true) (h2 : k = 0 → comp x.data.toList = true) : PO xs (k + 1) := fun j y hj hy => by
  by_cases e : j = k
  · subst e
    rw [hx] at hy
    cases hy
    exact ⟨h1, h2⟩
  · exact h j y (by omega) hy
theorem PO.full {xs : List ByteArray} {k : Nat} (h : PO xs k) (hk : xs.length ≤ k) (h0 : 0 < xs.length) : partsOk xs = true := by
  cases xs with
  | nil => cases h0
  | cons x r =>
    unfold partsOk
    rw [Bool.and_eq_true, List.all_eq_true]
    refine ⟨(h 0 x (by simp at hk; omega) rfl).2 rfl, fun y hy => ?_⟩
    obtain ⟨j, hj⟩ := List.getElem?_of_mem hy
    have hjl := (List.getElem?_eq_some_iff.1 hj).1
    exact (h (j + 1) y (by simp at hk; omega) (by simpa using hj)).1
theorem parts_bad {xs : List ByteArray} {k : Nat} {x : ByteArray} (hx : xs[k]? = some x) (h : partB x = false ∨ (k = 0 ∧ comp x.data.toList = false)) : partsOk xs = false := by
  cases xs with
  | nil => rfl
  | cons y r =>
    unfold partsOk
    rw [Bool.and_eq_false_iff]
    rcases k with _ | k
    · simp at hx
      subst hx
      rcases h with h | h
      · refine .inl ?_
        unfold partB at h
        cases hc : comp y.data.toList with
        | false => rfl
        | true => rw [hc] at h; simp at h
      · exact .inl h.2
    · rcases h with h | h
      · refine .inr ?_
        rw [Bool.eq_false_iff]
        intro hh
        have hm : x ∈ r := List.mem_of_getElem? (by simpa using hx)
        have := List.all_eq_true.1 hh x hm
        rw [h] at this
        cases this
      · omega

theorem check_short {xs : List ByteArray} {r : Bool} (h : xs.length = 0 ∨ (xs.length = 1 ∧ r = false)) : checkP xs r = 30 := by unfold checkP; rw [if_pos h]
theorem check_bad {xs : List ByteArray} {r : Bool} (h : partsOk xs = false) : checkP xs r = 30 := by
  unfold checkP
  rw [if_pos h]
  split <;> rfl
theorem check_good {xs : List ByteArray} {r : Bool} (h0 : ¬ (xs.length = 0 ∨ (xs.length = 1 ∧ r = false))) (h : partsOk xs = true) : checkP xs r = if 12 < xs.length then 31 else 0 := by
  unfold checkP
  rw [if_neg h0, if_neg (by rw [h]; decide)]

set_option maxHeartbeats 2000000 in
theorem check_any (A : Option Addr) (c : Nat) (xs : List ByteArray) (r : Bool) (w : World) (h : RT w A c xs) (hsz : ∀ x ∈ xs, x.size ≤ 9223372036854775807) :
    Calls Tryd.prog 43 #[.agg #[.slice A xs.length c, .bool r]] w fun e w' => e = .returned (.int .i64 (checkP xs r)) ∧ Below w.heap.size w w' := by
  have h1 := h.1
  have h2 := h.2.1
  have HR := Lib.hid h
  have HS := Lib.hid hsz
  clear h hsz
  by_cases hs : xs.length = 0 ∨ (xs.length = 1 ∧ r = false)
  · have HC := Lib.hid (check_short hs)
    rcases hs with hs | ⟨hs, hr⟩
    · have hn0 : ((xs.length : Int) == 0) = true := by rw [hs]; rfl
      clear hs
      go_enter Tryd.func43, Tryd.ntmps43
      go_wp2_with fail
      go_ret
      exact ⟨ret_int HC.out.symm, below_alloc _ _⟩
    · subst hr
      have hn0 : ((xs.length : Int) == 0) = false := by rw [hs]; rfl
      have hn1 : ((xs.length : Int) == 1) = true := by rw [hs]; rfl
      clear hs
      go_enter Tryd.func43, Tryd.ntmps43
      go_wp2_with fail
      go_ret
      exact ⟨ret_int HC.out.symm, below_alloc _ _⟩
  · have HG := Lib.hid (fun (k : partsOk xs = true) => check_good (r := r) hs k)
    have hpos : 0 < xs.length := by omega
    have hn0 : ((xs.length : Int) == 0) = false := by rw [beq_eq_false_iff_ne]; omega
    have hcase : (((xs.length : Int) == 1) = true ∧ r = true) ∨ ((xs.length : Int) == 1) = false := by
      by_cases e : xs.length = 1
      · refine .inl ⟨by rw [e]; rfl, ?_⟩
        cases r with
        | true => rfl
        | false => exact absurd (.inr ⟨e, rfl⟩) hs
      · exact .inr (by rw [beq_eq_false_iff_ne]; omega)
    clear hs
    obtain ⟨b, o, rfl, hbl, hc⟩ := HR.out.2.2 hpos
    have HCE := Lib.hid hc
    clear hc
    rcases hcase with ⟨hn1, rfl⟩ | hn1 <;>
    · go_enter Tryd.func43, Tryd.ntmps43
      go_wp2_with fail
      go_loopw [23] (fun i wr => ∃ k : Nat, k ≤ xs.length ∧ i = .int .i64 k ∧ Hid (PO xs k) ∧ Below w.heap.size w wr ∧ PB wr w.heap.size (some ⟨b, o, none⟩) xs.length c _) (fun i _ => xs.length - (intOf i).toNat)
      case atStart => exact ⟨0, Nat.zero_le _, rfl, Lib.hid (PO.zero _), below_alloc _ _, PB.new _ _ _ _ _ _⟩
      case round =>
        obtain ⟨k, hk, rfl, HA, hbel, hpb⟩ := hrel
        have hp0 := hpb.1
        have hp1 := hpb.2.1
        by_cases hlt : k < xs.length
        · obtain ⟨x, hx⟩ : ∃ x, xs[k]? = some x := ⟨_, List.getElem?_eq_getElem hlt⟩
          have hcell : wr.cell? ⟨b, o + k, none⟩ = some (.string x) := (hbel.cell (p := ⟨b, o + k, none⟩) hbl).trans (HCE.out k x hx)
          have hxs := HS.out x (List.mem_of_getElem? hx)
          have HX := Lib.hid hx
          have HF0 := Lib.hid (form_zero x)
          have HF1 := Lib.hid (form_one x)
          clear hx
          rcases form_cases x with hf | hf | hf
          · have hfB : (formB x == 0) = true := by rw [hf]; rfl
            have HB := Lib.hid (fun r' => check_bad (r := r') (parts_bad HX.out (.inl (HF0.out.1 hf))))
            clear hf
            go_wp2_with (go_at_call 65; refine (formOf_any _ _ (by omega)).mono ?_; rintro e w' ⟨rfl, rfl⟩)
            go_ret
            exact ⟨ret_int (HB.out _).symm, hbel⟩
          · have hfB : (formB x == 0) = false := by rw [hf]; rfl
            have hfB2 : (formB x == 2) = false := by rw [hf]; rfl
            have HP : Hid (partB x = true) := Lib.hid (by unfold partB; rw [HF1.out.1 hf, Bool.or_true])
            have HC1 := Lib.hid (HF1.out.1 hf)
            clear hf
            go_wp2_with (go_at_call 65; refine (formOf_any _ _ (by omega)).mono ?_; rintro e w' ⟨rfl, rfl⟩)
            go_roundw
            case rel => exact ⟨k + 1, by omega, by go_num, Lib.hid (HA.out.next HX.out HP.out (fun _ => HC1.out)), hbel, hpb⟩
            case measure => simp [intOf]; omega
          · have hfB : (formB x == 0) = false := by rw [hf]; rfl
            have hfB2 : (formB x == 2) = true := by rw [hf]; rfl
            have HP : Hid (partB x = true) := Lib.hid (by
              cases hp : partB x with
              | true => rfl
              | false => rw [HF0.out.2 hp] at hf; cases hf)
            have HC1 : Hid (comp x.data.toList = false) := Lib.hid (by
              cases hp : comp x.data.toList with
              | false => rfl
              | true => rw [HF1.out.2 hp] at hf; cases hf)
            clear hf
            by_cases hk0 : k = 0
            · have hkB : ((k : Int) == 0) = true := by rw [hk0]; rfl
              have HB := Lib.hid (fun r' => check_bad (r := r') (parts_bad HX.out (.inr ⟨hk0, HC1.out⟩)))
              clear hk0
              go_wp2_with (go_at_call 65; refine (formOf_any _ _ (by omega)).mono ?_; rintro e w' ⟨rfl, rfl⟩)
              go_ret
              exact ⟨ret_int (HB.out _).symm, hbel⟩
            · have hkB : ((k : Int) == 0) = false := by rw [beq_eq_false_iff_ne]; omega
              go_wp2_with (go_at_call 65; refine (formOf_any _ _ (by omega)).mono ?_; rintro e w' ⟨rfl, rfl⟩)
              go_roundw
              case rel => exact ⟨k + 1, by omega, by go_num, Lib.hid (HA.out.next HX.out HP.out (fun e => absurd e hk0)), hbel, hpb⟩
              case measure => simp [intOf]; omega
        · have HOK := Lib.hid (HG.out (HA.out.full (by omega) hpos))
          by_cases h12 : 12 < xs.length
          · go_wp2_with fail
            go_ret
            exact ⟨ret_int (by rw [HOK.out, if_pos h12]), hbel⟩
          · go_wp2_with fail
            go_ret
            exact ⟨ret_int (by rw [HOK.out, if_neg h12]), hbel⟩

theorem PO.first {xs : List ByteArray} {x : ByteArray} (hx : xs[0]? = some x) (h : comp x.data.toList = true) : PO xs 1 :=
  (PO.zero xs).next hx (by unfold partB; rw [h, Bool.or_true]) (fun _ => h)

set_option maxHeartbeats 2000000 in
theorem rcheck_any (A : Option Addr) (c : Nat) (xs : List ByteArray) (r : Bool) (w : World) (h : RT w A c xs) (hsz : ∀ x ∈ xs, x.size ≤ 9223372036854775807) :
    Calls Tryd.prog 41 #[.agg #[.slice A xs.length c, .bool r]] w fun e w' => e = .returned (.int .i64 (checkP xs r)) ∧ Below w.heap.size w w' := by
  have h1 := h.1
  have h2 := h.2.1
  have HR := Lib.hid h
  have HS := Lib.hid hsz
  clear h hsz
  by_cases hs : xs.length = 0 ∨ (xs.length = 1 ∧ r = false)
  · have HC := Lib.hid (check_short hs)
    rcases hs with hs | ⟨hs, hr⟩
    · have hn0 : ((xs.length : Int) == 0) = true := by rw [hs]; rfl
      clear hs
      go_enter Tryd.func41, Tryd.ntmps41
      go_wp2_with fail
      go_ret
      exact ⟨ret_int HC.out.symm, below_alloc _ _⟩
    · subst hr
      have hn0 : ((xs.length : Int) == 0) = false := by rw [hs]; rfl
      have hn1 : ((xs.length : Int) == 1) = true := by rw [hs]; rfl
      clear hs
      go_enter Tryd.func41, Tryd.ntmps41
      go_wp2_with fail
      go_ret
      exact ⟨ret_int HC.out.symm, below_alloc _ _⟩
  · have HG := Lib.hid (fun (k : partsOk xs = true) => check_good (r := r) hs k)
    have hpos : 0 < xs.length := by omega
    have hn0 : ((xs.length : Int) == 0) = false := by rw [beq_eq_false_iff_ne]; omega
    have hcase : (((xs.length : Int) == 1) = true ∧ r = true) ∨ ((xs.length : Int) == 1) = false := by
      by_cases e : xs.length = 1
      · refine .inl ⟨by rw [e]; rfl, ?_⟩
        cases r with
        | true => rfl
        | false => exact absurd (.inr ⟨e, rfl⟩) hs
      · exact .inr (by rw [beq_eq_false_iff_ne]; omega)
    clear hs
    obtain ⟨b, o, rfl, hbl, hc⟩ := HR.out.2.2 hpos
    have HCE := Lib.hid hc
    clear hc
    obtain ⟨x0, hx0⟩ : ∃ x, xs[0]? = some x := ⟨_, List.getElem?_eq_getElem hpos⟩
    have hc0 : ∀ ob, (w.alloc ob).cell? ⟨b, o, none⟩ = some (.string x0) := fun ob => ((below_alloc w ob).cell (p := ⟨b, o, none⟩) hbl).trans (HCE.out 0 x0 hx0)
    have hxs0 := HS.out x0 (List.mem_of_getElem? hx0)
    have HX0 := Lib.hid hx0
    clear hx0
    cases hcx : comp x0.data.toList with
    | false =>
      have HB := Lib.hid (fun r' => check_bad (r := r') (parts_bad HX0.out (.inr ⟨rfl, hcx⟩)))
      rcases hcase with ⟨hn1, rfl⟩ | hn1 <;>
      · go_enter Tryd.func41, Tryd.ntmps41
        go_wp2_with (go_at_call 59; refine (rcomponent_any _ _ (by omega)).mono ?_; rintro e w' ⟨rfl, rfl⟩)
        go_ret
        exact ⟨ret_int (HB.out _).symm, below_alloc _ _⟩
    | true =>
      have HA1 := Lib.hid (PO.first HX0.out hcx)
      by_cases hc1 : c = 1
      · subst hc1
        have hl1 : xs.length = 1 := by omega
        have HOK := Lib.hid (HG.out (HA1.out.full (by omega) hpos))
        rcases hcase with ⟨hn1, rfl⟩ | hn1
        · rw [hl1]
          rw [hl1] at HOK hn0 hn1
          clear hl1 hpos h1
          go_enter Tryd.func41, Tryd.ntmps41
          go_wp2_with (go_at_call 59; refine (rcomponent_any _ _ (by omega)).mono ?_; rintro e w' ⟨rfl, rfl⟩)
          refine wp_loop_rounds 1 ?_
          rw [rounds_succ]
          go_wp2_with fail
          go_ret
          exact ⟨ret_int (by rw [HOK.out]; rfl), below_alloc _ _⟩
        · rw [hl1] at hn1
          cases hn1
      · rcases hcase with ⟨hn1, rfl⟩ | hn1 <;>
        · go_enter Tryd.func41, Tryd.ntmps41
          go_wp2_with (go_at_call 59; refine (rcomponent_any _ _ (by omega)).mono ?_; rintro e w' ⟨rfl, rfl⟩)
          go_loopw [32] (fun i wr => ∃ k : Nat, k + 1 ≤ xs.length ∧ i = .int .i64 k ∧ Hid (PO xs (k + 1)) ∧ Below w.heap.size w wr ∧ PB wr w.heap.size (some ⟨b, o, none⟩) xs.length c _) (fun i _ => xs.length - (intOf i).toNat)
          case atStart => exact ⟨0, by omega, rfl, HA1, below_alloc _ _, PB.new _ _ _ _ _ _⟩
          case round =>
            obtain ⟨k, hk, rfl, HA, hbel, hpb⟩ := hrel
            have hp0 := hpb.1
            have hp1 := hpb.2.1
            by_cases hlt : k + 1 < xs.length
            · obtain ⟨x, hx⟩ : ∃ x, xs[k + 1]? = some x := ⟨_, List.getElem?_eq_getElem hlt⟩
              have hcell : wr.cell? ⟨b, o + 1 + k, none⟩ = some (.string x) := by
                rw [show o + 1 + k = o + (k + 1) by omega]
                exact (hbel.cell (p := ⟨b, o + (k + 1), none⟩) hbl).trans (HCE.out (k + 1) x hx)
              have hxs := HS.out x (List.mem_of_getElem? hx)
              have HX := Lib.hid hx
              clear hx
              cases hpx : partB x with
              | false =>
                have HB := Lib.hid (fun r' => check_bad (r := r') (parts_bad HX.out (.inl hpx)))
                go_wp2_with (go_at_call 64; refine (rpart_any _ _ (by omega)).mono ?_; rintro e w' ⟨rfl, rfl⟩)
                go_ret
                exact ⟨ret_int (HB.out _).symm, hbel⟩
              | true =>
                have HN := Lib.hid (HA.out.next HX.out hpx (fun e => absurd e (by omega)))
                go_wp2_with (go_at_call 64; refine (rpart_any _ _ (by omega)).mono ?_; rintro e w' ⟨rfl, rfl⟩)
                go_roundw
                case rel => exact ⟨k + 1, by omega, by go_num, HN, hbel, hpb⟩
                case measure => simp [intOf]; omega
            · have HOK := Lib.hid (HG.out (HA.out.full (by omega) hpos))
              by_cases h12 : 12 < xs.length
              · go_wp2_with fail
                go_ret
                exact ⟨ret_int (by rw [HOK.out, if_pos h12]), hbel⟩
              · go_wp2_with fail
                go_ret
                exact ⟨ret_int (by rw [HOK.out, if_neg h12]), hbel⟩
end Go.Proofs.YtidjmbmnfnnleaaDoor

