/-
  Rules: the walks of determine, fix, and of the reference's Fix.
-/
import Derived.Test.YtidjmbmnfnnleaaDoorMR
import Derived.Test.YtidjmbmnfnnleaaDoorQ21
import Derived.Test.YtidjmbmnfnnleaaDoorA2
namespace Go.Proofs.YtidjmbmnfnnleaaDoor
set_option linter.unusedSimpArgs false
set_option linter.unusedVariables false
open Go.RowKit
open Pm

theorem starP_any (x : ByteArray) (w : World) :
    Calls Tryd.prog 74 #[.string x, .string ⟨#[42]⟩] w fun e w' => e = .returned (.bool (stB x)) ∧ w = w' := hasPrefix_any x ⟨#[42]⟩ w
theorem cap_full {p x : ByteArray} (hs : stB p = true) (h : mpOk p x = true) : (mpCap p x).toList.isEmpty = false := by
  unfold mpOk at h
  rw [if_pos hs, Bool.and_eq_true] at h
  unfold mpCap
  rw [if_pos hs, Lib.toList_data, mkB_data]
  simpa using h.2
theorem cap_none {p x : ByteArray} (hs : stB p = false) : mpCap p x = ⟨#[]⟩ := by
  unfold mpCap
  rw [if_neg (by rw [hs]; decide)]
set_option maxHeartbeats 1000000 in
theorem determine_any (a b : ByteArray) (w : World) (ha : a.size ≤ 9223372036854775807) (hb : b.size ≤ 9223372036854775807) :
    Calls Tryd.prog 72 #[.string a, .string b] w fun e w' => e = .returned (.tuple #[.string (detC a b), .bool (detO a b)]) ∧ w = w' := by
  have HA := Lib.hid (matchPart_any a b w hb)
  have HB := Lib.hid (matchPart_any b a w ha)
  clear ha hb
  cases hsa : stB a with
  | true =>
    cases hsb : stB b with
    | true =>
      have HC : Hid (detC a b = ⟨#[]⟩ ∧ detO a b = false) := Lib.hid (by unfold detC detO; rw [if_pos hsa, if_pos hsa, if_pos hsb, hsb]; exact ⟨rfl, rfl⟩)
      rw [HC.out.1, HC.out.2]
      go_enter Tryd.func72, Tryd.ntmps72
      go_wp2_with (go_at_call 74; refine (starP_any _ _).mono ?_; rintro e w' ⟨rfl, rfl⟩)
      go_ret2
      exact ⟨rfl, rfl⟩
    | false =>
      have HC : Hid (detC a b = mpCap a b ∧ detO a b = mpOk a b) := Lib.hid (by unfold detC detO; rw [if_pos hsa, if_pos hsa, if_neg (by rw [hsb]; decide), hsb]; exact ⟨rfl, rfl⟩)
      have HF := Lib.hid (fun h => cap_full (p := a) (x := b) hsa h)
      rw [HC.out.1, HC.out.2]
      cases ho : mpOk a b with
      | false =>
        rw [ho] at HA
        generalize mpCap a b = c at *
        go_enter Tryd.func72, Tryd.ntmps72
        go_wp2_with (first
          | (go_at_call 74; refine (starP_any _ _).mono ?_; rintro e w' ⟨rfl, rfl⟩)
          | (go_at_call 78; refine HA.out.mono ?_; rintro e w' ⟨rfl, rfl⟩))
        go_ret2
        exact ⟨rfl, rfl⟩
      | true =>
        have hne := HF.out ho
        rw [ho] at HA
        generalize mpCap a b = c at *
        go_enter Tryd.func72, Tryd.ntmps72
        go_wp2_with (first
          | (go_at_call 74; refine (starP_any _ _).mono ?_; rintro e w' ⟨rfl, rfl⟩)
          | (go_at_call 78; refine HA.out.mono ?_; rintro e w' ⟨rfl, rfl⟩))
        go_ret2
        exact ⟨rfl, rfl⟩
  | false =>
    have HC : Hid (detC a b = mpCap b a ∧ detO a b = (stB b && mpOk b a)) := Lib.hid (by unfold detC detO; rw [if_neg (by rw [hsa]; decide), if_neg (by rw [hsa]; decide)]; exact ⟨rfl, rfl⟩)
    have HF := Lib.hid (fun hs h => cap_full (p := b) (x := a) hs h)
    have HN := Lib.hid (fun hs => cap_none (p := b) (x := a) hs)
    rw [HC.out.1, HC.out.2]
    clear HC
    cases ho : mpOk b a with
    | false =>
      rw [ho] at HB
      rw [Bool.and_false]
      generalize mpCap b a = c at *
      go_enter Tryd.func72, Tryd.ntmps72
      go_wp2_with (first
        | (go_at_call 74; refine (starP_any _ _).mono ?_; rintro e w' ⟨rfl, rfl⟩)
        | (go_at_call 78; refine HB.out.mono ?_; rintro e w' ⟨rfl, rfl⟩))
      go_ret2
      exact ⟨rfl, rfl⟩
    | true =>
      rw [ho] at HB
      rw [Bool.and_true]
      cases hsb : stB b with
      | false =>
        rw [HN.out hsb] at HB ⊢
        clear HF HN
        go_enter Tryd.func72, Tryd.ntmps72
        go_wp2_with (first
          | (go_at_call 74; refine (starP_any _ _).mono ?_; rintro e w' ⟨rfl, rfl⟩)
          | (go_at_call 78; refine HB.out.mono ?_; rintro e w' ⟨rfl, rfl⟩))
        go_ret2
        exact ⟨rfl, rfl⟩
      | true =>
        have hne := HF.out hsb ho
        generalize mpCap b a = c at *
        go_enter Tryd.func72, Tryd.ntmps72
        go_wp2_with (first
          | (go_at_call 74; refine (starP_any _ _).mono ?_; rintro e w' ⟨rfl, rfl⟩)
          | (go_at_call 78; refine HB.out.mono ?_; rintro e w' ⟨rfl, rfl⟩))
        go_ret2
        exact ⟨rfl, rfl⟩

/-- a call hands back a pattern whose parts lie in a row of its own -/
def RetPO (w : World) (xs : List ByteArray) (r : Bool) (e : Ending) (w' : World) : Prop :=
  ∃ g d base, e = .returned (.agg #[.slice (some ⟨g, 0, none⟩) xs.length d, .bool r]) ∧ (w.heap.size ≤ base ∧ OT w' base (.slice (some ⟨g, 0, none⟩) xs.length d) xs) ∧ Below w.heap.size w w'
theorem OT.box {w : World} {base : Nat} {v : Value} {xs : List ByteArray} (h : OT w base v xs) {g : Nat} (hg : g < base) (a b : Value) : OT ((w.setCell ⟨g, 0, none⟩ a).setCell ⟨g, 1, none⟩ b) base v xs :=
  (h.other (p := ⟨g, 0, none⟩) hg a).other (p := ⟨g, 1, none⟩) hg b
set_option maxHeartbeats 2000000 in
theorem pcopy_own (A : Option Addr) (c : Nat) (xs : List ByteArray) (r : Bool) (w : World) (h : RT w A c xs) (h0 : 0 < xs.length) (hl : xs.length ≤ 100000) :
    Calls Tryd.prog 39 #[.agg #[.slice A xs.length c, .bool r]] w (RetPO w xs r) := by
  have HI := PV.enter h r 24
  have HCL : Hid (∀ w', At (PV w A c xs r) w' → Calls Tryd.prog 62 #[.slice A xs.length c] w' fun e w'' => ∃ g d base, e = .returned (.slice (some ⟨g, 0, none⟩) xs.length d) ∧ (w.heap.size + 1 < base ∧ OT w'' base (.slice (some ⟨g, 0, none⟩) xs.length d) xs) ∧ Below w'.heap.size w' w'') := Lib.hid (fun w' h =>
    (clone_any A c xs w' (PV.x h) h0 hl).mono fun e w'' ⟨g, d, a1, a2, a3⟩ => ⟨g, d, _, a1, ⟨(PV.res h).2.2.2.2, a2⟩, a3⟩)
  have h1 := h.1
  have h2 := h.2.1
  clear h
  have HR := Lib.hid True.intro
  go_enter Tryd.func39, Tryd.ntmps39
  go_wp2_with fail
  go_region_held3 (fun w' => w'.cell? ⟨w.heap.size, 0, none⟩ = some (.slice A xs.length c) ∧ w'.cell? ⟨w.heap.size, 1, none⟩ = some (.bool r))
    (first | (refine PV.cells (HI.go ?_) <;> (repeat (first | exact Below.refl _ _ | apply Below.drew | apply below_drewN | apply below_al)) <;> done) | go_keep)
    ((go_at_call 62; refine (HCL.out _ (HI.go (by repeat (first | exact Below.refl _ _ | apply Below.drew | apply below_drewN | apply below_al)))).mono ?_; rintro e w3 ⟨g, d, base, rfl, ⟨hbs, ho⟩, hb⟩; replace HI := HI.go2 (by repeat (first | exact Below.refl _ _ | apply Below.drew | apply below_drewN | apply below_al)) hb; have HO := Lib.hid ho; obtain ⟨q1, q2, q3, q4, q5⟩ := PV.res HI; obtain ⟨a1, a2⟩ := PV.cells HI; clear ho hb))
  all_goals go_wp2_with fail
  all_goals
    refine bodyPost_ret (v := .agg #[.slice (some ⟨g, 0, none⟩) xs.length d, .bool r]) (by simp [results, Tryd.results39, go_sem, q1, q2, q3, q4]) rfl ⟨g, d, base, rfl, ⟨by omega, HO.out.box hbs _ _⟩, below_box (PV.b HI) (by omega) _ _⟩

set_option maxHeartbeats 1000000 in
theorem rcopy_own (A : Option Addr) (c : Nat) (xs : List ByteArray) (r : Bool) (w : World) (h : RT w A c xs) (h0 : 0 < xs.length) (hlen : xs.length ≤ 100000) :
    Calls Tryd.prog 38 #[.agg #[.slice A xs.length c, .bool r]] w (RetPO w xs r) := by
  have h1 := h.1
  have h2 := h.2.1
  have HX := Lib.hid h
  clear h
  go_enter Tryd.func38, Tryd.ntmps38
  go_wp2_with fail
  go_region_law (refine step_append_texts rfl _ _ rfl (w.heap.size + 2) (.slice none 0 0) [] xs A c rfl rfl (OT.nil _ _) (HX.out.below (below_alloc2 _ _ _).drew) (by simp; omega) (by simp) ?_; intro v1 w1 hown hg _; have hbg := (Below.refl _ _).grown hg (Nat.le_refl _) (by intro k h; simp [Value.ownBlock] at h); have P1 := Lib.hid (((PX.new w (.slice A xs.length c) (.bool r) _).below (below_alloc _ (.cells #[.slice none 0 0, .bool false] 24))).below ((Below.refl _ _).drew.trans hbg)); have P2 : Hid (PX w1 (w.heap.size + 1) (.slice none 0 0) (.bool false)) := Lib.hid (by have := ((PX.new (w.alloc (.cells #[.slice A xs.length c, .bool r] 24)) (.slice none 0 0) (.bool false) _).below ((Below.refl _ _).drew.trans hbg)); simpa using this); have HB := Lib.hid ((below_alloc2 w _ _).drew.trans (hbg.mono (by simp; omega))); clear hg hbg; rw [List.nil_append] at hown; have HO := Lib.hid hown; obtain ⟨g, d, rfl, hg1, hg2, hg3, hg4⟩ := hown.block h0; clear hown; obtain ⟨p1, p2, p3, p4, p5⟩ := P1.out; obtain ⟨q1, q2, q3, q4, q5⟩ := P2.out)
  all_goals go_wp2_with fail
  all_goals
    refine bodyPost_ret (v := .agg #[.slice (some ⟨g, 0, none⟩) xs.length d, .bool r]) (by simp [results, Tryd.results38, go_sem, q1, q2, q3, q4]) rfl ⟨g, d, w.heap.size + 2, rfl, ⟨by omega, HO.out.box (by omega) _ _⟩, below_box HB.out (by omega) _ _⟩

theorem cutStar_yes {x : ByteArray} (h : stB x = true) (w : World) :
    Calls Tryd.prog 90 #[.string x, .string ⟨#[42]⟩] w fun e w' => e = .returned (.tuple #[.string (tlB x), .bool true]) ∧ w = w' := by
  have e : mkB (Lib.trimPrefix x.data.toList (⟨#[42]⟩ : ByteArray).data.toList) = tlB x := by
    unfold stB at h
    unfold Lib.trimPrefix
    rw [if_pos h]
    show mkB (x.data.toList.drop 1) = tlB x
    rw [← tlB_data, mkB_back]
  have := cutPrefix_any x ⟨#[42]⟩ w
  rw [e, show Lib.hasPrefix x.data.toList (⟨#[42]⟩ : ByteArray).data.toList = true from h] at this
  exact this
theorem cutStar_no {x : ByteArray} (h : stB x = false) (w : World) :
    Calls Tryd.prog 90 #[.string x, .string ⟨#[42]⟩] w fun e w' => ∃ y : ByteArray, e = .returned (.tuple #[.string y, .bool false]) ∧ w = w' := by
  have := cutPrefix_any x ⟨#[42]⟩ w
  rw [show Lib.hasPrefix x.data.toList (⟨#[42]⟩ : ByteArray).data.toList = false from h] at this
  exact this.mono fun e w' ⟨h1, h2⟩ => ⟨_, h1, h2⟩

theorem starR_yes {x : ByteArray} (hp : partB x = true) (h : stB x = true) (w : World) (hz : x.size ≤ 9223372036854775807) :
    Calls Tryd.prog 51 #[.string x] w fun e w' => e = .returned (.tuple #[.string (tlB x), .bool true]) ∧ w = w' := by
  have hst := star_agree hp
  rw [h] at hst
  have e : sufB x = tlB x := by unfold sufB; rw [if_pos hst]
  have := rstar_any x w hz
  rw [e, hst] at this
  exact this
theorem starR_no {x : ByteArray} (hp : partB x = true) (h : stB x = false) (w : World) (hz : x.size ≤ 9223372036854775807) :
    Calls Tryd.prog 51 #[.string x] w fun e w' => e = .returned (.tuple #[.string ⟨#[]⟩, .bool false]) ∧ w = w' := by
  have hst := star_agree hp
  rw [h] at hst
  have e : sufB x = ⟨#[]⟩ := by unfold sufB; rw [if_neg (by rw [hst]; decide)]
  have := rstar_any x w hz
  rw [e, hst] at this
  exact this

/-- the state of fix: the copy's box at q, the box of the result, the copy's parts in a row of the call's own -/
def PW (W : World) (q g d base : Nat) (xs : List ByteArray) (r : Bool) (w : World) : Prop :=
  (PX w q (.slice (some ⟨g, 0, none⟩) xs.length d) (.bool r) ∧ PX w (W.heap.size + 1) (.slice none 0 0) (.bool false)) ∧ (W.heap.size + 2 ≤ base ∧ OT w base (.slice (some ⟨g, 0, none⟩) xs.length d) xs) ∧ (q ≠ g ∧ W.heap.size ≤ q ∧ q ≠ W.heap.size + 1) ∧ Below W.heap.size W w
theorem PW.start {W : World} {A : Option Addr} {c : Nat} {xs : List ByteArray} {r : Bool} {w : World} (h : At (PV W A c xs r) w) {g d base : Nat} (hbs : W.heap.size + 2 ≤ base) (ho : OT w base (.slice (some ⟨g, 0, none⟩) xs.length d) xs) (h0 : 0 < xs.length) :
    PW W W.heap.size g d base xs r ((w.setCell ⟨W.heap.size, 0, none⟩ (.slice (some ⟨g, 0, none⟩) xs.length d)).setCell ⟨W.heap.size, 1, none⟩ (.bool r)) := by
  obtain ⟨g', cap, e, hg, _⟩ := ho.block h0
  cases e
  exact ⟨⟨h.out.1.set_same _ _, (h.out.2.1.set_cell _ (by simp) _).set_cell _ (by simp) _⟩, ⟨hbs, ho.box (by omega) _ _⟩, ⟨by omega, Nat.le_refl _, by omega⟩, below_box (PV.b h) (Nat.le_refl _) _ _⟩
theorem PW.start2 {W : World} {A : Option Addr} {c : Nat} {xs : List ByteArray} {r : Bool} {w : World} (h : At (PV W A c xs r) w) {g d base : Nat} (hbs : W.heap.size + 2 ≤ base) (ho : OT w base (.slice (some ⟨g, 0, none⟩) xs.length d) xs) (h0 : 0 < xs.length) {q : Nat} (hq : q = w.heap.size) (T : TypeId) :
    PW W q g d base xs r (w.alloc (.cells #[.slice (some ⟨g, 0, none⟩) xs.length d, .bool r] T)) := by
  subst hq
  obtain ⟨g', cap, e, hg, hg2, _⟩ := ho.block h0
  cases e
  have hz := h.out.2.1.2.2.2.2
  exact ⟨⟨PX.new _ _ _ _, h.out.2.1.below (below_alloc _ _)⟩, ⟨hbs, ho.below (below_alloc _ _)⟩, ⟨by omega, (PV.b h).size, by omega⟩, below_al (PV.b h) _⟩
theorem PW.set {W : World} {q g d base : Nat} {xs : List ByteArray} {r : Bool} {w : World} (h : PW W q g d base xs r w) {i : Nat} (hi : i < xs.length) (y : ByteArray) :
    PW W q g d base (xs.set i y) r (w.setCell ⟨g, i, none⟩ (.string y)) := by
  obtain ⟨⟨h1, h2⟩, ⟨h3, h4⟩, h5, h6⟩ := h
  obtain ⟨g', cap, e, hg, _⟩ := h4.block (by omega)
  cases e
  refine ⟨⟨?_, h2.set_cell _ (by simp; omega) _⟩, ⟨h3, ?_⟩, h5, h6.setCell (by simp; omega) _⟩
  · rw [List.length_set]
    exact h1.set_cell _ (by simp; omega) _
  · rw [List.length_set]
    exact h4.set hi y
theorem PW.read {W : World} {q g d base : Nat} {xs : List ByteArray} {r : Bool} {w : World} (h : PW W q g d base xs r w) : RT w (some ⟨g, 0, none⟩) d xs := by
  obtain ⟨A, c, e, hr⟩ := h.2.1.2.read
  cases e
  exact hr
theorem PW.ret {W : World} {q g d base : Nat} {xs : List ByteArray} {r : Bool} {w : World} (h : PW W q g d base xs r w) (a b : Value) :
    RT ((w.setCell ⟨W.heap.size + 1, 0, none⟩ a).setCell ⟨W.heap.size + 1, 1, none⟩ b) (some ⟨g, 0, none⟩) d xs ∧ Below W.heap.size W ((w.setCell ⟨W.heap.size + 1, 0, none⟩ a).setCell ⟨W.heap.size + 1, 1, none⟩ b) :=
  ⟨h.read.box h.1.2 (slice_ns _ _ _) (bool_ns _) _ _, below_box h.2.2.2 (by omega) _ _⟩
/-- where fix stands -/
theorem fix_at_lit {c x : ByteArray} {k m i : Nat} {xs : List ByteArray} (h : fixB c k xs = xs.take i ++ fixB c m (xs.drop i)) (hx : xs[i]? = some x) (hs : stB x = false) : fixB c k xs = xs.take (i + 1) ++ fixB c m (xs.drop (i + 1)) := by
  obtain ⟨hl, he⟩ := List.getElem?_eq_some_iff.1 hx
  rw [h, List.drop_eq_getElem_cons hl, he, fix_lit hs, List.take_add_one, hx]
  simp
theorem fix_at_star {c x : ByteArray} {k m i : Nat} {xs : List ByteArray} (h : fixB c k xs = xs.take i ++ fixB c (m + 1) (xs.drop i)) (hx : xs[i]? = some x) (hs : stB x = true) : fixB c k xs = xs.take (i + 1) ++ fixB c m (xs.drop (i + 1)) := by
  obtain ⟨hl, he⟩ := List.getElem?_eq_some_iff.1 hx
  rw [h, List.drop_eq_getElem_cons hl, he, fix_succ hs, List.take_add_one, hx]
  simp
theorem fix_at_hit {c x : ByteArray} {k i : Nat} {xs : List ByteArray} (h : fixB c k xs = xs.take i ++ fixB c 0 (xs.drop i)) (hx : xs[i]? = some x) (hs : stB x = true) : xs.set i (c ++ tlB x) = fixB c k xs := by
  obtain ⟨hl, he⟩ := List.getElem?_eq_some_iff.1 hx
  rw [h, List.drop_eq_getElem_cons hl, he, fix_zero hs, List.set_eq_take_append_cons_drop, if_pos hl]
theorem fix_at_end {c : ByteArray} {k m i : Nat} {xs : List ByteArray} (h : fixB c k xs = xs.take i ++ fixB c m (xs.drop i)) (hi : xs.length ≤ i) : xs = fixB c k xs := by
  rw [h, List.take_of_length_le hi, List.drop_eq_nil_of_le hi, fix_nil, List.append_nil]


set_option maxHeartbeats 4000000 in
theorem fix_any (A : Option Addr) (c : Nat) (xs : List ByteArray) (r : Bool) (k : Nat) (cap : ByteArray) (w : World) (h : RT w A c xs) (h0 : 0 < xs.length) (hl : xs.length ≤ 100000) (hk : k ≤ 100000) (hsz : ∀ x ∈ xs, x.size ≤ 5000) (hcz : cap.size ≤ 5000) :
    Calls Tryd.prog 73 #[.agg #[.slice A xs.length c, .bool r], .int .i64 k, .string cap] w (RetP1 w (fixB cap k xs) r) := by
  have HI := PV.enter h r 24
  have HCP := Lib.hid (fun w h => pcopy_own A c xs r w h h0 hl)
  have HSZ := Lib.hid hsz
  have h1 := h.1
  have h2 := h.2.1
  clear h hsz
  go_enter Tryd.func73, Tryd.ntmps73
  go_wp2_with (go_at_call 39; refine (HCP.out _ (PV.x (HI.go (by repeat (first | exact Below.refl _ _ | apply Below.drew | apply below_drewN | apply below_al))))).mono ?_; rintro e w3 ⟨g, d, base, rfl, ⟨hbs, ho⟩, hb⟩; (try simp at hbs); replace HI := HI.go2 (by repeat (first | exact Below.refl _ _ | apply Below.drew | apply below_drewN | apply below_al)) hb; have HPW := Lib.hid (PW.start HI (by omega) ho h0); have hd1 := ho.block h0; obtain ⟨⟨p1, p2, p3, p4, p5⟩, ⟨q1, q2, q3, q4, q5⟩, -⟩ := HI.out; clear hb ho; obtain ⟨g', d', hd2, -, -, hd3, hd4⟩ := hd1; obtain ⟨-, -, hd5⟩ := Value.slice.inj hd2; subst hd5; clear hd2)
  go_loopw [1, 16] (fun n i wr => ∃ k' m : Nat, k' ≤ xs.length ∧ m ≤ 100000 ∧ i = .int .i64 k' ∧ n = .int .i64 m ∧ Hid (fixB cap k xs = xs.take k' ++ fixB cap m (xs.drop k')) ∧ Hid (PW w w.heap.size g d base xs r wr)) (fun _ i _ => xs.length - (intOf i).toNat)
  case atStart => exact ⟨0, k, Nat.zero_le _, hk, rfl, rfl, Lib.hid rfl, HPW⟩
  case round =>
    obtain ⟨i, m, hi, hm, rfl, rfl, HS, HP⟩ := hrel
    obtain ⟨⟨p1, p2, p3, p4, p5⟩, ⟨q1, q2, q3, q4, q5⟩⟩ := HP.out.1
    by_cases hlt : i < xs.length
    · obtain ⟨x, hx⟩ : ∃ x, xs[i]? = some x := ⟨_, List.getElem?_eq_getElem hlt⟩
      obtain ⟨hcx, hfx, hg1, hg2, -, hcap, hcap2⟩ := HP.out.2.1.2.cell hx
      have hxz := HSZ.out x (List.mem_of_getElem? hx)
      have htz := tlB_size x
      have hqg : w.heap.size ≠ g := HP.out.2.2.1.1
      have hqh : g ≠ w.heap.size := hqg.symm
      have HX := Lib.hid hx
      clear hx
      cases hs : stB x with
      | false =>
        have HST := Lib.hid hs
        have HN := Lib.hid (fix_at_lit HS.out HX.out hs)
        have HCU := Lib.hid (fun W => cutStar_no hs W)
        clear hs
        go_wp2_with (go_at_call 90; refine (HCU.out _).mono ?_; rintro e w5 ⟨y, rfl, rfl⟩)
        go_roundw
        case rel => exact ⟨i + 1, m, by omega, hm, by go_num, rfl, HN, HP⟩
        case measure => simp [intOf]; omega
      | true =>
        have HST := Lib.hid hs
        have HCU := Lib.hid (fun W => cutStar_yes hs W)
        cases m with
        | zero =>
          have HN := Lib.hid (fix_at_hit HS.out HX.out hs)
          clear hs
          go_wp2_with (go_at_call 90; refine (HCU.out _).mono ?_; rintro e w5 ⟨rfl, rfl⟩)
          have HP2 := Lib.hid (HP.out.set hlt (cap ++ tlB x))
          obtain ⟨⟨p1', p2', p3', p4', p5'⟩, ⟨q1', q2', q3', q4', q5'⟩⟩ := HP2.out.1
          go_wp2_with fail
          refine bodyPost_ret (v := .agg #[.slice (some ⟨g, 0, none⟩) xs.length d, .bool r]) (by simp [results, Tryd.results73, go_sem, q1', q2', q3', q4', q1, q2, q3, q4]) rfl ⟨some ⟨g, 0, none⟩, d, by rw [fix_len], ?_, ?_⟩
          · rw [← HN.out]
            exact (HP2.out.ret _ _).1
          · exact (HP2.out.ret _ _).2
        | succ m =>
          have HN := Lib.hid (fix_at_star HS.out HX.out hs)
          have hmm : (((m + 1 : Nat) : Int) == 0) = false := by rw [beq_eq_false_iff_ne]; omega
          clear hs
          go_wp2_with (go_at_call 90; refine (HCU.out _).mono ?_; rintro e w5 ⟨rfl, rfl⟩)
          go_roundw
          case rel => exact ⟨i + 1, m, by omega, by omega, by go_num, by go_num, HN, HP⟩
          case measure => simp [intOf]; omega
    · have HN := Lib.hid (fix_at_end HS.out (by omega))
      go_wp2_with fail
      refine bodyPost_ret (v := .agg #[.slice (some ⟨g, 0, none⟩) xs.length d, .bool r]) (by simp [results, Tryd.results73, go_sem, q1, q2, q3, q4]) rfl ⟨some ⟨g, 0, none⟩, d, by rw [fix_len], ?_, ?_⟩
      · rw [← HN.out]
        exact (HP.out.ret _ _).1
      · exact (HP.out.ret _ _).2

set_option maxHeartbeats 4000000 in
theorem rfix_any (A : Option Addr) (c : Nat) (xs : List ByteArray) (r : Bool) (k : Nat) (cap : ByteArray) (w : World) (h : RT w A c xs) (h0 : 0 < xs.length) (hl : xs.length ≤ 100000) (hk : k ≤ 100000) (hsz : ∀ x ∈ xs, x.size ≤ 5000) (hcz : cap.size ≤ 5000) (hp : ∀ x ∈ xs, partB x = true) :
    Calls Tryd.prog 53 #[.agg #[.slice A xs.length c, .bool r], .int .i64 k, .string cap] w (RetP1 w (fixB cap k xs) r) := by
  have HI := PV.enter h r 24
  have HCP := Lib.hid (fun w h => rcopy_own A c xs r w h h0 hl)
  have HSZ := Lib.hid hsz
  have HPT := Lib.hid hp
  have h1 := h.1
  have h2 := h.2.1
  clear h hsz hp
  go_enter Tryd.func53, Tryd.ntmps53
  go_wp2_with (go_at_call 38; refine (HCP.out _ (PV.x (HI.go (by repeat (first | exact Below.refl _ _ | apply Below.drew | apply below_drewN | apply below_al))))).mono ?_; rintro e w3 ⟨g, d, base, rfl, ⟨hbs, ho⟩, hb⟩; (try simp at hbs); replace HI := HI.go2 (by repeat (first | exact Below.refl _ _ | apply Below.drew | apply below_drewN | apply below_al)) hb; have HPW := Lib.hid (PW.start2 HI (by omega) ho h0 (q := w3.heap.size) rfl 24); have hd1 := ho.block h0; obtain ⟨⟨p1, p2, p3, p4, p5⟩, ⟨q1, q2, q3, q4, q5⟩, -⟩ := HI.out; clear hb ho; obtain ⟨g', d', hd2, -, -, hd3, hd4⟩ := hd1; obtain ⟨-, -, hd5⟩ := Value.slice.inj hd2; subst hd5; clear hd2)
  go_loopw [1, 17] (fun n i wr => ∃ k' m : Nat, k' ≤ xs.length ∧ m ≤ 100000 ∧ i = .int .i64 k' ∧ n = .int .i64 m ∧ Hid (fixB cap k xs = xs.take k' ++ fixB cap m (xs.drop k')) ∧ Hid (PW w w3.heap.size g d base xs r wr)) (fun _ i _ => xs.length - (intOf i).toNat)
  case atStart => exact ⟨0, k, Nat.zero_le _, hk, rfl, rfl, Lib.hid rfl, HPW⟩
  case round =>
    obtain ⟨i, m, hi, hm, rfl, rfl, HS, HP⟩ := hrel
    obtain ⟨⟨p1, p2, p3, p4, p5⟩, ⟨q1, q2, q3, q4, q5⟩⟩ := HP.out.1
    by_cases hlt : i < xs.length
    · obtain ⟨x, hx⟩ : ∃ x, xs[i]? = some x := ⟨_, List.getElem?_eq_getElem hlt⟩
      obtain ⟨hcx, hfx, hg1, hg2, -, hcap, hcap2⟩ := HP.out.2.1.2.cell hx
      have hxz := HSZ.out x (List.mem_of_getElem? hx)
      have htz := tlB_size x
      have hqg : w3.heap.size ≠ g := HP.out.2.2.1.1
      have hqh : g ≠ w3.heap.size := hqg.symm
      have HX := Lib.hid hx
      clear hx
      cases hs : stB x with
      | false =>
        have HST := Lib.hid hs
        have HN := Lib.hid (fix_at_lit HS.out HX.out hs)
        have HCU := Lib.hid (fun W => starR_no (HPT.out x (List.mem_of_getElem? HX.out)) hs W (by omega))
        clear hs
        go_wp2_with (go_at_call 51; refine (HCU.out _).mono ?_; rintro e w5 ⟨rfl, rfl⟩)
        go_roundw
        case rel => exact ⟨i + 1, m, by omega, hm, by go_num, rfl, HN, HP⟩
        case measure => simp [intOf]; omega
      | true =>
        have HST := Lib.hid hs
        have HCU := Lib.hid (fun W => starR_yes (HPT.out x (List.mem_of_getElem? HX.out)) hs W (by omega))
        cases m with
        | zero =>
          have HN := Lib.hid (fix_at_hit HS.out HX.out hs)
          clear hs
          go_wp2_with (go_at_call 51; refine (HCU.out _).mono ?_; rintro e w5 ⟨rfl, rfl⟩)
          have HP2 := Lib.hid (HP.out.set hlt (cap ++ tlB x))
          obtain ⟨⟨p1', p2', p3', p4', p5'⟩, ⟨q1', q2', q3', q4', q5'⟩⟩ := HP2.out.1
          go_wp2_with fail
          refine bodyPost_ret (v := .agg #[.slice (some ⟨g, 0, none⟩) xs.length d, .bool r]) (by simp [results, Tryd.results53, go_sem, q1', q2', q3', q4', q1, q2, q3, q4]) rfl ⟨some ⟨g, 0, none⟩, d, by rw [fix_len], ?_, ?_⟩
          · rw [← HN.out]
            exact (HP2.out.ret _ _).1
          · exact (HP2.out.ret _ _).2
        | succ m =>
          have HN := Lib.hid (fix_at_star HS.out HX.out hs)
          have hmm : (((m + 1 : Nat) : Int) == 0) = false := by rw [beq_eq_false_iff_ne]; omega
          clear hs
          go_wp2_with (go_at_call 51; refine (HCU.out _).mono ?_; rintro e w5 ⟨rfl, rfl⟩)
          go_roundw
          case rel => exact ⟨i + 1, m, by omega, by omega, by go_num, by go_num, HN, HP⟩
          case measure => simp [intOf]; omega
    · have HN := Lib.hid (fix_at_end HS.out (by omega))
      go_wp2_with fail
      refine bodyPost_ret (v := .agg #[.slice (some ⟨g, 0, none⟩) xs.length d, .bool r]) (by simp [results, Tryd.results53, go_sem, q1, q2, q3, q4]) rfl ⟨some ⟨g, 0, none⟩, d, by rw [fix_len], ?_, ?_⟩
      · rw [← HN.out]
        exact (HP.out.ret _ _).1
      · exact (HP.out.ret _ _).2
end Go.Proofs.YtidjmbmnfnnleaaDoor

