/-
  The walk of the reference's Check: what a change that is accepted is.
-/
import Derived.Test.YteagecjhpfijjaaDoorV15
import Derived.Test.YteagecjhpfijjaaDoorV18
import Derived.Test.YteagecjhpfijjaaDoorW1
namespace Go.Proofs.YteagecjhpfijjaaDoor
set_option linter.unusedSimpArgs false
set_option linter.unusedVariables false
open Go.RowKit
open Pm

theorem ordR_eq {p q : ByteArray} (hp : pathOk p.data.toList = true) (hq : pathOk q.data.toList = true) : ordR p q = pcmp (p.data.toList.drop 2) (q.data.toList.drop 2) := by
  unfold ordR
  rw [if_pos hp, if_pos hq, pcmp_eq]
  unfold compsB spB dat
  rw [List.map_map, List.map_map]
  have e : ∀ l : List (List UInt8), l.map ((fun x => x.data.toList) ∘ mkB) = l := fun l => by
    conv => rhs; rw [← List.map_id l]
    exact List.map_congr_left fun x _ => mkB_data x
  rw [e, e]
theorem ordR_trans {p q r : ByteArray} (hp : pathOk p.data.toList = true) (hq : pathOk q.data.toList = true) (hr : pathOk r.data.toList = true) (h1 : ordR p q < 0) (h2 : ordR q r < 0) : ordR p r < 0 := by
  rw [ordR_eq hp hq] at h1
  rw [ordR_eq hq hr] at h2
  rw [ordR_eq hp hr]
  have e1 : pcmp (p.data.toList.drop 2) (q.data.toList.drop 2) = -1 := by rcases pcmp_range (p.data.toList.drop 2) (q.data.toList.drop 2) with h | h | h <;> omega
  have e2 : pcmp (q.data.toList.drop 2) (r.data.toList.drop 2) = -1 := by rcases pcmp_range (q.data.toList.drop 2) (r.data.toList.drop 2) with h | h | h <;> omega
  rw [pcmp_lt_trans e1 e2]
  decide
theorem ordR_self {p : ByteArray} (hp : pathOk p.data.toList = true) : ordR p p = 0 := by rw [ordR_eq hp hp, pcmp_self]
/-- each edit is right behind the one ahead of it -/
def EdsOk (rs : List Rv) (es : List Ed) (k : Nat) : Prop := ∀ j x, j < k → es[j]? = some x → EditOk rs (if j = 0 then none else es[j - 1]?) x
theorem EdsOk.lt {rs : List Rv} {es : List Ed} {k : Nat} (h : EdsOk rs es k) : ∀ (d j : Nat) (x y : Ed), j + d + 1 < k → es[j]? = some x → es[j + d + 1]? = some y → ordR x.path y.path < 0
  | 0, j, x, y, hk, hx, hy => by
    have := (h (j + 1) y (by omega) hy).2.1
    rw [if_neg (by omega), Nat.add_sub_cancel] at this
    exact this x hx
  | d + 1, j, x, y, hk, hx, hy => by
    obtain ⟨hl, _⟩ := List.getElem?_eq_some_iff.1 hy
    obtain ⟨z, hz⟩ : ∃ z, es[j + d + 1]? = some z := ⟨_, List.getElem?_eq_getElem (by omega)⟩
    have h1 := EdsOk.lt h d j x z (by omega) hx hz
    have h2 := (h (j + d + 1 + 1) y (by omega) hy).2.1
    rw [if_neg (by omega), Nat.add_sub_cancel] at h2
    exact ordR_trans (h j x (by omega) hx).1.1 (h _ z (by omega) hz).1.1 (h _ y (by omega) hy).1.1 h1 (h2 z hz)
theorem EdsOk.nodup {rs : List Rv} {es : List Ed} (h : EdsOk rs es es.length) : (es.map (fun x => x.path)).Nodup := by
  unfold List.Nodup
  rw [List.pairwise_map, List.pairwise_iff_getElem]
  intro i j hi hj hij e
  have := h.lt (j - i - 1) i es[i] es[j] (by omega) (List.getElem?_eq_getElem hi) (by
    have : i + (j - i - 1) + 1 = j := by omega
    rw [this]
    exact List.getElem?_eq_getElem hj)
  rw [e, ordR_self (h j es[j] hj (List.getElem?_eq_getElem hj)).1.1] at this
  omega
theorem EdsOk.batch {rs : List Rv} {es : List Ed} {n : Int} (h : EdsOk rs es es.length) (h1 : 1 ≤ n) (h2 : n ≤ 1073741824) (hlt : ∀ v ∈ rs, v.chg < n) (hm : ∀ x ∈ es, movedB es x = true) : Batch rs n es := by
  have hE : ∀ x ∈ es, ∃ o, EditOk rs o x := fun x hx => by
    obtain ⟨j, hj⟩ := List.mem_iff_getElem?.1 hx
    exact ⟨_, h j x (List.getElem?_eq_some_iff.1 hj).1 hj⟩
  exact ⟨h1, h2, hlt, h.nodup, fun x hx => by obtain ⟨o, ho⟩ := hE x hx; exact ho.2.2.1, fun x hx => by obtain ⟨o, ho⟩ := hE x hx; exact ho.2.2.2.1, fun x hx => by obtain ⟨o, ho⟩ := hE x hx; exact ho.2.2.2.2, hm⟩
theorem edit_any (A B : Option Addr) (c m d : Nat) (rs : List Rv) (n : Int) (S T : ByteArray) (C D : Option Addr) (ce dr nr : Nat) (es : List Ed) (i : Nat) (x : Ed) (w : World) (h : RV w A c rs) (k : EV w C ce es) (hm : ML w) (hx : es[i]? = some x) (hz : ∀ y ∈ es, y.path.size ≤ 1000) (hie : es.length ≤ 100000) (hrl : rs.length ≤ 100000) (hr : ∀ u ∈ rs, nearN u.num) :
    Calls Tryd.prog 50 #[.agg #[.slice A rs.length c, .slice B m d], .agg #[.int .i64 n, .string S, .string T, .slice C es.length ce, .slice D dr nr], .int .i64 i] w (RetEd w (EditOk rs (if i = 0 then none else es[i - 1]?) x)) := by
  have hxz := hz x (List.mem_of_getElem? hx)
  cases hp : pathOk x.path.data.toList with
  | false => exact edit_path A B c m d rs n S T C D ce dr nr es i x _ w h k hm hx hxz hie (.inl hp)
  | true =>
    by_cases hl : 200 < x.path.size
    · exact edit_path A B c m d rs n S T C D ce dr nr es i x _ w h k hm hx hxz hie (.inr hl)
    · by_cases h0 : 0 < i
      · obtain ⟨hil, _⟩ := List.getElem?_eq_some_iff.1 hx
        obtain ⟨y, hy⟩ : ∃ y, es[i - 1]? = some y := ⟨_, List.getElem?_eq_getElem (by omega)⟩
        rw [if_neg (by omega), hy]
        exact edit_rest A B c m d rs n S T C D ce dr nr es i x w h k hm hx hxz hie hrl hp hl h0 y hy (hz y (List.mem_of_getElem? hy)) hr
      · rw [if_pos (by omega)]
        exact edit_first A B c m d rs n S T C D ce dr nr es i x w h k hm hx hxz hie hrl hp hl h0 hr
theorem EdsOk.step {rs : List Rv} {es : List Ed} {k : Nat} {x : Ed} (h : EdsOk rs es k) (hx : es[k]? = some x) (ho : EditOk rs (if k = 0 then none else es[k - 1]?) x) : EdsOk rs es (k + 1) := fun j y hj hy => by
  by_cases e : j = k
  · subst e
    rw [hx] at hy
    cases hy
    exact ho
  · exact h j y (by omega) hy
theorem takeK {α : Type} {P : α → Prop} {l : List α} {k : Nat} {x : α} (h : ∀ y ∈ l.take k, P y) (hx : l[k]? = some x) (hp : P x) : ∀ y ∈ l.take (k + 1), P y := fun y hy => by
  rw [List.take_add_one, hx] at hy
  rcases List.mem_append.1 hy with hy | hy
  · exact h y hy
  · have : y = x := by simpa using hy
    rw [this]; exact hp
set_option maxHeartbeats 20000000 in
set_option maxRecDepth 100000 in
theorem check_any (A B : Option Addr) (c m d : Nat) (rs : List Rv) (n : Int) (S T : ByteArray) (C D : Option Addr) (ce dr : Nat) (es : List Ed) (rcs : List Rc) (w : World) (h : RV w A c rs) (k : EV w C ce es) (q : RC w D dr rcs) (hm : ML w) (hz : ∀ y ∈ es, y.path.size ≤ 1000)
    (hsh : ∀ r ∈ rcs, shortC r) (hrl : rs.length ≤ 100000) (hel : es.length ≤ 100000) (hcl : rcs.length ≤ 100000) (hml : m ≤ 100000) (hr : ∀ u ∈ rs, nearN u.num) (hr1 : ∀ p, nearN (lastN rs p + 1)) :
    Calls Tryd.prog 39 #[.agg #[.slice A rs.length c, .slice B m d], .agg #[.int .i64 n, .string S, .string T, .slice C es.length ce, .slice D rcs.length dr]] w (RetEd w (Batch rs n es)) := by
  have HR := Lib.hid h
  have HE := Lib.hid k
  have HC := Lib.hid q
  have HM := Lib.hid hm
  have HRN := Lib.hid hr
  have HRN1 := Lib.hid hr1
  have HSH := Lib.hid hsh
  have HZ := Lib.hid hz
  have c1 := h.1
  have c2 := h.2.1
  rw [List.length_map] at c1
  have ce1 := k.1
  have ce2 := k.2.1
  rw [List.length_map] at ce1
  have cr1 := q.1
  have cr2 := q.2.1
  rw [List.length_map] at cr1
  have HS : At (BB w [(w.heap.size, [.slice A rs.length c, .slice B m d]), (w.heap.size + 1, [.int .i64 n, .string S, .string T, .slice C es.length ce, .slice D rcs.length dr])]) ((w.alloc (.cells #[.slice A rs.length c, .slice B m d] 28)).alloc (.cells #[.int .i64 n, .string S, .string T, .slice C es.length ce, .slice D rcs.length dr] 52)) :=
    (((BB.nil w).push [.slice A rs.length c, .slice B m d] 28 rfl).push [.int .i64 n, .string S, .string T, .slice C es.length ce, .slice D rcs.length dr] 52 (g := w.heap.size + 1) (by simp)).at_
  clear h k q hm hr hr1 hsh hz
  obtain ⟨d0, d1⟩ := HS.out.get 0 rfl |>.c2
  obtain ⟨k0, k1, k2, k3, k4⟩ := HS.out.get 1 rfl |>.c5
  have g0l := (HS.out.get 0 rfl).2.2
  have g1l := (HS.out.get 1 rfl).2.2
  by_cases e0 : es.length = 0
  · have b0 : ((es.length : Int) == 0) = true := by rw [e0]; rfl
    have HB := Lib.hid b0
    clear e0
    generalize es.length = el at *
    go_enter Tryd.func39, Tryd.ntmps39
    go_wp2_with fail
    go_ret
    exact RetEd.bad (by decide) (HS.go (by repeat (first | exact Below.refl _ _ | apply Below.drew | apply below_drewN | apply below_al))).out.low
  have b0 : ((es.length : Int) == 0) = false := by rw [beq_eq_false_iff_ne]; omega
  have e0' : 0 < es.length := by omega
  clear e0
  by_cases e1 : 64 < es.length
  ·
    go_enter Tryd.func39, Tryd.ntmps39
    go_wp2_with fail
    go_ret
    exact RetEd.bad (by decide) (HS.go (by repeat (first | exact Below.refl _ _ | apply Below.drew | apply below_drewN | apply below_al))).out.low
  by_cases e2 : 64 < rcs.length
  ·
    go_enter Tryd.func39, Tryd.ntmps39
    go_wp2_with fail
    go_ret
    exact RetEd.bad (by decide) (HS.go (by repeat (first | exact Below.refl _ _ | apply Below.drew | apply below_drewN | apply below_al))).out.low
  by_cases n1 : n ≤ 0
  ·
    go_enter Tryd.func39, Tryd.ntmps39
    go_wp2_with fail
    go_ret
    exact RetEd.bad (by decide) (HS.go (by repeat (first | exact Below.refl _ _ | apply Below.drew | apply below_drewN | apply below_al))).out.low
  by_cases n2 : 1073741824 < n
  ·
    go_enter Tryd.func39, Tryd.ntmps39
    go_wp2_with fail
    go_ret
    exact RetEd.bad (by decide) (HS.go (by repeat (first | exact Below.refl _ _ | apply Below.drew | apply below_drewN | apply below_al))).out.low
  go_enter Tryd.func39, Tryd.ntmps39
  go_wp2_with fail
  go_loopw [39] (fun s wr => ∃ k : Nat, k ≤ rs.length ∧ s = .int .i64 k ∧ Hid (∀ v ∈ rs.take k, v.chg < n) ∧ Hid (BB w [(w.heap.size, [.slice A rs.length c, .slice B m d]), (w.heap.size + 1, [.int .i64 n, .string S, .string T, .slice C es.length ce, .slice D rcs.length dr])] wr)) (fun s _ => rs.length - (intOf s).toNat)
  case atStart => exact ⟨0, Nat.zero_le _, rfl, Lib.hid (fun v hv => by simp at hv), Lib.hid HS.out⟩
  case round =>
    clear HS
    clear d0 d1 k0 k1 k2 k3 k4 g0l g1l
    obtain ⟨k, hk, rfl, HLT, HS0⟩ := hrel
    have HS := HS0.out.at_
    clear HS0
    obtain ⟨d0, d1⟩ := HS.out.get 0 rfl |>.c2
    obtain ⟨k0, k1, k2, k3, k4⟩ := HS.out.get 1 rfl |>.c5
    have g0l := (HS.out.get 0 rfl).2.2
    have g1l := (HS.out.get 1 rfl).2.2
    by_cases hlt : k < rs.length
    · obtain ⟨v, hv⟩ : ∃ v, rs[k]? = some v := ⟨_, List.getElem?_eq_getElem hlt⟩
      obtain ⟨b, o', rfl, hb1, x0, x1, x2, x3, x4, x5, x6, x7, x8, x9, x10, x11⟩ := (HR.out.below HS.out.low).at_ hv
      by_cases hc : n ≤ v.chg
      · clear hv
        go_wp2_with fail
        go_ret
        exact RetEd.bad (by decide) (HS.go (by repeat (first | exact Below.refl _ _ | apply Below.drew | apply below_drewN | apply below_al))).out.low
      · have HL2 := Lib.hid (takeK (P := fun v => v.chg < n) HLT.out hv (by omega))
        clear hv
        go_wp2_with fail
        go_roundw
        case rel => exact ⟨k + 1, by omega, by go_num, HL2, Lib.hid (HS.go (by repeat (first | exact Below.refl _ _ | apply Below.drew | apply below_drewN | apply below_al))).out⟩
        case measure => simp [intOf]; omega
    · obtain rfl : k = rs.length := by omega
      rw [List.take_length] at HLT
      clear hlt hk
      as_aux_lemma =>
        go_wp2_with fail
        go_loopw [52] (fun s wr => ∃ k : Nat, k ≤ es.length ∧ s = .int .i64 k ∧ Hid (EdsOk rs es k) ∧ Hid (BB w [(w.heap.size, [.slice A rs.length c, .slice B m d]), (w.heap.size + 1, [.int .i64 n, .string S, .string T, .slice C es.length ce, .slice D rcs.length dr])] wr)) (fun s _ => es.length - (intOf s).toNat)
        case atStart => exact ⟨0, Nat.zero_le _, rfl, Lib.hid (fun j x hj => by omega), Lib.hid (HS.go (by repeat (first | exact Below.refl _ _ | apply Below.drew | apply below_drewN | apply below_al))).out⟩
        case round =>
          clear HS
          clear d0 d1 k0 k1 k2 k3 k4 g0l g1l
          obtain ⟨k, hk, rfl, HEO, HS0⟩ := hrel
          have HS := HS0.out.at_
          clear HS0
          obtain ⟨d0, d1⟩ := HS.out.get 0 rfl |>.c2
          obtain ⟨k0, k1, k2, k3, k4⟩ := HS.out.get 1 rfl |>.c5
          have g0l := (HS.out.get 0 rfl).2.2
          have g1l := (HS.out.get 1 rfl).2.2
          by_cases hlt : k < es.length
          · obtain ⟨x, hx⟩ : ∃ x, es[k]? = some x := ⟨_, List.getElem?_eq_getElem hlt⟩
            have HED := Lib.hid (fun W h q mm => edit_any A B c m d rs n S T C D ce rcs.length dr es k x W h q mm hx HZ.out hel hrl HRN.out)
            have HXK := Lib.hid hx
            unfold RetEd at HED
            generalize hP : EditOk rs (if k = 0 then none else es[k - 1]?) x = P at *
            clear hx
            have HP := Lib.hid hP
            clear hP
            go_upto_if 60 with (go_at_call 50; refine (HED.out _ (HR.out.below (HS.go (by repeat (first | exact Below.refl _ _ | apply Below.drew | apply below_drewN | apply below_al))).out.low) (HE.out.below (HS.go (by repeat (first | exact Below.refl _ _ | apply Below.drew | apply below_drewN | apply below_al))).out.low) (HM.out.below (HS.go (by repeat (first | exact Below.refl _ _ | apply Below.drew | apply below_drewN | apply below_al))).out.low)).mono ?_; rintro e w1 ⟨en, rfl, hen, hb⟩; replace HS := HS.go2 (by repeat (first | exact Below.refl _ _ | apply Below.drew | apply below_drewN | apply below_al)) hb; have HEN := Lib.hid hen; clear hb hen)
            by_cases h0 : en = 0
            · have b1 : (en != 0) = false := by simpa using h0
              have HPP := Lib.hid (HEN.out h0)
              clear h0
              go_wp2_with fail
              go_roundw
              case rel => exact ⟨k + 1, by omega, by go_num, Lib.hid (HEO.out.step HXK.out (by rw [HP.out]; exact HPP.out)), Lib.hid (HS.go (by repeat (first | exact Below.refl _ _ | apply Below.drew | apply below_drewN | apply below_al))).out⟩
              case measure => simp [intOf]; omega
            · have b1 : (en != 0) = true := by simpa using h0
              go_wp2_with fail
              go_ret
              exact RetEd.bad h0 (HS.go (by repeat (first | exact Below.refl _ _ | apply Below.drew | apply below_drewN | apply below_al))).out.low
          · obtain rfl : k = es.length := by omega
            clear hlt hk
            as_aux_lemma =>
              have HMV := Lib.hid (fun x W h => moved_any n S T C D ce rcs.length dr es x W h hel)
              go_wp2_with fail
              go_loopw [66] (fun s wr => ∃ k : Nat, k ≤ es.length ∧ s = .int .i64 k ∧ Hid (∀ x ∈ es.take k, movedB es x = true) ∧ Hid (BB w [(w.heap.size, [.slice A rs.length c, .slice B m d]), (w.heap.size + 1, [.int .i64 n, .string S, .string T, .slice C es.length ce, .slice D rcs.length dr])] wr)) (fun s _ => es.length - (intOf s).toNat)
              case atStart => exact ⟨0, Nat.zero_le _, rfl, Lib.hid (fun v hv => by simp at hv), Lib.hid (HS.go (by repeat (first | exact Below.refl _ _ | apply Below.drew | apply below_drewN | apply below_al))).out⟩
              case round =>
                clear HS
                clear d0 d1 k0 k1 k2 k3 k4 g0l g1l
                obtain ⟨k, hk, rfl, HMO, HS0⟩ := hrel
                have HS := HS0.out.at_
                clear HS0
                obtain ⟨d0, d1⟩ := HS.out.get 0 rfl |>.c2
                obtain ⟨k0, k1, k2, k3, k4⟩ := HS.out.get 1 rfl |>.c5
                have g0l := (HS.out.get 0 rfl).2.2
                have g1l := (HS.out.get 1 rfl).2.2
                by_cases hlt : k < es.length
                · obtain ⟨x, hx⟩ : ∃ x, es[k]? = some x := ⟨_, List.getElem?_eq_getElem hlt⟩
                  have HMX := Lib.hid (HMV.out x)
                  have HXK := Lib.hid hx
                  obtain ⟨b, o', rfl, hb1, x0, x1, x2, x3, x4, x5, x6, x7, x8, x9, x10, x11⟩ := (HE.out.below HS.out.low).at_ hx
                  have HBX : At (fun w' => BX w' wr.heap.size (edV x)) (wr.alloc (.cells #[.string x.path, .int .i64 x.act, .int .i64 x.ty.1, .bool x.ty.2.1, .bool x.ty.2.2.1, .bool x.ty.2.2.2, .int .u64 x.cid.1, .int .i64 x.cid.2, .int .i64 x.base, .string x.frm, .int .i64 x.fnum, .int .i64 x.fence] 63)) := ⟨fun X Y h hb => h.below hb, BX.new wr (edV x) _ rfl⟩
                  obtain ⟨y0, y1, y2, y3, y4, y5, y6, y7, y8, y9, y10, y11⟩ := HBX.out.ed
                  have hx2 := HXK.out
                  clear hx
                  cases hmb : movedB es x with
                  | true =>
                    have HM2 := Lib.hid (takeK (P := fun x => movedB es x = true) HMO.out hx2 hmb)
                    rw [hmb] at HMX
                    clear hx2 hmb
                    unfold aggE at HMX
                    go_wp2_with (go_at_call 51; refine (HMX.out _ (HE.out.below (HS.go (by repeat (first | exact Below.refl _ _ | apply Below.drew | apply below_drewN | apply below_al))).out.low)).mono ?_; rintro e w1 ⟨rfl, hb⟩; replace HS := HS.go2 (by repeat (first | exact Below.refl _ _ | apply Below.drew | apply below_drewN | apply below_al)) hb; clear hb)
                    go_roundw
                    case rel => exact ⟨k + 1, by omega, by go_num, HM2, Lib.hid (HS.go (by repeat (first | exact Below.refl _ _ | apply Below.drew | apply below_drewN | apply below_al))).out⟩
                    case measure => simp [intOf]; omega
                  | false =>
                    rw [hmb] at HMX
                    clear hx2 hmb
                    unfold aggE at HMX
                    go_wp2_with (go_at_call 51; refine (HMX.out _ (HE.out.below (HS.go (by repeat (first | exact Below.refl _ _ | apply Below.drew | apply below_drewN | apply below_al))).out.low)).mono ?_; rintro e w1 ⟨rfl, hb⟩; replace HS := HS.go2 (by repeat (first | exact Below.refl _ _ | apply Below.drew | apply below_drewN | apply below_al)) hb; clear hb)
                    go_ret
                    exact RetEd.bad (by decide) (HS.go (by repeat (first | exact Below.refl _ _ | apply Below.drew | apply below_drewN | apply below_al))).out.low
                · obtain rfl : k = es.length := by omega
                  rw [List.take_length] at HMO
                  clear hlt hk HMV
                  as_aux_lemma =>
                    have HB : Hid (Batch rs n es) := Lib.hid (HEO.out.batch (by omega) (by omega) HLT.out HMO.out)
                    have HNB : Hid (∀ y ∈ es, nearN y.base ∧ nearN (y.base + 1)) := Lib.hid (fun y hy => by
                      have := HB.out.base y hy
                      unfold BaseOk at this
                      rw [this]
                      exact ⟨near_last HRN.out _, HRN1.out _⟩)
                    have HRE := Lib.hid (fun i x W h q r mm (hx : rcs[i]? = some x) => record_any A B c m d rs n S T C D ce dr es rcs i x W h q r mm hx HSH.out hrl hel hcl HRN.out HNB.out)
                    unfold RetQ at HRE
                    go_wp2_with fail
                    go_loopw [78] (fun s wr => ∃ k : Nat, k ≤ rcs.length ∧ s = .int .i64 k ∧ Hid (BB w [(w.heap.size, [.slice A rs.length c, .slice B m d]), (w.heap.size + 1, [.int .i64 n, .string S, .string T, .slice C es.length ce, .slice D rcs.length dr])] wr)) (fun s _ => rcs.length - (intOf s).toNat)
                    case atStart => exact ⟨0, Nat.zero_le _, rfl, Lib.hid (HS.go (by repeat (first | exact Below.refl _ _ | apply Below.drew | apply below_drewN | apply below_al))).out⟩
                    case round =>
                      clear HS
                      clear d0 d1 k0 k1 k2 k3 k4 g0l g1l
                      obtain ⟨k, hk, rfl, HS0⟩ := hrel
                      have HS := HS0.out.at_
                      clear HS0
                      obtain ⟨d0, d1⟩ := HS.out.get 0 rfl |>.c2
                      obtain ⟨k0, k1, k2, k3, k4⟩ := HS.out.get 1 rfl |>.c5
                      have g0l := (HS.out.get 0 rfl).2.2
                      have g1l := (HS.out.get 1 rfl).2.2
                      by_cases hlt : k < rcs.length
                      · obtain ⟨x, hx⟩ : ∃ x, rcs[k]? = some x := ⟨_, List.getElem?_eq_getElem hlt⟩
                        have HREK := Lib.hid (fun W h q r mm => HRE.out k x W h q r mm hx)
                        clear hx
                        go_upto_if 85 with (go_at_call 52; refine (HREK.out _ (HR.out.below (HS.go (by repeat (first | exact Below.refl _ _ | apply Below.drew | apply below_drewN | apply below_al))).out.low) (HE.out.below (HS.go (by repeat (first | exact Below.refl _ _ | apply Below.drew | apply below_drewN | apply below_al))).out.low) (HC.out.below (HS.go (by repeat (first | exact Below.refl _ _ | apply Below.drew | apply below_drewN | apply below_al))).out.low) (HM.out.below (HS.go (by repeat (first | exact Below.refl _ _ | apply Below.drew | apply below_drewN | apply below_al))).out.low)).mono ?_; rintro e w1 ⟨bo, rfl, hb⟩; replace HS := HS.go2 (by repeat (first | exact Below.refl _ _ | apply Below.drew | apply below_drewN | apply below_al)) hb; clear hb)
                        cases bo with
                        | true =>
                          go_wp2_with fail
                          go_roundw
                          case rel => exact ⟨k + 1, by omega, by go_num, Lib.hid (HS.go (by repeat (first | exact Below.refl _ _ | apply Below.drew | apply below_drewN | apply below_al))).out⟩
                          case measure => simp [intOf]; omega
                        | false =>
                          go_wp2_with fail
                          go_ret
                          exact RetEd.bad (by decide) (HS.go (by repeat (first | exact Below.refl _ _ | apply Below.drew | apply below_drewN | apply below_al))).out.low
                      · obtain rfl : k = rcs.length := by omega
                        clear hlt hk HRE
                        by_cases r1 : 512 < rs.length + es.length
                        · have r1' : (512 : Int) < (rs.length : Int) + (es.length : Int) := by omega
                          go_wp2_with fail
                          go_ret
                          exact RetEd.bad (by decide) (HS.go (by repeat (first | exact Below.refl _ _ | apply Below.drew | apply below_drewN | apply below_al))).out.low
                        · have r1' : ¬ (512 : Int) < (rs.length : Int) + (es.length : Int) := by omega
                          by_cases r2 : 512 < m + rcs.length
                          · have r2' : (512 : Int) < (m : Int) + (rcs.length : Int) := by omega
                            go_wp2_with fail
                            go_ret
                            exact RetEd.bad (by decide) (HS.go (by repeat (first | exact Below.refl _ _ | apply Below.drew | apply below_drewN | apply below_al))).out.low
                          · have r2' : ¬ (512 : Int) < (m : Int) + (rcs.length : Int) := by omega
                            go_wp2_with fail
                            go_ret
                            exact RetEd.ok HB.out (HS.go (by repeat (first | exact Below.refl _ _ | apply Below.drew | apply below_drewN | apply below_al))).out.low
end Go.Proofs.YteagecjhpfijjaaDoor

