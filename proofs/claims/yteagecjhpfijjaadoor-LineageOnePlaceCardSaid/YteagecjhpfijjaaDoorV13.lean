/-
  The walk of the reference's edit.
-/
import Derived.Test.YteagecjhpfijjaaDoorV12
import Derived.Test.YteagecjhpfijjaaDoorV14
import Derived.Deep.RegionHeld3
namespace Go.Proofs.YteagecjhpfijjaaDoor
set_option linter.unusedSimpArgs false
set_option linter.unusedVariables false
open Go.RowKit
open Pm

theorem EditOk.mk' {rs : List Rv} {x : Ed} {o : Option Ed} (hp : pathOk x.path.data.toList = true ∧ x.path.size ≤ 200) (ho : ∀ y, o = some y → ordR y.path x.path < 0) (ha : ActOk rs x) (hb : BaseOk rs x) (hf : FromOk rs x) : EditOk rs o x :=
  ⟨hp, ho, ha, hb, hf⟩
theorem near_last {rs : List Rv} (h : ∀ u ∈ rs, nearN u.num) (p : ByteArray) : nearN (lastN rs p) := by
  unfold lastN
  cases hl : lastR rs p with
  | none => exact ⟨by decide, by decide⟩
  | some u => exact h u (List.mem_filter.1 (List.mem_of_getLast? hl)).1

set_option maxHeartbeats 20000000 in
set_option maxRecDepth 100000 in
theorem edit_first (A B : Option Addr) (c m d : Nat) (rs : List Rv) (n : Int) (S T : ByteArray) (C D : Option Addr) (ce dr nr : Nat) (es : List Ed) (i : Nat) (x : Ed) (w : World) (h : RV w A c rs) (k : EV w C ce es) (hm : ML w) (hx : es[i]? = some x) (hz : x.path.size ≤ 1000) (hie : es.length ≤ 100000) (hrl : rs.length ≤ 100000)
    (hp : pathOk x.path.data.toList = true) (hlong : ¬ 200 < x.path.size) (hi : ¬ 0 < i) (hr : ∀ u ∈ rs, nearN u.num) :
    Calls Tryd.prog 50 #[.agg #[.slice A rs.length c, .slice B m d], .agg #[.int .i64 n, .string S, .string T, .slice C es.length ce, .slice D dr nr], .int .i64 i] w (RetEd w (EditOk rs none x)) := by
  have HR := Lib.hid h
  have HM := Lib.hid hm
  have k1 := k.1
  have k2 := k.2.1
  rw [List.length_map] at k1
  have hil := (List.getElem?_eq_some_iff.1 hx).1
  obtain ⟨b, o', rfl, hb1, y0, y1, y2, y3, y4, y5, y6, y7, y8, y9, y10, y11⟩ := (k.below (below_two w (.cells #[.slice A rs.length c, .slice B m d] 28) (.cells #[.int .i64 n, .string S, .string T, .slice C es.length ce, .slice D dr nr] 52))).at_ hx
  have HS := ES.start w A B c m d rs n S T (some ⟨b, o', none⟩) D ce dr nr es x 28 52 63
  have d0 := HS.out.1.1 0 _ rfl
  have d1 := HS.out.1.1 1 _ rfl
  have k0 := HS.out.2.1.1 0 _ rfl
  have k1 := HS.out.2.1.1 1 _ rfl
  have k2 := HS.out.2.1.1 2 _ rfl
  have k3 := HS.out.2.1.1 3 _ rfl
  have k4 := HS.out.2.1.1 4 _ rfl
  obtain ⟨x0, x1, x2, x3, x4, x5, x6, x7, x8, x9, x10, x11⟩ := HS.out.2.2.1.ed
  have gs := HS.out.2.2.1.2.2
  have HPT := Lib.hid (fun W h => rpath_yes x.path W (by omega) h hp)
  unfold RetTB RetT at HPT
  have HP : Hid (ActOk rs x → BaseOk rs x → FromOk rs x → EditOk rs none x) := Lib.hid (EditOk.mk' (And.intro hp (show x.path.size ≤ 200 by omega)) (fun y e => by cases e))
  have HRN := Lib.hid hr
  have HLV := Lib.hid (fun W h => live_any A B c m d rs x.path W h hrl)
  have HLF := Lib.hid (fun W h => live_any A B c m d rs x.frm W h hrl)
  have HTY := Lib.hid (fun W => tycheck_any x.ty.1 x.ty.2.1 x.ty.2.2.1 x.ty.2.2.2 W)
  generalize compsB x.path = ps at *
  have hlI : ¬ (200 : Int) < (x.path.size : Int) := by omega
  have hd : decide (0 < i) = false := decide_eq_false hi
  clear hp h k hm hx hi hlong hr
  generalize EditOk rs none x = P at *
  go_enter Tryd.func50, Tryd.ntmps50
  go_wp2_with (go_at_call 54; refine (HPT.out _ (HM.out.below HS.out.2.2.2)).mono ?_; rintro e wn ⟨A1, c1, rfl, _, hb⟩; replace HS := HS.go2 (by repeat (first | exact Below.refl _ _ | apply Below.drew | apply below_drewN | apply below_al)) hb; clear hb; have d0 := HS.out.1.1 0 _ rfl; have d1 := HS.out.1.1 1 _ rfl; have k0 := HS.out.2.1.1 0 _ rfl; have k1 := HS.out.2.1.1 1 _ rfl; have k2 := HS.out.2.1.1 2 _ rfl; have k3 := HS.out.2.1.1 3 _ rfl; have k4 := HS.out.2.1.1 4 _ rfl; obtain ⟨x0, x1, x2, x3, x4, x5, x6, x7, x8, x9, x10, x11⟩ := HS.out.2.2.1.ed; have gs := HS.out.2.2.1.2.2)
  go_quiet (fail)
  by_cases a1 : x.act < 1
  ·
    go_wp2_with (first
      | (go_at_call_of 27 (Value.string x.path); refine (HLV.out _ (HR.out.below (HS.go (by repeat (first | exact Below.refl _ _ | apply Below.drew | apply below_drewN | apply below_al))).out.2.2.2)).mono ?_; rintro e wn ⟨rfl, hb⟩; replace HS := HS.go2 (by repeat (first | exact Below.refl _ _ | apply Below.drew | apply below_drewN | apply below_al)) hb; clear hb; have d0 := HS.out.1.1 0 _ rfl; have d1 := HS.out.1.1 1 _ rfl; have k0 := HS.out.2.1.1 0 _ rfl; have k1 := HS.out.2.1.1 1 _ rfl; have k2 := HS.out.2.1.1 2 _ rfl; have k3 := HS.out.2.1.1 3 _ rfl; have k4 := HS.out.2.1.1 4 _ rfl; obtain ⟨x0, x1, x2, x3, x4, x5, x6, x7, x8, x9, x10, x11⟩ := HS.out.2.2.1.ed; have gs := HS.out.2.2.1.2.2)
      | (go_at_call 27; refine (HLF.out _ (HR.out.below (HS.go (by repeat (first | exact Below.refl _ _ | apply Below.drew | apply below_drewN | apply below_al))).out.2.2.2)).mono ?_; rintro e wn ⟨rfl, hb⟩; replace HS := HS.go2 (by repeat (first | exact Below.refl _ _ | apply Below.drew | apply below_drewN | apply below_al)) hb; clear hb; have d0 := HS.out.1.1 0 _ rfl; have d1 := HS.out.1.1 1 _ rfl; have k0 := HS.out.2.1.1 0 _ rfl; have k1 := HS.out.2.1.1 1 _ rfl; have k2 := HS.out.2.1.1 2 _ rfl; have k3 := HS.out.2.1.1 3 _ rfl; have k4 := HS.out.2.1.1 4 _ rfl; obtain ⟨x0, x1, x2, x3, x4, x5, x6, x7, x8, x9, x10, x11⟩ := HS.out.2.2.1.ed; have gs := HS.out.2.2.1.2.2)
      | (go_at_call 57; refine (HTY.out _).mono ?_; rintro e wn ⟨rfl, hb⟩; replace HS := HS.go2 (by repeat (first | exact Below.refl _ _ | apply Below.drew | apply below_drewN | apply below_al)) hb; clear hb; have d0 := HS.out.1.1 0 _ rfl; have d1 := HS.out.1.1 1 _ rfl; have k0 := HS.out.2.1.1 0 _ rfl; have k1 := HS.out.2.1.1 1 _ rfl; have k2 := HS.out.2.1.1 2 _ rfl; have k3 := HS.out.2.1.1 3 _ rfl; have k4 := HS.out.2.1.1 4 _ rfl; obtain ⟨x0, x1, x2, x3, x4, x5, x6, x7, x8, x9, x10, x11⟩ := HS.out.2.2.1.ed; have gs := HS.out.2.2.1.2.2))
    go_ret
    exact RetEd.bad (by decide) (HS.go (by repeat (first | exact Below.refl _ _ | apply Below.drew | apply below_drewN | apply below_al))).out.2.2.2
  by_cases a5 : 5 < x.act
  ·
    go_wp2_with (first
      | (go_at_call_of 27 (Value.string x.path); refine (HLV.out _ (HR.out.below (HS.go (by repeat (first | exact Below.refl _ _ | apply Below.drew | apply below_drewN | apply below_al))).out.2.2.2)).mono ?_; rintro e wn ⟨rfl, hb⟩; replace HS := HS.go2 (by repeat (first | exact Below.refl _ _ | apply Below.drew | apply below_drewN | apply below_al)) hb; clear hb; have d0 := HS.out.1.1 0 _ rfl; have d1 := HS.out.1.1 1 _ rfl; have k0 := HS.out.2.1.1 0 _ rfl; have k1 := HS.out.2.1.1 1 _ rfl; have k2 := HS.out.2.1.1 2 _ rfl; have k3 := HS.out.2.1.1 3 _ rfl; have k4 := HS.out.2.1.1 4 _ rfl; obtain ⟨x0, x1, x2, x3, x4, x5, x6, x7, x8, x9, x10, x11⟩ := HS.out.2.2.1.ed; have gs := HS.out.2.2.1.2.2)
      | (go_at_call 27; refine (HLF.out _ (HR.out.below (HS.go (by repeat (first | exact Below.refl _ _ | apply Below.drew | apply below_drewN | apply below_al))).out.2.2.2)).mono ?_; rintro e wn ⟨rfl, hb⟩; replace HS := HS.go2 (by repeat (first | exact Below.refl _ _ | apply Below.drew | apply below_drewN | apply below_al)) hb; clear hb; have d0 := HS.out.1.1 0 _ rfl; have d1 := HS.out.1.1 1 _ rfl; have k0 := HS.out.2.1.1 0 _ rfl; have k1 := HS.out.2.1.1 1 _ rfl; have k2 := HS.out.2.1.1 2 _ rfl; have k3 := HS.out.2.1.1 3 _ rfl; have k4 := HS.out.2.1.1 4 _ rfl; obtain ⟨x0, x1, x2, x3, x4, x5, x6, x7, x8, x9, x10, x11⟩ := HS.out.2.2.1.ed; have gs := HS.out.2.2.1.2.2)
      | (go_at_call 57; refine (HTY.out _).mono ?_; rintro e wn ⟨rfl, hb⟩; replace HS := HS.go2 (by repeat (first | exact Below.refl _ _ | apply Below.drew | apply below_drewN | apply below_al)) hb; clear hb; have d0 := HS.out.1.1 0 _ rfl; have d1 := HS.out.1.1 1 _ rfl; have k0 := HS.out.2.1.1 0 _ rfl; have k1 := HS.out.2.1.1 1 _ rfl; have k2 := HS.out.2.1.1 2 _ rfl; have k3 := HS.out.2.1.1 3 _ rfl; have k4 := HS.out.2.1.1 4 _ rfl; obtain ⟨x0, x1, x2, x3, x4, x5, x6, x7, x8, x9, x10, x11⟩ := HS.out.2.2.1.ed; have gs := HS.out.2.2.1.2.2))
    go_ret
    exact RetEd.bad (by decide) (HS.go (by repeat (first | exact Below.refl _ _ | apply Below.drew | apply below_drewN | apply below_al))).out.2.2.2
  cases p1 : (x.act == 1) with
  | true =>
    have p4 : (x.act == 4) = false := by
      have : x.act = 1 := by simpa using p1
      rw [this]; rfl
    cases lv : liveR rs x.path with
    | true =>
      rw [lv] at HLV
      go_wp2_with (first
        | (go_at_call_of 27 (Value.string x.path); refine (HLV.out _ (HR.out.below (HS.go (by repeat (first | exact Below.refl _ _ | apply Below.drew | apply below_drewN | apply below_al))).out.2.2.2)).mono ?_; rintro e wn ⟨rfl, hb⟩; replace HS := HS.go2 (by repeat (first | exact Below.refl _ _ | apply Below.drew | apply below_drewN | apply below_al)) hb; clear hb; have d0 := HS.out.1.1 0 _ rfl; have d1 := HS.out.1.1 1 _ rfl; have k0 := HS.out.2.1.1 0 _ rfl; have k1 := HS.out.2.1.1 1 _ rfl; have k2 := HS.out.2.1.1 2 _ rfl; have k3 := HS.out.2.1.1 3 _ rfl; have k4 := HS.out.2.1.1 4 _ rfl; obtain ⟨x0, x1, x2, x3, x4, x5, x6, x7, x8, x9, x10, x11⟩ := HS.out.2.2.1.ed; have gs := HS.out.2.2.1.2.2)
        | (go_at_call 27; refine (HLF.out _ (HR.out.below (HS.go (by repeat (first | exact Below.refl _ _ | apply Below.drew | apply below_drewN | apply below_al))).out.2.2.2)).mono ?_; rintro e wn ⟨rfl, hb⟩; replace HS := HS.go2 (by repeat (first | exact Below.refl _ _ | apply Below.drew | apply below_drewN | apply below_al)) hb; clear hb; have d0 := HS.out.1.1 0 _ rfl; have d1 := HS.out.1.1 1 _ rfl; have k0 := HS.out.2.1.1 0 _ rfl; have k1 := HS.out.2.1.1 1 _ rfl; have k2 := HS.out.2.1.1 2 _ rfl; have k3 := HS.out.2.1.1 3 _ rfl; have k4 := HS.out.2.1.1 4 _ rfl; obtain ⟨x0, x1, x2, x3, x4, x5, x6, x7, x8, x9, x10, x11⟩ := HS.out.2.2.1.ed; have gs := HS.out.2.2.1.2.2)
        | (go_at_call 57; refine (HTY.out _).mono ?_; rintro e wn ⟨rfl, hb⟩; replace HS := HS.go2 (by repeat (first | exact Below.refl _ _ | apply Below.drew | apply below_drewN | apply below_al)) hb; clear hb; have d0 := HS.out.1.1 0 _ rfl; have d1 := HS.out.1.1 1 _ rfl; have k0 := HS.out.2.1.1 0 _ rfl; have k1 := HS.out.2.1.1 1 _ rfl; have k2 := HS.out.2.1.1 2 _ rfl; have k3 := HS.out.2.1.1 3 _ rfl; have k4 := HS.out.2.1.1 4 _ rfl; obtain ⟨x0, x1, x2, x3, x4, x5, x6, x7, x8, x9, x10, x11⟩ := HS.out.2.2.1.ed; have gs := HS.out.2.2.1.2.2))
      go_ret
      exact RetEd.bad (by decide) (HS.go (by repeat (first | exact Below.refl _ _ | apply Below.drew | apply below_drewN | apply below_al))).out.2.2.2
    | false =>
      have HAC : Hid (ActOk rs x) := Lib.hid ⟨by omega, by omega, ⟨fun _ => lv, fun _ => .inl (by simpa using p1)⟩⟩
      rw [lv] at HLV
      by_cases hb0 : x.base = lastN rs x.path
      · have HBS : Hid (BaseOk rs x) := Lib.hid hb0
        have HXB : Hid (nearN x.base) := Lib.hid (by rw [hb0]; exact near_last HRN.out x.path)
        have bb : (x.base != lastN rs x.path) = false := by simpa using hb0
        clear hb0
        generalize lastN rs x.path = ln at *
        by_cases s1 : x.frm = ⟨#[]⟩
        · have e1 : x.frm.toList.isEmpty = true := by rw [s1, Lib.toList_data]; rfl
          by_cases s2 : x.fnum = 0
          · have HFR : Hid (FromOk rs x) := Lib.hid (.inr ⟨by simpa using p4, s1, s2⟩)
            have b2 : (x.fnum != 0) = false := by simpa using s2
            clear s1 s2
            by_cases t1 : tyR x.ty = 0
            · by_cases t2 : x.cid.2 < 0
              ·
                rw [t1] at HTY
                clear t1
                go_wp2_with (first
                  | (go_at_call_of 27 (Value.string x.path); refine (HLV.out _ (HR.out.below (HS.go (by repeat (first | exact Below.refl _ _ | apply Below.drew | apply below_drewN | apply below_al))).out.2.2.2)).mono ?_; rintro e wn ⟨rfl, hb⟩; replace HS := HS.go2 (by repeat (first | exact Below.refl _ _ | apply Below.drew | apply below_drewN | apply below_al)) hb; clear hb; have d0 := HS.out.1.1 0 _ rfl; have d1 := HS.out.1.1 1 _ rfl; have k0 := HS.out.2.1.1 0 _ rfl; have k1 := HS.out.2.1.1 1 _ rfl; have k2 := HS.out.2.1.1 2 _ rfl; have k3 := HS.out.2.1.1 3 _ rfl; have k4 := HS.out.2.1.1 4 _ rfl; obtain ⟨x0, x1, x2, x3, x4, x5, x6, x7, x8, x9, x10, x11⟩ := HS.out.2.2.1.ed; have gs := HS.out.2.2.1.2.2)
                  | (go_at_call 27; refine (HLF.out _ (HR.out.below (HS.go (by repeat (first | exact Below.refl _ _ | apply Below.drew | apply below_drewN | apply below_al))).out.2.2.2)).mono ?_; rintro e wn ⟨rfl, hb⟩; replace HS := HS.go2 (by repeat (first | exact Below.refl _ _ | apply Below.drew | apply below_drewN | apply below_al)) hb; clear hb; have d0 := HS.out.1.1 0 _ rfl; have d1 := HS.out.1.1 1 _ rfl; have k0 := HS.out.2.1.1 0 _ rfl; have k1 := HS.out.2.1.1 1 _ rfl; have k2 := HS.out.2.1.1 2 _ rfl; have k3 := HS.out.2.1.1 3 _ rfl; have k4 := HS.out.2.1.1 4 _ rfl; obtain ⟨x0, x1, x2, x3, x4, x5, x6, x7, x8, x9, x10, x11⟩ := HS.out.2.2.1.ed; have gs := HS.out.2.2.1.2.2)
                  | (go_at_call 57; refine (HTY.out _).mono ?_; rintro e wn ⟨rfl, hb⟩; replace HS := HS.go2 (by repeat (first | exact Below.refl _ _ | apply Below.drew | apply below_drewN | apply below_al)) hb; clear hb; have d0 := HS.out.1.1 0 _ rfl; have d1 := HS.out.1.1 1 _ rfl; have k0 := HS.out.2.1.1 0 _ rfl; have k1 := HS.out.2.1.1 1 _ rfl; have k2 := HS.out.2.1.1 2 _ rfl; have k3 := HS.out.2.1.1 3 _ rfl; have k4 := HS.out.2.1.1 4 _ rfl; obtain ⟨x0, x1, x2, x3, x4, x5, x6, x7, x8, x9, x10, x11⟩ := HS.out.2.2.1.ed; have gs := HS.out.2.2.1.2.2))
                go_ret
                exact RetEd.bad (by decide) (HS.go (by repeat (first | exact Below.refl _ _ | apply Below.drew | apply below_drewN | apply below_al))).out.2.2.2
              ·
                rw [t1] at HTY
                clear t1
                have HLT := Lib.hid (fun W h => last_any A B c m d rs x.path W h hrl)
                unfold RetOR at HLT
                generalize (lastR rs x.path).isSome = ob at *
                generalize hv : (lastR rs x.path).getD rv0 = v at *
                clear hv
                have HGN := Lib.hid (fun W => gone_any (madeR n x) W)
                unfold madeR aggR at HGN
                go_upto_region 21 with (first
                  | (go_at_call_of 27 (Value.string x.path); refine (HLV.out _ (HR.out.below (HS.go (by repeat (first | exact Below.refl _ _ | apply Below.drew | apply below_drewN | apply below_al))).out.2.2.2)).mono ?_; rintro e wn ⟨rfl, hb⟩; replace HS := HS.go2 (by repeat (first | exact Below.refl _ _ | apply Below.drew | apply below_drewN | apply below_al)) hb; clear hb; have d0 := HS.out.1.1 0 _ rfl; have d1 := HS.out.1.1 1 _ rfl; have k0 := HS.out.2.1.1 0 _ rfl; have k1 := HS.out.2.1.1 1 _ rfl; have k2 := HS.out.2.1.1 2 _ rfl; have k3 := HS.out.2.1.1 3 _ rfl; have k4 := HS.out.2.1.1 4 _ rfl; obtain ⟨x0, x1, x2, x3, x4, x5, x6, x7, x8, x9, x10, x11⟩ := HS.out.2.2.1.ed; have gs := HS.out.2.2.1.2.2)
                  | (go_at_call 27; refine (HLF.out _ (HR.out.below (HS.go (by repeat (first | exact Below.refl _ _ | apply Below.drew | apply below_drewN | apply below_al))).out.2.2.2)).mono ?_; rintro e wn ⟨rfl, hb⟩; replace HS := HS.go2 (by repeat (first | exact Below.refl _ _ | apply Below.drew | apply below_drewN | apply below_al)) hb; clear hb; have d0 := HS.out.1.1 0 _ rfl; have d1 := HS.out.1.1 1 _ rfl; have k0 := HS.out.2.1.1 0 _ rfl; have k1 := HS.out.2.1.1 1 _ rfl; have k2 := HS.out.2.1.1 2 _ rfl; have k3 := HS.out.2.1.1 3 _ rfl; have k4 := HS.out.2.1.1 4 _ rfl; obtain ⟨x0, x1, x2, x3, x4, x5, x6, x7, x8, x9, x10, x11⟩ := HS.out.2.2.1.ed; have gs := HS.out.2.2.1.2.2)
                  | (go_at_call 57; refine (HTY.out _).mono ?_; rintro e wn ⟨rfl, hb⟩; replace HS := HS.go2 (by repeat (first | exact Below.refl _ _ | apply Below.drew | apply below_drewN | apply below_al)) hb; clear hb; have d0 := HS.out.1.1 0 _ rfl; have d1 := HS.out.1.1 1 _ rfl; have k0 := HS.out.2.1.1 0 _ rfl; have k1 := HS.out.2.1.1 1 _ rfl; have k2 := HS.out.2.1.1 2 _ rfl; have k3 := HS.out.2.1.1 3 _ rfl; have k4 := HS.out.2.1.1 4 _ rfl; obtain ⟨x0, x1, x2, x3, x4, x5, x6, x7, x8, x9, x10, x11⟩ := HS.out.2.2.1.ed; have gs := HS.out.2.2.1.2.2)
                  | (go_at_call 28; refine (HLT.out _ (HR.out.below (HS.go (by repeat (first | exact Below.refl _ _ | apply Below.drew | apply below_drewN | apply below_al))).out.2.2.2)).mono ?_; rintro e wl ⟨rfl, hb⟩; replace HS := HS.go2 (by repeat (first | exact Below.refl _ _ | apply Below.drew | apply below_drewN | apply below_al)) hb; clear hb; have d0 := HS.out.1.1 0 _ rfl; have d1 := HS.out.1.1 1 _ rfl; have k0 := HS.out.2.1.1 0 _ rfl; have k1 := HS.out.2.1.1 1 _ rfl; have k2 := HS.out.2.1.1 2 _ rfl; have k3 := HS.out.2.1.1 3 _ rfl; have k4 := HS.out.2.1.1 4 _ rfl; obtain ⟨x0, x1, x2, x3, x4, x5, x6, x7, x8, x9, x10, x11⟩ := HS.out.2.2.1.ed; have gs := HS.out.2.2.1.2.2; unfold aggR))
                have g0 := HS.out.1.2.2
                have g1 := HS.out.2.1.2.2
                have HBX : At (fun w' => BX w' wl.heap.size (revV v)) (wl.alloc (.cells (revV v).toArray 40)) := ⟨fun X Y h hb => h.below hb, BX.new wl (revV v) _ rfl⟩
                obtain ⟨v0, v1, v2, v3, v4, v5, v6, v7, v8, v9, v10, v11⟩ := HBX.out.rev
                cases hg : goneR (madeR n x) with
                | false =>
                  unfold madeR at hg
                  rw [hg] at HGN
                  clear hg
                  go_wp2_with (first
                    | (go_at_call 40; refine (made_any n S T _ D es.length ce dr nr x _ HXB.out).mono ?_; rintro e wn ⟨rfl, hb⟩; replace HS := HS.go2 (by repeat (first | exact Below.refl _ _ | apply Below.drew | apply below_drewN | apply below_al)) hb; replace HBX := HBX.go2 (by repeat (first | exact Below.refl _ _ | apply Below.drew | apply below_drewN | apply below_al)) hb; clear hb; have d0 := HS.out.1.1 0 _ rfl; have d1 := HS.out.1.1 1 _ rfl; have k0 := HS.out.2.1.1 0 _ rfl; have k1 := HS.out.2.1.1 1 _ rfl; have k2 := HS.out.2.1.1 2 _ rfl; have k3 := HS.out.2.1.1 3 _ rfl; have k4 := HS.out.2.1.1 4 _ rfl; obtain ⟨x0, x1, x2, x3, x4, x5, x6, x7, x8, x9, x10, x11⟩ := HS.out.2.2.1.ed; have gs := HS.out.2.2.1.2.2; obtain ⟨v0, v1, v2, v3, v4, v5, v6, v7, v8, v9, v10, v11⟩ := HBX.out.rev; unfold madeR aggR)
                    | (go_at_call 44; refine (HGN.out _).mono ?_; rintro e wn ⟨rfl, hb⟩; replace HS := HS.go2 (by repeat (first | exact Below.refl _ _ | apply Below.drew | apply below_drewN | apply below_al)) hb; replace HBX := HBX.go2 (by repeat (first | exact Below.refl _ _ | apply Below.drew | apply below_drewN | apply below_al)) hb; clear hb; have d0 := HS.out.1.1 0 _ rfl; have d1 := HS.out.1.1 1 _ rfl; have k0 := HS.out.2.1.1 0 _ rfl; have k1 := HS.out.2.1.1 1 _ rfl; have k2 := HS.out.2.1.1 2 _ rfl; have k3 := HS.out.2.1.1 3 _ rfl; have k4 := HS.out.2.1.1 4 _ rfl; obtain ⟨x0, x1, x2, x3, x4, x5, x6, x7, x8, x9, x10, x11⟩ := HS.out.2.2.1.ed; have gs := HS.out.2.2.1.2.2; obtain ⟨v0, v1, v2, v3, v4, v5, v6, v7, v8, v9, v10, v11⟩ := HBX.out.rev))
                  go_ret
                  first
                    | exact RetEd.ok (HP.out HAC.out HBS.out HFR.out) (HS.go (by repeat (first | exact Below.refl _ _ | apply Below.drew | apply below_drewN | apply below_al))).out.2.2.2
                    | exact RetEd.bad (by decide) (HS.go (by repeat (first | exact Below.refl _ _ | apply Below.drew | apply below_drewN | apply below_al))).out.2.2.2
                | true =>
                  unfold madeR at hg
                  rw [hg] at HGN
                  clear hg
                  have hte := fun w => ty_eqd 9998 x.ty.1 v.ty.1 x.ty.2.1 x.ty.2.2.1 x.ty.2.2.2 v.ty.2.1 v.ty.2.2.1 v.ty.2.2.2 w
                  have hce := fun w => cid_eqd 9998 x.cid.1 x.cid.2 0 0 w
                  simp only [show 9998 + 2 = 10000 from rfl] at hte hce
                  generalize (x.ty.1 == v.ty.1 && (x.ty.2.1 == v.ty.2.1 && (x.ty.2.2.1 == v.ty.2.2.1 && x.ty.2.2.2 == v.ty.2.2.2))) = tb at *
                  generalize (x.cid.1 == 0 && x.cid.2 == 0) = cb at *
                  cases tb with
                  | false =>
                    go_wp2_with (first
                      | (go_at_call 40; refine (made_any n S T _ D es.length ce dr nr x _ HXB.out).mono ?_; rintro e wn ⟨rfl, hb⟩; replace HS := HS.go2 (by repeat (first | exact Below.refl _ _ | apply Below.drew | apply below_drewN | apply below_al)) hb; replace HBX := HBX.go2 (by repeat (first | exact Below.refl _ _ | apply Below.drew | apply below_drewN | apply below_al)) hb; clear hb; have d0 := HS.out.1.1 0 _ rfl; have d1 := HS.out.1.1 1 _ rfl; have k0 := HS.out.2.1.1 0 _ rfl; have k1 := HS.out.2.1.1 1 _ rfl; have k2 := HS.out.2.1.1 2 _ rfl; have k3 := HS.out.2.1.1 3 _ rfl; have k4 := HS.out.2.1.1 4 _ rfl; obtain ⟨x0, x1, x2, x3, x4, x5, x6, x7, x8, x9, x10, x11⟩ := HS.out.2.2.1.ed; have gs := HS.out.2.2.1.2.2; obtain ⟨v0, v1, v2, v3, v4, v5, v6, v7, v8, v9, v10, v11⟩ := HBX.out.rev; unfold madeR aggR)
                      | (go_at_call 44; refine (HGN.out _).mono ?_; rintro e wn ⟨rfl, hb⟩; replace HS := HS.go2 (by repeat (first | exact Below.refl _ _ | apply Below.drew | apply below_drewN | apply below_al)) hb; replace HBX := HBX.go2 (by repeat (first | exact Below.refl _ _ | apply Below.drew | apply below_drewN | apply below_al)) hb; clear hb; have d0 := HS.out.1.1 0 _ rfl; have d1 := HS.out.1.1 1 _ rfl; have k0 := HS.out.2.1.1 0 _ rfl; have k1 := HS.out.2.1.1 1 _ rfl; have k2 := HS.out.2.1.1 2 _ rfl; have k3 := HS.out.2.1.1 3 _ rfl; have k4 := HS.out.2.1.1 4 _ rfl; obtain ⟨x0, x1, x2, x3, x4, x5, x6, x7, x8, x9, x10, x11⟩ := HS.out.2.2.1.ed; have gs := HS.out.2.2.1.2.2; obtain ⟨v0, v1, v2, v3, v4, v5, v6, v7, v8, v9, v10, v11⟩ := HBX.out.rev))
                    go_ret
                    first
                      | exact RetEd.ok (HP.out HAC.out HBS.out HFR.out) (HS.go (by repeat (first | exact Below.refl _ _ | apply Below.drew | apply below_drewN | apply below_al))).out.2.2.2
                      | exact RetEd.bad (by decide) (HS.go (by repeat (first | exact Below.refl _ _ | apply Below.drew | apply below_drewN | apply below_al))).out.2.2.2
                  | true =>
                    cases cb with
                    | false =>
                      go_wp2_with (first
                        | (go_at_call 40; refine (made_any n S T _ D es.length ce dr nr x _ HXB.out).mono ?_; rintro e wn ⟨rfl, hb⟩; replace HS := HS.go2 (by repeat (first | exact Below.refl _ _ | apply Below.drew | apply below_drewN | apply below_al)) hb; replace HBX := HBX.go2 (by repeat (first | exact Below.refl _ _ | apply Below.drew | apply below_drewN | apply below_al)) hb; clear hb; have d0 := HS.out.1.1 0 _ rfl; have d1 := HS.out.1.1 1 _ rfl; have k0 := HS.out.2.1.1 0 _ rfl; have k1 := HS.out.2.1.1 1 _ rfl; have k2 := HS.out.2.1.1 2 _ rfl; have k3 := HS.out.2.1.1 3 _ rfl; have k4 := HS.out.2.1.1 4 _ rfl; obtain ⟨x0, x1, x2, x3, x4, x5, x6, x7, x8, x9, x10, x11⟩ := HS.out.2.2.1.ed; have gs := HS.out.2.2.1.2.2; obtain ⟨v0, v1, v2, v3, v4, v5, v6, v7, v8, v9, v10, v11⟩ := HBX.out.rev; unfold madeR aggR)
                        | (go_at_call 44; refine (HGN.out _).mono ?_; rintro e wn ⟨rfl, hb⟩; replace HS := HS.go2 (by repeat (first | exact Below.refl _ _ | apply Below.drew | apply below_drewN | apply below_al)) hb; replace HBX := HBX.go2 (by repeat (first | exact Below.refl _ _ | apply Below.drew | apply below_drewN | apply below_al)) hb; clear hb; have d0 := HS.out.1.1 0 _ rfl; have d1 := HS.out.1.1 1 _ rfl; have k0 := HS.out.2.1.1 0 _ rfl; have k1 := HS.out.2.1.1 1 _ rfl; have k2 := HS.out.2.1.1 2 _ rfl; have k3 := HS.out.2.1.1 3 _ rfl; have k4 := HS.out.2.1.1 4 _ rfl; obtain ⟨x0, x1, x2, x3, x4, x5, x6, x7, x8, x9, x10, x11⟩ := HS.out.2.2.1.ed; have gs := HS.out.2.2.1.2.2; obtain ⟨v0, v1, v2, v3, v4, v5, v6, v7, v8, v9, v10, v11⟩ := HBX.out.rev))
                      go_ret
                      first
                        | exact RetEd.ok (HP.out HAC.out HBS.out HFR.out) (HS.go (by repeat (first | exact Below.refl _ _ | apply Below.drew | apply below_drewN | apply below_al))).out.2.2.2
                        | exact RetEd.bad (by decide) (HS.go (by repeat (first | exact Below.refl _ _ | apply Below.drew | apply below_drewN | apply below_al))).out.2.2.2
                    | true =>
                      go_wp2_with (first
                        | (go_at_call 40; refine (made_any n S T _ D es.length ce dr nr x _ HXB.out).mono ?_; rintro e wn ⟨rfl, hb⟩; replace HS := HS.go2 (by repeat (first | exact Below.refl _ _ | apply Below.drew | apply below_drewN | apply below_al)) hb; replace HBX := HBX.go2 (by repeat (first | exact Below.refl _ _ | apply Below.drew | apply below_drewN | apply below_al)) hb; clear hb; have d0 := HS.out.1.1 0 _ rfl; have d1 := HS.out.1.1 1 _ rfl; have k0 := HS.out.2.1.1 0 _ rfl; have k1 := HS.out.2.1.1 1 _ rfl; have k2 := HS.out.2.1.1 2 _ rfl; have k3 := HS.out.2.1.1 3 _ rfl; have k4 := HS.out.2.1.1 4 _ rfl; obtain ⟨x0, x1, x2, x3, x4, x5, x6, x7, x8, x9, x10, x11⟩ := HS.out.2.2.1.ed; have gs := HS.out.2.2.1.2.2; obtain ⟨v0, v1, v2, v3, v4, v5, v6, v7, v8, v9, v10, v11⟩ := HBX.out.rev; unfold madeR aggR)
                        | (go_at_call 44; refine (HGN.out _).mono ?_; rintro e wn ⟨rfl, hb⟩; replace HS := HS.go2 (by repeat (first | exact Below.refl _ _ | apply Below.drew | apply below_drewN | apply below_al)) hb; replace HBX := HBX.go2 (by repeat (first | exact Below.refl _ _ | apply Below.drew | apply below_drewN | apply below_al)) hb; clear hb; have d0 := HS.out.1.1 0 _ rfl; have d1 := HS.out.1.1 1 _ rfl; have k0 := HS.out.2.1.1 0 _ rfl; have k1 := HS.out.2.1.1 1 _ rfl; have k2 := HS.out.2.1.1 2 _ rfl; have k3 := HS.out.2.1.1 3 _ rfl; have k4 := HS.out.2.1.1 4 _ rfl; obtain ⟨x0, x1, x2, x3, x4, x5, x6, x7, x8, x9, x10, x11⟩ := HS.out.2.2.1.ed; have gs := HS.out.2.2.1.2.2; obtain ⟨v0, v1, v2, v3, v4, v5, v6, v7, v8, v9, v10, v11⟩ := HBX.out.rev))
                      go_ret
                      first
                        | exact RetEd.ok (HP.out HAC.out HBS.out HFR.out) (HS.go (by repeat (first | exact Below.refl _ _ | apply Below.drew | apply below_drewN | apply below_al))).out.2.2.2
                        | exact RetEd.bad (by decide) (HS.go (by repeat (first | exact Below.refl _ _ | apply Below.drew | apply below_drewN | apply below_al))).out.2.2.2
            ·
              have bt : (tyR x.ty != 0) = true := by simpa using t1
              generalize tyR x.ty = ty at *
              clear t1
              go_wp2_with (first
                | (go_at_call_of 27 (Value.string x.path); refine (HLV.out _ (HR.out.below (HS.go (by repeat (first | exact Below.refl _ _ | apply Below.drew | apply below_drewN | apply below_al))).out.2.2.2)).mono ?_; rintro e wn ⟨rfl, hb⟩; replace HS := HS.go2 (by repeat (first | exact Below.refl _ _ | apply Below.drew | apply below_drewN | apply below_al)) hb; clear hb; have d0 := HS.out.1.1 0 _ rfl; have d1 := HS.out.1.1 1 _ rfl; have k0 := HS.out.2.1.1 0 _ rfl; have k1 := HS.out.2.1.1 1 _ rfl; have k2 := HS.out.2.1.1 2 _ rfl; have k3 := HS.out.2.1.1 3 _ rfl; have k4 := HS.out.2.1.1 4 _ rfl; obtain ⟨x0, x1, x2, x3, x4, x5, x6, x7, x8, x9, x10, x11⟩ := HS.out.2.2.1.ed; have gs := HS.out.2.2.1.2.2)
                | (go_at_call 27; refine (HLF.out _ (HR.out.below (HS.go (by repeat (first | exact Below.refl _ _ | apply Below.drew | apply below_drewN | apply below_al))).out.2.2.2)).mono ?_; rintro e wn ⟨rfl, hb⟩; replace HS := HS.go2 (by repeat (first | exact Below.refl _ _ | apply Below.drew | apply below_drewN | apply below_al)) hb; clear hb; have d0 := HS.out.1.1 0 _ rfl; have d1 := HS.out.1.1 1 _ rfl; have k0 := HS.out.2.1.1 0 _ rfl; have k1 := HS.out.2.1.1 1 _ rfl; have k2 := HS.out.2.1.1 2 _ rfl; have k3 := HS.out.2.1.1 3 _ rfl; have k4 := HS.out.2.1.1 4 _ rfl; obtain ⟨x0, x1, x2, x3, x4, x5, x6, x7, x8, x9, x10, x11⟩ := HS.out.2.2.1.ed; have gs := HS.out.2.2.1.2.2)
                | (go_at_call 57; refine (HTY.out _).mono ?_; rintro e wn ⟨rfl, hb⟩; replace HS := HS.go2 (by repeat (first | exact Below.refl _ _ | apply Below.drew | apply below_drewN | apply below_al)) hb; clear hb; have d0 := HS.out.1.1 0 _ rfl; have d1 := HS.out.1.1 1 _ rfl; have k0 := HS.out.2.1.1 0 _ rfl; have k1 := HS.out.2.1.1 1 _ rfl; have k2 := HS.out.2.1.1 2 _ rfl; have k3 := HS.out.2.1.1 3 _ rfl; have k4 := HS.out.2.1.1 4 _ rfl; obtain ⟨x0, x1, x2, x3, x4, x5, x6, x7, x8, x9, x10, x11⟩ := HS.out.2.2.1.ed; have gs := HS.out.2.2.1.2.2))
              go_ret
              exact RetEd.bad (by decide) (HS.go (by repeat (first | exact Below.refl _ _ | apply Below.drew | apply below_drewN | apply below_al))).out.2.2.2
          · have b2 : (x.fnum != 0) = true := by simpa using s2
            clear s1 s2
            go_wp2_with (first
              | (go_at_call_of 27 (Value.string x.path); refine (HLV.out _ (HR.out.below (HS.go (by repeat (first | exact Below.refl _ _ | apply Below.drew | apply below_drewN | apply below_al))).out.2.2.2)).mono ?_; rintro e wn ⟨rfl, hb⟩; replace HS := HS.go2 (by repeat (first | exact Below.refl _ _ | apply Below.drew | apply below_drewN | apply below_al)) hb; clear hb; have d0 := HS.out.1.1 0 _ rfl; have d1 := HS.out.1.1 1 _ rfl; have k0 := HS.out.2.1.1 0 _ rfl; have k1 := HS.out.2.1.1 1 _ rfl; have k2 := HS.out.2.1.1 2 _ rfl; have k3 := HS.out.2.1.1 3 _ rfl; have k4 := HS.out.2.1.1 4 _ rfl; obtain ⟨x0, x1, x2, x3, x4, x5, x6, x7, x8, x9, x10, x11⟩ := HS.out.2.2.1.ed; have gs := HS.out.2.2.1.2.2)
              | (go_at_call 27; refine (HLF.out _ (HR.out.below (HS.go (by repeat (first | exact Below.refl _ _ | apply Below.drew | apply below_drewN | apply below_al))).out.2.2.2)).mono ?_; rintro e wn ⟨rfl, hb⟩; replace HS := HS.go2 (by repeat (first | exact Below.refl _ _ | apply Below.drew | apply below_drewN | apply below_al)) hb; clear hb; have d0 := HS.out.1.1 0 _ rfl; have d1 := HS.out.1.1 1 _ rfl; have k0 := HS.out.2.1.1 0 _ rfl; have k1 := HS.out.2.1.1 1 _ rfl; have k2 := HS.out.2.1.1 2 _ rfl; have k3 := HS.out.2.1.1 3 _ rfl; have k4 := HS.out.2.1.1 4 _ rfl; obtain ⟨x0, x1, x2, x3, x4, x5, x6, x7, x8, x9, x10, x11⟩ := HS.out.2.2.1.ed; have gs := HS.out.2.2.1.2.2)
              | (go_at_call 57; refine (HTY.out _).mono ?_; rintro e wn ⟨rfl, hb⟩; replace HS := HS.go2 (by repeat (first | exact Below.refl _ _ | apply Below.drew | apply below_drewN | apply below_al)) hb; clear hb; have d0 := HS.out.1.1 0 _ rfl; have d1 := HS.out.1.1 1 _ rfl; have k0 := HS.out.2.1.1 0 _ rfl; have k1 := HS.out.2.1.1 1 _ rfl; have k2 := HS.out.2.1.1 2 _ rfl; have k3 := HS.out.2.1.1 3 _ rfl; have k4 := HS.out.2.1.1 4 _ rfl; obtain ⟨x0, x1, x2, x3, x4, x5, x6, x7, x8, x9, x10, x11⟩ := HS.out.2.2.1.ed; have gs := HS.out.2.2.1.2.2))
            go_ret
            exact RetEd.bad (by decide) (HS.go (by repeat (first | exact Below.refl _ _ | apply Below.drew | apply below_drewN | apply below_al))).out.2.2.2
        · have e1 : x.frm.toList.isEmpty = false := bytes_ne (by
            rcases Nat.eq_zero_or_pos x.frm.size with h0 | h0
            · exfalso
              apply s1
              rw [← mkB_back x.frm, bytes_nil h0]
              rfl
            · exact h0)
          clear s1
          go_wp2_with (first
            | (go_at_call_of 27 (Value.string x.path); refine (HLV.out _ (HR.out.below (HS.go (by repeat (first | exact Below.refl _ _ | apply Below.drew | apply below_drewN | apply below_al))).out.2.2.2)).mono ?_; rintro e wn ⟨rfl, hb⟩; replace HS := HS.go2 (by repeat (first | exact Below.refl _ _ | apply Below.drew | apply below_drewN | apply below_al)) hb; clear hb; have d0 := HS.out.1.1 0 _ rfl; have d1 := HS.out.1.1 1 _ rfl; have k0 := HS.out.2.1.1 0 _ rfl; have k1 := HS.out.2.1.1 1 _ rfl; have k2 := HS.out.2.1.1 2 _ rfl; have k3 := HS.out.2.1.1 3 _ rfl; have k4 := HS.out.2.1.1 4 _ rfl; obtain ⟨x0, x1, x2, x3, x4, x5, x6, x7, x8, x9, x10, x11⟩ := HS.out.2.2.1.ed; have gs := HS.out.2.2.1.2.2)
            | (go_at_call 27; refine (HLF.out _ (HR.out.below (HS.go (by repeat (first | exact Below.refl _ _ | apply Below.drew | apply below_drewN | apply below_al))).out.2.2.2)).mono ?_; rintro e wn ⟨rfl, hb⟩; replace HS := HS.go2 (by repeat (first | exact Below.refl _ _ | apply Below.drew | apply below_drewN | apply below_al)) hb; clear hb; have d0 := HS.out.1.1 0 _ rfl; have d1 := HS.out.1.1 1 _ rfl; have k0 := HS.out.2.1.1 0 _ rfl; have k1 := HS.out.2.1.1 1 _ rfl; have k2 := HS.out.2.1.1 2 _ rfl; have k3 := HS.out.2.1.1 3 _ rfl; have k4 := HS.out.2.1.1 4 _ rfl; obtain ⟨x0, x1, x2, x3, x4, x5, x6, x7, x8, x9, x10, x11⟩ := HS.out.2.2.1.ed; have gs := HS.out.2.2.1.2.2)
            | (go_at_call 57; refine (HTY.out _).mono ?_; rintro e wn ⟨rfl, hb⟩; replace HS := HS.go2 (by repeat (first | exact Below.refl _ _ | apply Below.drew | apply below_drewN | apply below_al)) hb; clear hb; have d0 := HS.out.1.1 0 _ rfl; have d1 := HS.out.1.1 1 _ rfl; have k0 := HS.out.2.1.1 0 _ rfl; have k1 := HS.out.2.1.1 1 _ rfl; have k2 := HS.out.2.1.1 2 _ rfl; have k3 := HS.out.2.1.1 3 _ rfl; have k4 := HS.out.2.1.1 4 _ rfl; obtain ⟨x0, x1, x2, x3, x4, x5, x6, x7, x8, x9, x10, x11⟩ := HS.out.2.2.1.ed; have gs := HS.out.2.2.1.2.2))
          go_ret
          exact RetEd.bad (by decide) (HS.go (by repeat (first | exact Below.refl _ _ | apply Below.drew | apply below_drewN | apply below_al))).out.2.2.2
      · have bb : (x.base != lastN rs x.path) = true := by simpa using hb0
        clear hb0
        generalize lastN rs x.path = ln at *
        go_wp2_with (first
          | (go_at_call_of 27 (Value.string x.path); refine (HLV.out _ (HR.out.below (HS.go (by repeat (first | exact Below.refl _ _ | apply Below.drew | apply below_drewN | apply below_al))).out.2.2.2)).mono ?_; rintro e wn ⟨rfl, hb⟩; replace HS := HS.go2 (by repeat (first | exact Below.refl _ _ | apply Below.drew | apply below_drewN | apply below_al)) hb; clear hb; have d0 := HS.out.1.1 0 _ rfl; have d1 := HS.out.1.1 1 _ rfl; have k0 := HS.out.2.1.1 0 _ rfl; have k1 := HS.out.2.1.1 1 _ rfl; have k2 := HS.out.2.1.1 2 _ rfl; have k3 := HS.out.2.1.1 3 _ rfl; have k4 := HS.out.2.1.1 4 _ rfl; obtain ⟨x0, x1, x2, x3, x4, x5, x6, x7, x8, x9, x10, x11⟩ := HS.out.2.2.1.ed; have gs := HS.out.2.2.1.2.2)
          | (go_at_call 27; refine (HLF.out _ (HR.out.below (HS.go (by repeat (first | exact Below.refl _ _ | apply Below.drew | apply below_drewN | apply below_al))).out.2.2.2)).mono ?_; rintro e wn ⟨rfl, hb⟩; replace HS := HS.go2 (by repeat (first | exact Below.refl _ _ | apply Below.drew | apply below_drewN | apply below_al)) hb; clear hb; have d0 := HS.out.1.1 0 _ rfl; have d1 := HS.out.1.1 1 _ rfl; have k0 := HS.out.2.1.1 0 _ rfl; have k1 := HS.out.2.1.1 1 _ rfl; have k2 := HS.out.2.1.1 2 _ rfl; have k3 := HS.out.2.1.1 3 _ rfl; have k4 := HS.out.2.1.1 4 _ rfl; obtain ⟨x0, x1, x2, x3, x4, x5, x6, x7, x8, x9, x10, x11⟩ := HS.out.2.2.1.ed; have gs := HS.out.2.2.1.2.2)
          | (go_at_call 57; refine (HTY.out _).mono ?_; rintro e wn ⟨rfl, hb⟩; replace HS := HS.go2 (by repeat (first | exact Below.refl _ _ | apply Below.drew | apply below_drewN | apply below_al)) hb; clear hb; have d0 := HS.out.1.1 0 _ rfl; have d1 := HS.out.1.1 1 _ rfl; have k0 := HS.out.2.1.1 0 _ rfl; have k1 := HS.out.2.1.1 1 _ rfl; have k2 := HS.out.2.1.1 2 _ rfl; have k3 := HS.out.2.1.1 3 _ rfl; have k4 := HS.out.2.1.1 4 _ rfl; obtain ⟨x0, x1, x2, x3, x4, x5, x6, x7, x8, x9, x10, x11⟩ := HS.out.2.2.1.ed; have gs := HS.out.2.2.1.2.2))
        go_ret
        exact RetEd.bad (by decide) (HS.go (by repeat (first | exact Below.refl _ _ | apply Below.drew | apply below_drewN | apply below_al))).out.2.2.2
  | false =>
    cases p4 : (x.act == 4) with
    | true =>
      cases lv : liveR rs x.path with
      | true =>
        rw [lv] at HLV
        go_wp2_with (first
          | (go_at_call_of 27 (Value.string x.path); refine (HLV.out _ (HR.out.below (HS.go (by repeat (first | exact Below.refl _ _ | apply Below.drew | apply below_drewN | apply below_al))).out.2.2.2)).mono ?_; rintro e wn ⟨rfl, hb⟩; replace HS := HS.go2 (by repeat (first | exact Below.refl _ _ | apply Below.drew | apply below_drewN | apply below_al)) hb; clear hb; have d0 := HS.out.1.1 0 _ rfl; have d1 := HS.out.1.1 1 _ rfl; have k0 := HS.out.2.1.1 0 _ rfl; have k1 := HS.out.2.1.1 1 _ rfl; have k2 := HS.out.2.1.1 2 _ rfl; have k3 := HS.out.2.1.1 3 _ rfl; have k4 := HS.out.2.1.1 4 _ rfl; obtain ⟨x0, x1, x2, x3, x4, x5, x6, x7, x8, x9, x10, x11⟩ := HS.out.2.2.1.ed; have gs := HS.out.2.2.1.2.2)
          | (go_at_call 27; refine (HLF.out _ (HR.out.below (HS.go (by repeat (first | exact Below.refl _ _ | apply Below.drew | apply below_drewN | apply below_al))).out.2.2.2)).mono ?_; rintro e wn ⟨rfl, hb⟩; replace HS := HS.go2 (by repeat (first | exact Below.refl _ _ | apply Below.drew | apply below_drewN | apply below_al)) hb; clear hb; have d0 := HS.out.1.1 0 _ rfl; have d1 := HS.out.1.1 1 _ rfl; have k0 := HS.out.2.1.1 0 _ rfl; have k1 := HS.out.2.1.1 1 _ rfl; have k2 := HS.out.2.1.1 2 _ rfl; have k3 := HS.out.2.1.1 3 _ rfl; have k4 := HS.out.2.1.1 4 _ rfl; obtain ⟨x0, x1, x2, x3, x4, x5, x6, x7, x8, x9, x10, x11⟩ := HS.out.2.2.1.ed; have gs := HS.out.2.2.1.2.2)
          | (go_at_call 57; refine (HTY.out _).mono ?_; rintro e wn ⟨rfl, hb⟩; replace HS := HS.go2 (by repeat (first | exact Below.refl _ _ | apply Below.drew | apply below_drewN | apply below_al)) hb; clear hb; have d0 := HS.out.1.1 0 _ rfl; have d1 := HS.out.1.1 1 _ rfl; have k0 := HS.out.2.1.1 0 _ rfl; have k1 := HS.out.2.1.1 1 _ rfl; have k2 := HS.out.2.1.1 2 _ rfl; have k3 := HS.out.2.1.1 3 _ rfl; have k4 := HS.out.2.1.1 4 _ rfl; obtain ⟨x0, x1, x2, x3, x4, x5, x6, x7, x8, x9, x10, x11⟩ := HS.out.2.2.1.ed; have gs := HS.out.2.2.1.2.2))
        go_ret
        exact RetEd.bad (by decide) (HS.go (by repeat (first | exact Below.refl _ _ | apply Below.drew | apply below_drewN | apply below_al))).out.2.2.2
      | false =>
        have HAC : Hid (ActOk rs x) := Lib.hid ⟨by omega, by omega, ⟨fun _ => lv, fun _ => .inr (by simpa using p4)⟩⟩
        rw [lv] at HLV
        by_cases hb0 : x.base = lastN rs x.path
        · have HBS : Hid (BaseOk rs x) := Lib.hid hb0
          have HXB : Hid (nearN x.base) := Lib.hid (by rw [hb0]; exact near_last HRN.out x.path)
          have bb : (x.base != lastN rs x.path) = false := by simpa using hb0
          clear hb0
          generalize lastN rs x.path = ln at *
          cases lf : liveR rs x.frm with
          | false =>
            rw [lf] at HLF
            go_wp2_with (first
              | (go_at_call_of 27 (Value.string x.path); refine (HLV.out _ (HR.out.below (HS.go (by repeat (first | exact Below.refl _ _ | apply Below.drew | apply below_drewN | apply below_al))).out.2.2.2)).mono ?_; rintro e wn ⟨rfl, hb⟩; replace HS := HS.go2 (by repeat (first | exact Below.refl _ _ | apply Below.drew | apply below_drewN | apply below_al)) hb; clear hb; have d0 := HS.out.1.1 0 _ rfl; have d1 := HS.out.1.1 1 _ rfl; have k0 := HS.out.2.1.1 0 _ rfl; have k1 := HS.out.2.1.1 1 _ rfl; have k2 := HS.out.2.1.1 2 _ rfl; have k3 := HS.out.2.1.1 3 _ rfl; have k4 := HS.out.2.1.1 4 _ rfl; obtain ⟨x0, x1, x2, x3, x4, x5, x6, x7, x8, x9, x10, x11⟩ := HS.out.2.2.1.ed; have gs := HS.out.2.2.1.2.2)
              | (go_at_call 27; refine (HLF.out _ (HR.out.below (HS.go (by repeat (first | exact Below.refl _ _ | apply Below.drew | apply below_drewN | apply below_al))).out.2.2.2)).mono ?_; rintro e wn ⟨rfl, hb⟩; replace HS := HS.go2 (by repeat (first | exact Below.refl _ _ | apply Below.drew | apply below_drewN | apply below_al)) hb; clear hb; have d0 := HS.out.1.1 0 _ rfl; have d1 := HS.out.1.1 1 _ rfl; have k0 := HS.out.2.1.1 0 _ rfl; have k1 := HS.out.2.1.1 1 _ rfl; have k2 := HS.out.2.1.1 2 _ rfl; have k3 := HS.out.2.1.1 3 _ rfl; have k4 := HS.out.2.1.1 4 _ rfl; obtain ⟨x0, x1, x2, x3, x4, x5, x6, x7, x8, x9, x10, x11⟩ := HS.out.2.2.1.ed; have gs := HS.out.2.2.1.2.2)
              | (go_at_call 57; refine (HTY.out _).mono ?_; rintro e wn ⟨rfl, hb⟩; replace HS := HS.go2 (by repeat (first | exact Below.refl _ _ | apply Below.drew | apply below_drewN | apply below_al)) hb; clear hb; have d0 := HS.out.1.1 0 _ rfl; have d1 := HS.out.1.1 1 _ rfl; have k0 := HS.out.2.1.1 0 _ rfl; have k1 := HS.out.2.1.1 1 _ rfl; have k2 := HS.out.2.1.1 2 _ rfl; have k3 := HS.out.2.1.1 3 _ rfl; have k4 := HS.out.2.1.1 4 _ rfl; obtain ⟨x0, x1, x2, x3, x4, x5, x6, x7, x8, x9, x10, x11⟩ := HS.out.2.2.1.ed; have gs := HS.out.2.2.1.2.2))
            go_ret
            exact RetEd.bad (by decide) (HS.go (by repeat (first | exact Below.refl _ _ | apply Below.drew | apply below_drewN | apply below_al))).out.2.2.2
          | true =>
            rw [lf] at HLF
            by_cases hn : lastN rs x.frm = x.fnum
            · have b3 : (lastN rs x.frm != x.fnum) = false := by simpa using hn
              by_cases hq : x.frm = x.path
              · have e3 := str_eqt hq
                clear hq hn
                generalize lastN rs x.frm = l2 at *
                go_wp2_with (first
                  | (go_at_call_of 27 (Value.string x.path); refine (HLV.out _ (HR.out.below (HS.go (by repeat (first | exact Below.refl _ _ | apply Below.drew | apply below_drewN | apply below_al))).out.2.2.2)).mono ?_; rintro e wn ⟨rfl, hb⟩; replace HS := HS.go2 (by repeat (first | exact Below.refl _ _ | apply Below.drew | apply below_drewN | apply below_al)) hb; clear hb; have d0 := HS.out.1.1 0 _ rfl; have d1 := HS.out.1.1 1 _ rfl; have k0 := HS.out.2.1.1 0 _ rfl; have k1 := HS.out.2.1.1 1 _ rfl; have k2 := HS.out.2.1.1 2 _ rfl; have k3 := HS.out.2.1.1 3 _ rfl; have k4 := HS.out.2.1.1 4 _ rfl; obtain ⟨x0, x1, x2, x3, x4, x5, x6, x7, x8, x9, x10, x11⟩ := HS.out.2.2.1.ed; have gs := HS.out.2.2.1.2.2)
                  | (go_at_call 27; refine (HLF.out _ (HR.out.below (HS.go (by repeat (first | exact Below.refl _ _ | apply Below.drew | apply below_drewN | apply below_al))).out.2.2.2)).mono ?_; rintro e wn ⟨rfl, hb⟩; replace HS := HS.go2 (by repeat (first | exact Below.refl _ _ | apply Below.drew | apply below_drewN | apply below_al)) hb; clear hb; have d0 := HS.out.1.1 0 _ rfl; have d1 := HS.out.1.1 1 _ rfl; have k0 := HS.out.2.1.1 0 _ rfl; have k1 := HS.out.2.1.1 1 _ rfl; have k2 := HS.out.2.1.1 2 _ rfl; have k3 := HS.out.2.1.1 3 _ rfl; have k4 := HS.out.2.1.1 4 _ rfl; obtain ⟨x0, x1, x2, x3, x4, x5, x6, x7, x8, x9, x10, x11⟩ := HS.out.2.2.1.ed; have gs := HS.out.2.2.1.2.2)
                  | (go_at_call 57; refine (HTY.out _).mono ?_; rintro e wn ⟨rfl, hb⟩; replace HS := HS.go2 (by repeat (first | exact Below.refl _ _ | apply Below.drew | apply below_drewN | apply below_al)) hb; clear hb; have d0 := HS.out.1.1 0 _ rfl; have d1 := HS.out.1.1 1 _ rfl; have k0 := HS.out.2.1.1 0 _ rfl; have k1 := HS.out.2.1.1 1 _ rfl; have k2 := HS.out.2.1.1 2 _ rfl; have k3 := HS.out.2.1.1 3 _ rfl; have k4 := HS.out.2.1.1 4 _ rfl; obtain ⟨x0, x1, x2, x3, x4, x5, x6, x7, x8, x9, x10, x11⟩ := HS.out.2.2.1.ed; have gs := HS.out.2.2.1.2.2))
                go_ret
                exact RetEd.bad (by decide) (HS.go (by repeat (first | exact Below.refl _ _ | apply Below.drew | apply below_drewN | apply below_al))).out.2.2.2
              · have HFR : Hid (FromOk rs x) := Lib.hid (.inl ⟨by simpa using p4, lf, hn, hq⟩)
                have e3 := str_eqb hq
                clear hq hn
                generalize lastN rs x.frm = l2 at *
                by_cases t1 : tyR x.ty = 0
                · by_cases t2 : x.cid.2 < 0
                  ·
                    rw [t1] at HTY
                    clear t1
                    go_wp2_with (first
                      | (go_at_call_of 27 (Value.string x.path); refine (HLV.out _ (HR.out.below (HS.go (by repeat (first | exact Below.refl _ _ | apply Below.drew | apply below_drewN | apply below_al))).out.2.2.2)).mono ?_; rintro e wn ⟨rfl, hb⟩; replace HS := HS.go2 (by repeat (first | exact Below.refl _ _ | apply Below.drew | apply below_drewN | apply below_al)) hb; clear hb; have d0 := HS.out.1.1 0 _ rfl; have d1 := HS.out.1.1 1 _ rfl; have k0 := HS.out.2.1.1 0 _ rfl; have k1 := HS.out.2.1.1 1 _ rfl; have k2 := HS.out.2.1.1 2 _ rfl; have k3 := HS.out.2.1.1 3 _ rfl; have k4 := HS.out.2.1.1 4 _ rfl; obtain ⟨x0, x1, x2, x3, x4, x5, x6, x7, x8, x9, x10, x11⟩ := HS.out.2.2.1.ed; have gs := HS.out.2.2.1.2.2)
                      | (go_at_call 27; refine (HLF.out _ (HR.out.below (HS.go (by repeat (first | exact Below.refl _ _ | apply Below.drew | apply below_drewN | apply below_al))).out.2.2.2)).mono ?_; rintro e wn ⟨rfl, hb⟩; replace HS := HS.go2 (by repeat (first | exact Below.refl _ _ | apply Below.drew | apply below_drewN | apply below_al)) hb; clear hb; have d0 := HS.out.1.1 0 _ rfl; have d1 := HS.out.1.1 1 _ rfl; have k0 := HS.out.2.1.1 0 _ rfl; have k1 := HS.out.2.1.1 1 _ rfl; have k2 := HS.out.2.1.1 2 _ rfl; have k3 := HS.out.2.1.1 3 _ rfl; have k4 := HS.out.2.1.1 4 _ rfl; obtain ⟨x0, x1, x2, x3, x4, x5, x6, x7, x8, x9, x10, x11⟩ := HS.out.2.2.1.ed; have gs := HS.out.2.2.1.2.2)
                      | (go_at_call 57; refine (HTY.out _).mono ?_; rintro e wn ⟨rfl, hb⟩; replace HS := HS.go2 (by repeat (first | exact Below.refl _ _ | apply Below.drew | apply below_drewN | apply below_al)) hb; clear hb; have d0 := HS.out.1.1 0 _ rfl; have d1 := HS.out.1.1 1 _ rfl; have k0 := HS.out.2.1.1 0 _ rfl; have k1 := HS.out.2.1.1 1 _ rfl; have k2 := HS.out.2.1.1 2 _ rfl; have k3 := HS.out.2.1.1 3 _ rfl; have k4 := HS.out.2.1.1 4 _ rfl; obtain ⟨x0, x1, x2, x3, x4, x5, x6, x7, x8, x9, x10, x11⟩ := HS.out.2.2.1.ed; have gs := HS.out.2.2.1.2.2))
                    go_ret
                    exact RetEd.bad (by decide) (HS.go (by repeat (first | exact Below.refl _ _ | apply Below.drew | apply below_drewN | apply below_al))).out.2.2.2
                  ·
                    rw [t1] at HTY
                    clear t1
                    have HLT := Lib.hid (fun W h => last_any A B c m d rs x.path W h hrl)
                    unfold RetOR at HLT
                    generalize (lastR rs x.path).isSome = ob at *
                    generalize hv : (lastR rs x.path).getD rv0 = v at *
                    clear hv
                    have HGN := Lib.hid (fun W => gone_any (madeR n x) W)
                    unfold madeR aggR at HGN
                    go_upto_region 21 with (first
                      | (go_at_call_of 27 (Value.string x.path); refine (HLV.out _ (HR.out.below (HS.go (by repeat (first | exact Below.refl _ _ | apply Below.drew | apply below_drewN | apply below_al))).out.2.2.2)).mono ?_; rintro e wn ⟨rfl, hb⟩; replace HS := HS.go2 (by repeat (first | exact Below.refl _ _ | apply Below.drew | apply below_drewN | apply below_al)) hb; clear hb; have d0 := HS.out.1.1 0 _ rfl; have d1 := HS.out.1.1 1 _ rfl; have k0 := HS.out.2.1.1 0 _ rfl; have k1 := HS.out.2.1.1 1 _ rfl; have k2 := HS.out.2.1.1 2 _ rfl; have k3 := HS.out.2.1.1 3 _ rfl; have k4 := HS.out.2.1.1 4 _ rfl; obtain ⟨x0, x1, x2, x3, x4, x5, x6, x7, x8, x9, x10, x11⟩ := HS.out.2.2.1.ed; have gs := HS.out.2.2.1.2.2)
                      | (go_at_call 27; refine (HLF.out _ (HR.out.below (HS.go (by repeat (first | exact Below.refl _ _ | apply Below.drew | apply below_drewN | apply below_al))).out.2.2.2)).mono ?_; rintro e wn ⟨rfl, hb⟩; replace HS := HS.go2 (by repeat (first | exact Below.refl _ _ | apply Below.drew | apply below_drewN | apply below_al)) hb; clear hb; have d0 := HS.out.1.1 0 _ rfl; have d1 := HS.out.1.1 1 _ rfl; have k0 := HS.out.2.1.1 0 _ rfl; have k1 := HS.out.2.1.1 1 _ rfl; have k2 := HS.out.2.1.1 2 _ rfl; have k3 := HS.out.2.1.1 3 _ rfl; have k4 := HS.out.2.1.1 4 _ rfl; obtain ⟨x0, x1, x2, x3, x4, x5, x6, x7, x8, x9, x10, x11⟩ := HS.out.2.2.1.ed; have gs := HS.out.2.2.1.2.2)
                      | (go_at_call 57; refine (HTY.out _).mono ?_; rintro e wn ⟨rfl, hb⟩; replace HS := HS.go2 (by repeat (first | exact Below.refl _ _ | apply Below.drew | apply below_drewN | apply below_al)) hb; clear hb; have d0 := HS.out.1.1 0 _ rfl; have d1 := HS.out.1.1 1 _ rfl; have k0 := HS.out.2.1.1 0 _ rfl; have k1 := HS.out.2.1.1 1 _ rfl; have k2 := HS.out.2.1.1 2 _ rfl; have k3 := HS.out.2.1.1 3 _ rfl; have k4 := HS.out.2.1.1 4 _ rfl; obtain ⟨x0, x1, x2, x3, x4, x5, x6, x7, x8, x9, x10, x11⟩ := HS.out.2.2.1.ed; have gs := HS.out.2.2.1.2.2)
                      | (go_at_call 28; refine (HLT.out _ (HR.out.below (HS.go (by repeat (first | exact Below.refl _ _ | apply Below.drew | apply below_drewN | apply below_al))).out.2.2.2)).mono ?_; rintro e wl ⟨rfl, hb⟩; replace HS := HS.go2 (by repeat (first | exact Below.refl _ _ | apply Below.drew | apply below_drewN | apply below_al)) hb; clear hb; have d0 := HS.out.1.1 0 _ rfl; have d1 := HS.out.1.1 1 _ rfl; have k0 := HS.out.2.1.1 0 _ rfl; have k1 := HS.out.2.1.1 1 _ rfl; have k2 := HS.out.2.1.1 2 _ rfl; have k3 := HS.out.2.1.1 3 _ rfl; have k4 := HS.out.2.1.1 4 _ rfl; obtain ⟨x0, x1, x2, x3, x4, x5, x6, x7, x8, x9, x10, x11⟩ := HS.out.2.2.1.ed; have gs := HS.out.2.2.1.2.2; unfold aggR))
                    have g0 := HS.out.1.2.2
                    have g1 := HS.out.2.1.2.2
                    have HBX : At (fun w' => BX w' wl.heap.size (revV v)) (wl.alloc (.cells (revV v).toArray 40)) := ⟨fun X Y h hb => h.below hb, BX.new wl (revV v) _ rfl⟩
                    obtain ⟨v0, v1, v2, v3, v4, v5, v6, v7, v8, v9, v10, v11⟩ := HBX.out.rev
                    cases hg : goneR (madeR n x) with
                    | false =>
                      unfold madeR at hg
                      rw [hg] at HGN
                      clear hg
                      go_wp2_with (first
                        | (go_at_call 40; refine (made_any n S T _ D es.length ce dr nr x _ HXB.out).mono ?_; rintro e wn ⟨rfl, hb⟩; replace HS := HS.go2 (by repeat (first | exact Below.refl _ _ | apply Below.drew | apply below_drewN | apply below_al)) hb; replace HBX := HBX.go2 (by repeat (first | exact Below.refl _ _ | apply Below.drew | apply below_drewN | apply below_al)) hb; clear hb; have d0 := HS.out.1.1 0 _ rfl; have d1 := HS.out.1.1 1 _ rfl; have k0 := HS.out.2.1.1 0 _ rfl; have k1 := HS.out.2.1.1 1 _ rfl; have k2 := HS.out.2.1.1 2 _ rfl; have k3 := HS.out.2.1.1 3 _ rfl; have k4 := HS.out.2.1.1 4 _ rfl; obtain ⟨x0, x1, x2, x3, x4, x5, x6, x7, x8, x9, x10, x11⟩ := HS.out.2.2.1.ed; have gs := HS.out.2.2.1.2.2; obtain ⟨v0, v1, v2, v3, v4, v5, v6, v7, v8, v9, v10, v11⟩ := HBX.out.rev; unfold madeR aggR)
                        | (go_at_call 44; refine (HGN.out _).mono ?_; rintro e wn ⟨rfl, hb⟩; replace HS := HS.go2 (by repeat (first | exact Below.refl _ _ | apply Below.drew | apply below_drewN | apply below_al)) hb; replace HBX := HBX.go2 (by repeat (first | exact Below.refl _ _ | apply Below.drew | apply below_drewN | apply below_al)) hb; clear hb; have d0 := HS.out.1.1 0 _ rfl; have d1 := HS.out.1.1 1 _ rfl; have k0 := HS.out.2.1.1 0 _ rfl; have k1 := HS.out.2.1.1 1 _ rfl; have k2 := HS.out.2.1.1 2 _ rfl; have k3 := HS.out.2.1.1 3 _ rfl; have k4 := HS.out.2.1.1 4 _ rfl; obtain ⟨x0, x1, x2, x3, x4, x5, x6, x7, x8, x9, x10, x11⟩ := HS.out.2.2.1.ed; have gs := HS.out.2.2.1.2.2; obtain ⟨v0, v1, v2, v3, v4, v5, v6, v7, v8, v9, v10, v11⟩ := HBX.out.rev))
                      go_ret
                      first
                        | exact RetEd.ok (HP.out HAC.out HBS.out HFR.out) (HS.go (by repeat (first | exact Below.refl _ _ | apply Below.drew | apply below_drewN | apply below_al))).out.2.2.2
                        | exact RetEd.bad (by decide) (HS.go (by repeat (first | exact Below.refl _ _ | apply Below.drew | apply below_drewN | apply below_al))).out.2.2.2
                    | true =>
                      unfold madeR at hg
                      rw [hg] at HGN
                      clear hg
                      have hte := fun w => ty_eqd 9998 x.ty.1 v.ty.1 x.ty.2.1 x.ty.2.2.1 x.ty.2.2.2 v.ty.2.1 v.ty.2.2.1 v.ty.2.2.2 w
                      have hce := fun w => cid_eqd 9998 x.cid.1 x.cid.2 0 0 w
                      simp only [show 9998 + 2 = 10000 from rfl] at hte hce
                      generalize (x.ty.1 == v.ty.1 && (x.ty.2.1 == v.ty.2.1 && (x.ty.2.2.1 == v.ty.2.2.1 && x.ty.2.2.2 == v.ty.2.2.2))) = tb at *
                      generalize (x.cid.1 == 0 && x.cid.2 == 0) = cb at *
                      cases tb with
                      | false =>
                        go_wp2_with (first
                          | (go_at_call 40; refine (made_any n S T _ D es.length ce dr nr x _ HXB.out).mono ?_; rintro e wn ⟨rfl, hb⟩; replace HS := HS.go2 (by repeat (first | exact Below.refl _ _ | apply Below.drew | apply below_drewN | apply below_al)) hb; replace HBX := HBX.go2 (by repeat (first | exact Below.refl _ _ | apply Below.drew | apply below_drewN | apply below_al)) hb; clear hb; have d0 := HS.out.1.1 0 _ rfl; have d1 := HS.out.1.1 1 _ rfl; have k0 := HS.out.2.1.1 0 _ rfl; have k1 := HS.out.2.1.1 1 _ rfl; have k2 := HS.out.2.1.1 2 _ rfl; have k3 := HS.out.2.1.1 3 _ rfl; have k4 := HS.out.2.1.1 4 _ rfl; obtain ⟨x0, x1, x2, x3, x4, x5, x6, x7, x8, x9, x10, x11⟩ := HS.out.2.2.1.ed; have gs := HS.out.2.2.1.2.2; obtain ⟨v0, v1, v2, v3, v4, v5, v6, v7, v8, v9, v10, v11⟩ := HBX.out.rev; unfold madeR aggR)
                          | (go_at_call 44; refine (HGN.out _).mono ?_; rintro e wn ⟨rfl, hb⟩; replace HS := HS.go2 (by repeat (first | exact Below.refl _ _ | apply Below.drew | apply below_drewN | apply below_al)) hb; replace HBX := HBX.go2 (by repeat (first | exact Below.refl _ _ | apply Below.drew | apply below_drewN | apply below_al)) hb; clear hb; have d0 := HS.out.1.1 0 _ rfl; have d1 := HS.out.1.1 1 _ rfl; have k0 := HS.out.2.1.1 0 _ rfl; have k1 := HS.out.2.1.1 1 _ rfl; have k2 := HS.out.2.1.1 2 _ rfl; have k3 := HS.out.2.1.1 3 _ rfl; have k4 := HS.out.2.1.1 4 _ rfl; obtain ⟨x0, x1, x2, x3, x4, x5, x6, x7, x8, x9, x10, x11⟩ := HS.out.2.2.1.ed; have gs := HS.out.2.2.1.2.2; obtain ⟨v0, v1, v2, v3, v4, v5, v6, v7, v8, v9, v10, v11⟩ := HBX.out.rev))
                        go_ret
                        first
                          | exact RetEd.ok (HP.out HAC.out HBS.out HFR.out) (HS.go (by repeat (first | exact Below.refl _ _ | apply Below.drew | apply below_drewN | apply below_al))).out.2.2.2
                          | exact RetEd.bad (by decide) (HS.go (by repeat (first | exact Below.refl _ _ | apply Below.drew | apply below_drewN | apply below_al))).out.2.2.2
                      | true =>
                        cases cb with
                        | false =>
                          go_wp2_with (first
                            | (go_at_call 40; refine (made_any n S T _ D es.length ce dr nr x _ HXB.out).mono ?_; rintro e wn ⟨rfl, hb⟩; replace HS := HS.go2 (by repeat (first | exact Below.refl _ _ | apply Below.drew | apply below_drewN | apply below_al)) hb; replace HBX := HBX.go2 (by repeat (first | exact Below.refl _ _ | apply Below.drew | apply below_drewN | apply below_al)) hb; clear hb; have d0 := HS.out.1.1 0 _ rfl; have d1 := HS.out.1.1 1 _ rfl; have k0 := HS.out.2.1.1 0 _ rfl; have k1 := HS.out.2.1.1 1 _ rfl; have k2 := HS.out.2.1.1 2 _ rfl; have k3 := HS.out.2.1.1 3 _ rfl; have k4 := HS.out.2.1.1 4 _ rfl; obtain ⟨x0, x1, x2, x3, x4, x5, x6, x7, x8, x9, x10, x11⟩ := HS.out.2.2.1.ed; have gs := HS.out.2.2.1.2.2; obtain ⟨v0, v1, v2, v3, v4, v5, v6, v7, v8, v9, v10, v11⟩ := HBX.out.rev; unfold madeR aggR)
                            | (go_at_call 44; refine (HGN.out _).mono ?_; rintro e wn ⟨rfl, hb⟩; replace HS := HS.go2 (by repeat (first | exact Below.refl _ _ | apply Below.drew | apply below_drewN | apply below_al)) hb; replace HBX := HBX.go2 (by repeat (first | exact Below.refl _ _ | apply Below.drew | apply below_drewN | apply below_al)) hb; clear hb; have d0 := HS.out.1.1 0 _ rfl; have d1 := HS.out.1.1 1 _ rfl; have k0 := HS.out.2.1.1 0 _ rfl; have k1 := HS.out.2.1.1 1 _ rfl; have k2 := HS.out.2.1.1 2 _ rfl; have k3 := HS.out.2.1.1 3 _ rfl; have k4 := HS.out.2.1.1 4 _ rfl; obtain ⟨x0, x1, x2, x3, x4, x5, x6, x7, x8, x9, x10, x11⟩ := HS.out.2.2.1.ed; have gs := HS.out.2.2.1.2.2; obtain ⟨v0, v1, v2, v3, v4, v5, v6, v7, v8, v9, v10, v11⟩ := HBX.out.rev))
                          go_ret
                          first
                            | exact RetEd.ok (HP.out HAC.out HBS.out HFR.out) (HS.go (by repeat (first | exact Below.refl _ _ | apply Below.drew | apply below_drewN | apply below_al))).out.2.2.2
                            | exact RetEd.bad (by decide) (HS.go (by repeat (first | exact Below.refl _ _ | apply Below.drew | apply below_drewN | apply below_al))).out.2.2.2
                        | true =>
                          go_wp2_with (first
                            | (go_at_call 40; refine (made_any n S T _ D es.length ce dr nr x _ HXB.out).mono ?_; rintro e wn ⟨rfl, hb⟩; replace HS := HS.go2 (by repeat (first | exact Below.refl _ _ | apply Below.drew | apply below_drewN | apply below_al)) hb; replace HBX := HBX.go2 (by repeat (first | exact Below.refl _ _ | apply Below.drew | apply below_drewN | apply below_al)) hb; clear hb; have d0 := HS.out.1.1 0 _ rfl; have d1 := HS.out.1.1 1 _ rfl; have k0 := HS.out.2.1.1 0 _ rfl; have k1 := HS.out.2.1.1 1 _ rfl; have k2 := HS.out.2.1.1 2 _ rfl; have k3 := HS.out.2.1.1 3 _ rfl; have k4 := HS.out.2.1.1 4 _ rfl; obtain ⟨x0, x1, x2, x3, x4, x5, x6, x7, x8, x9, x10, x11⟩ := HS.out.2.2.1.ed; have gs := HS.out.2.2.1.2.2; obtain ⟨v0, v1, v2, v3, v4, v5, v6, v7, v8, v9, v10, v11⟩ := HBX.out.rev; unfold madeR aggR)
                            | (go_at_call 44; refine (HGN.out _).mono ?_; rintro e wn ⟨rfl, hb⟩; replace HS := HS.go2 (by repeat (first | exact Below.refl _ _ | apply Below.drew | apply below_drewN | apply below_al)) hb; replace HBX := HBX.go2 (by repeat (first | exact Below.refl _ _ | apply Below.drew | apply below_drewN | apply below_al)) hb; clear hb; have d0 := HS.out.1.1 0 _ rfl; have d1 := HS.out.1.1 1 _ rfl; have k0 := HS.out.2.1.1 0 _ rfl; have k1 := HS.out.2.1.1 1 _ rfl; have k2 := HS.out.2.1.1 2 _ rfl; have k3 := HS.out.2.1.1 3 _ rfl; have k4 := HS.out.2.1.1 4 _ rfl; obtain ⟨x0, x1, x2, x3, x4, x5, x6, x7, x8, x9, x10, x11⟩ := HS.out.2.2.1.ed; have gs := HS.out.2.2.1.2.2; obtain ⟨v0, v1, v2, v3, v4, v5, v6, v7, v8, v9, v10, v11⟩ := HBX.out.rev))
                          go_ret
                          first
                            | exact RetEd.ok (HP.out HAC.out HBS.out HFR.out) (HS.go (by repeat (first | exact Below.refl _ _ | apply Below.drew | apply below_drewN | apply below_al))).out.2.2.2
                            | exact RetEd.bad (by decide) (HS.go (by repeat (first | exact Below.refl _ _ | apply Below.drew | apply below_drewN | apply below_al))).out.2.2.2
                ·
                  have bt : (tyR x.ty != 0) = true := by simpa using t1
                  generalize tyR x.ty = ty at *
                  clear t1
                  go_wp2_with (first
                    | (go_at_call_of 27 (Value.string x.path); refine (HLV.out _ (HR.out.below (HS.go (by repeat (first | exact Below.refl _ _ | apply Below.drew | apply below_drewN | apply below_al))).out.2.2.2)).mono ?_; rintro e wn ⟨rfl, hb⟩; replace HS := HS.go2 (by repeat (first | exact Below.refl _ _ | apply Below.drew | apply below_drewN | apply below_al)) hb; clear hb; have d0 := HS.out.1.1 0 _ rfl; have d1 := HS.out.1.1 1 _ rfl; have k0 := HS.out.2.1.1 0 _ rfl; have k1 := HS.out.2.1.1 1 _ rfl; have k2 := HS.out.2.1.1 2 _ rfl; have k3 := HS.out.2.1.1 3 _ rfl; have k4 := HS.out.2.1.1 4 _ rfl; obtain ⟨x0, x1, x2, x3, x4, x5, x6, x7, x8, x9, x10, x11⟩ := HS.out.2.2.1.ed; have gs := HS.out.2.2.1.2.2)
                    | (go_at_call 27; refine (HLF.out _ (HR.out.below (HS.go (by repeat (first | exact Below.refl _ _ | apply Below.drew | apply below_drewN | apply below_al))).out.2.2.2)).mono ?_; rintro e wn ⟨rfl, hb⟩; replace HS := HS.go2 (by repeat (first | exact Below.refl _ _ | apply Below.drew | apply below_drewN | apply below_al)) hb; clear hb; have d0 := HS.out.1.1 0 _ rfl; have d1 := HS.out.1.1 1 _ rfl; have k0 := HS.out.2.1.1 0 _ rfl; have k1 := HS.out.2.1.1 1 _ rfl; have k2 := HS.out.2.1.1 2 _ rfl; have k3 := HS.out.2.1.1 3 _ rfl; have k4 := HS.out.2.1.1 4 _ rfl; obtain ⟨x0, x1, x2, x3, x4, x5, x6, x7, x8, x9, x10, x11⟩ := HS.out.2.2.1.ed; have gs := HS.out.2.2.1.2.2)
                    | (go_at_call 57; refine (HTY.out _).mono ?_; rintro e wn ⟨rfl, hb⟩; replace HS := HS.go2 (by repeat (first | exact Below.refl _ _ | apply Below.drew | apply below_drewN | apply below_al)) hb; clear hb; have d0 := HS.out.1.1 0 _ rfl; have d1 := HS.out.1.1 1 _ rfl; have k0 := HS.out.2.1.1 0 _ rfl; have k1 := HS.out.2.1.1 1 _ rfl; have k2 := HS.out.2.1.1 2 _ rfl; have k3 := HS.out.2.1.1 3 _ rfl; have k4 := HS.out.2.1.1 4 _ rfl; obtain ⟨x0, x1, x2, x3, x4, x5, x6, x7, x8, x9, x10, x11⟩ := HS.out.2.2.1.ed; have gs := HS.out.2.2.1.2.2))
                  go_ret
                  exact RetEd.bad (by decide) (HS.go (by repeat (first | exact Below.refl _ _ | apply Below.drew | apply below_drewN | apply below_al))).out.2.2.2
            · have b3 : (lastN rs x.frm != x.fnum) = true := by simpa using hn
              clear hn
              generalize lastN rs x.frm = l2 at *
              go_wp2_with (first
                | (go_at_call_of 27 (Value.string x.path); refine (HLV.out _ (HR.out.below (HS.go (by repeat (first | exact Below.refl _ _ | apply Below.drew | apply below_drewN | apply below_al))).out.2.2.2)).mono ?_; rintro e wn ⟨rfl, hb⟩; replace HS := HS.go2 (by repeat (first | exact Below.refl _ _ | apply Below.drew | apply below_drewN | apply below_al)) hb; clear hb; have d0 := HS.out.1.1 0 _ rfl; have d1 := HS.out.1.1 1 _ rfl; have k0 := HS.out.2.1.1 0 _ rfl; have k1 := HS.out.2.1.1 1 _ rfl; have k2 := HS.out.2.1.1 2 _ rfl; have k3 := HS.out.2.1.1 3 _ rfl; have k4 := HS.out.2.1.1 4 _ rfl; obtain ⟨x0, x1, x2, x3, x4, x5, x6, x7, x8, x9, x10, x11⟩ := HS.out.2.2.1.ed; have gs := HS.out.2.2.1.2.2)
                | (go_at_call 27; refine (HLF.out _ (HR.out.below (HS.go (by repeat (first | exact Below.refl _ _ | apply Below.drew | apply below_drewN | apply below_al))).out.2.2.2)).mono ?_; rintro e wn ⟨rfl, hb⟩; replace HS := HS.go2 (by repeat (first | exact Below.refl _ _ | apply Below.drew | apply below_drewN | apply below_al)) hb; clear hb; have d0 := HS.out.1.1 0 _ rfl; have d1 := HS.out.1.1 1 _ rfl; have k0 := HS.out.2.1.1 0 _ rfl; have k1 := HS.out.2.1.1 1 _ rfl; have k2 := HS.out.2.1.1 2 _ rfl; have k3 := HS.out.2.1.1 3 _ rfl; have k4 := HS.out.2.1.1 4 _ rfl; obtain ⟨x0, x1, x2, x3, x4, x5, x6, x7, x8, x9, x10, x11⟩ := HS.out.2.2.1.ed; have gs := HS.out.2.2.1.2.2)
                | (go_at_call 57; refine (HTY.out _).mono ?_; rintro e wn ⟨rfl, hb⟩; replace HS := HS.go2 (by repeat (first | exact Below.refl _ _ | apply Below.drew | apply below_drewN | apply below_al)) hb; clear hb; have d0 := HS.out.1.1 0 _ rfl; have d1 := HS.out.1.1 1 _ rfl; have k0 := HS.out.2.1.1 0 _ rfl; have k1 := HS.out.2.1.1 1 _ rfl; have k2 := HS.out.2.1.1 2 _ rfl; have k3 := HS.out.2.1.1 3 _ rfl; have k4 := HS.out.2.1.1 4 _ rfl; obtain ⟨x0, x1, x2, x3, x4, x5, x6, x7, x8, x9, x10, x11⟩ := HS.out.2.2.1.ed; have gs := HS.out.2.2.1.2.2))
              go_ret
              exact RetEd.bad (by decide) (HS.go (by repeat (first | exact Below.refl _ _ | apply Below.drew | apply below_drewN | apply below_al))).out.2.2.2
        · have bb : (x.base != lastN rs x.path) = true := by simpa using hb0
          clear hb0
          generalize lastN rs x.path = ln at *
          go_wp2_with (first
            | (go_at_call_of 27 (Value.string x.path); refine (HLV.out _ (HR.out.below (HS.go (by repeat (first | exact Below.refl _ _ | apply Below.drew | apply below_drewN | apply below_al))).out.2.2.2)).mono ?_; rintro e wn ⟨rfl, hb⟩; replace HS := HS.go2 (by repeat (first | exact Below.refl _ _ | apply Below.drew | apply below_drewN | apply below_al)) hb; clear hb; have d0 := HS.out.1.1 0 _ rfl; have d1 := HS.out.1.1 1 _ rfl; have k0 := HS.out.2.1.1 0 _ rfl; have k1 := HS.out.2.1.1 1 _ rfl; have k2 := HS.out.2.1.1 2 _ rfl; have k3 := HS.out.2.1.1 3 _ rfl; have k4 := HS.out.2.1.1 4 _ rfl; obtain ⟨x0, x1, x2, x3, x4, x5, x6, x7, x8, x9, x10, x11⟩ := HS.out.2.2.1.ed; have gs := HS.out.2.2.1.2.2)
            | (go_at_call 27; refine (HLF.out _ (HR.out.below (HS.go (by repeat (first | exact Below.refl _ _ | apply Below.drew | apply below_drewN | apply below_al))).out.2.2.2)).mono ?_; rintro e wn ⟨rfl, hb⟩; replace HS := HS.go2 (by repeat (first | exact Below.refl _ _ | apply Below.drew | apply below_drewN | apply below_al)) hb; clear hb; have d0 := HS.out.1.1 0 _ rfl; have d1 := HS.out.1.1 1 _ rfl; have k0 := HS.out.2.1.1 0 _ rfl; have k1 := HS.out.2.1.1 1 _ rfl; have k2 := HS.out.2.1.1 2 _ rfl; have k3 := HS.out.2.1.1 3 _ rfl; have k4 := HS.out.2.1.1 4 _ rfl; obtain ⟨x0, x1, x2, x3, x4, x5, x6, x7, x8, x9, x10, x11⟩ := HS.out.2.2.1.ed; have gs := HS.out.2.2.1.2.2)
            | (go_at_call 57; refine (HTY.out _).mono ?_; rintro e wn ⟨rfl, hb⟩; replace HS := HS.go2 (by repeat (first | exact Below.refl _ _ | apply Below.drew | apply below_drewN | apply below_al)) hb; clear hb; have d0 := HS.out.1.1 0 _ rfl; have d1 := HS.out.1.1 1 _ rfl; have k0 := HS.out.2.1.1 0 _ rfl; have k1 := HS.out.2.1.1 1 _ rfl; have k2 := HS.out.2.1.1 2 _ rfl; have k3 := HS.out.2.1.1 3 _ rfl; have k4 := HS.out.2.1.1 4 _ rfl; obtain ⟨x0, x1, x2, x3, x4, x5, x6, x7, x8, x9, x10, x11⟩ := HS.out.2.2.1.ed; have gs := HS.out.2.2.1.2.2))
          go_ret
          exact RetEd.bad (by decide) (HS.go (by repeat (first | exact Below.refl _ _ | apply Below.drew | apply below_drewN | apply below_al))).out.2.2.2
    | false =>
      cases lv : liveR rs x.path with
      | false =>
        rw [lv] at HLV
        go_wp2_with (first
          | (go_at_call_of 27 (Value.string x.path); refine (HLV.out _ (HR.out.below (HS.go (by repeat (first | exact Below.refl _ _ | apply Below.drew | apply below_drewN | apply below_al))).out.2.2.2)).mono ?_; rintro e wn ⟨rfl, hb⟩; replace HS := HS.go2 (by repeat (first | exact Below.refl _ _ | apply Below.drew | apply below_drewN | apply below_al)) hb; clear hb; have d0 := HS.out.1.1 0 _ rfl; have d1 := HS.out.1.1 1 _ rfl; have k0 := HS.out.2.1.1 0 _ rfl; have k1 := HS.out.2.1.1 1 _ rfl; have k2 := HS.out.2.1.1 2 _ rfl; have k3 := HS.out.2.1.1 3 _ rfl; have k4 := HS.out.2.1.1 4 _ rfl; obtain ⟨x0, x1, x2, x3, x4, x5, x6, x7, x8, x9, x10, x11⟩ := HS.out.2.2.1.ed; have gs := HS.out.2.2.1.2.2)
          | (go_at_call 27; refine (HLF.out _ (HR.out.below (HS.go (by repeat (first | exact Below.refl _ _ | apply Below.drew | apply below_drewN | apply below_al))).out.2.2.2)).mono ?_; rintro e wn ⟨rfl, hb⟩; replace HS := HS.go2 (by repeat (first | exact Below.refl _ _ | apply Below.drew | apply below_drewN | apply below_al)) hb; clear hb; have d0 := HS.out.1.1 0 _ rfl; have d1 := HS.out.1.1 1 _ rfl; have k0 := HS.out.2.1.1 0 _ rfl; have k1 := HS.out.2.1.1 1 _ rfl; have k2 := HS.out.2.1.1 2 _ rfl; have k3 := HS.out.2.1.1 3 _ rfl; have k4 := HS.out.2.1.1 4 _ rfl; obtain ⟨x0, x1, x2, x3, x4, x5, x6, x7, x8, x9, x10, x11⟩ := HS.out.2.2.1.ed; have gs := HS.out.2.2.1.2.2)
          | (go_at_call 57; refine (HTY.out _).mono ?_; rintro e wn ⟨rfl, hb⟩; replace HS := HS.go2 (by repeat (first | exact Below.refl _ _ | apply Below.drew | apply below_drewN | apply below_al)) hb; clear hb; have d0 := HS.out.1.1 0 _ rfl; have d1 := HS.out.1.1 1 _ rfl; have k0 := HS.out.2.1.1 0 _ rfl; have k1 := HS.out.2.1.1 1 _ rfl; have k2 := HS.out.2.1.1 2 _ rfl; have k3 := HS.out.2.1.1 3 _ rfl; have k4 := HS.out.2.1.1 4 _ rfl; obtain ⟨x0, x1, x2, x3, x4, x5, x6, x7, x8, x9, x10, x11⟩ := HS.out.2.2.1.ed; have gs := HS.out.2.2.1.2.2))
        go_ret
        exact RetEd.bad (by decide) (HS.go (by repeat (first | exact Below.refl _ _ | apply Below.drew | apply below_drewN | apply below_al))).out.2.2.2
      | true =>
        have HAC : Hid (ActOk rs x) := Lib.hid ⟨by omega, by omega, ⟨(fun h => by
          rcases h with h | h
          · rw [h] at p1; cases p1
          · rw [h] at p4; cases p4), (fun h => absurd (lv.symm.trans h) (by decide))⟩⟩
        rw [lv] at HLV
        by_cases hb0 : x.base = lastN rs x.path
        · have HBS : Hid (BaseOk rs x) := Lib.hid hb0
          have HXB : Hid (nearN x.base) := Lib.hid (by rw [hb0]; exact near_last HRN.out x.path)
          have bb : (x.base != lastN rs x.path) = false := by simpa using hb0
          clear hb0
          generalize lastN rs x.path = ln at *
          by_cases s1 : x.frm = ⟨#[]⟩
          · have e1 : x.frm.toList.isEmpty = true := by rw [s1, Lib.toList_data]; rfl
            by_cases s2 : x.fnum = 0
            · have HFR : Hid (FromOk rs x) := Lib.hid (.inr ⟨by simpa using p4, s1, s2⟩)
              have b2 : (x.fnum != 0) = false := by simpa using s2
              clear s1 s2
              by_cases t1 : tyR x.ty = 0
              · by_cases t2 : x.cid.2 < 0
                ·
                  rw [t1] at HTY
                  clear t1
                  go_wp2_with (first
                    | (go_at_call_of 27 (Value.string x.path); refine (HLV.out _ (HR.out.below (HS.go (by repeat (first | exact Below.refl _ _ | apply Below.drew | apply below_drewN | apply below_al))).out.2.2.2)).mono ?_; rintro e wn ⟨rfl, hb⟩; replace HS := HS.go2 (by repeat (first | exact Below.refl _ _ | apply Below.drew | apply below_drewN | apply below_al)) hb; clear hb; have d0 := HS.out.1.1 0 _ rfl; have d1 := HS.out.1.1 1 _ rfl; have k0 := HS.out.2.1.1 0 _ rfl; have k1 := HS.out.2.1.1 1 _ rfl; have k2 := HS.out.2.1.1 2 _ rfl; have k3 := HS.out.2.1.1 3 _ rfl; have k4 := HS.out.2.1.1 4 _ rfl; obtain ⟨x0, x1, x2, x3, x4, x5, x6, x7, x8, x9, x10, x11⟩ := HS.out.2.2.1.ed; have gs := HS.out.2.2.1.2.2)
                    | (go_at_call 27; refine (HLF.out _ (HR.out.below (HS.go (by repeat (first | exact Below.refl _ _ | apply Below.drew | apply below_drewN | apply below_al))).out.2.2.2)).mono ?_; rintro e wn ⟨rfl, hb⟩; replace HS := HS.go2 (by repeat (first | exact Below.refl _ _ | apply Below.drew | apply below_drewN | apply below_al)) hb; clear hb; have d0 := HS.out.1.1 0 _ rfl; have d1 := HS.out.1.1 1 _ rfl; have k0 := HS.out.2.1.1 0 _ rfl; have k1 := HS.out.2.1.1 1 _ rfl; have k2 := HS.out.2.1.1 2 _ rfl; have k3 := HS.out.2.1.1 3 _ rfl; have k4 := HS.out.2.1.1 4 _ rfl; obtain ⟨x0, x1, x2, x3, x4, x5, x6, x7, x8, x9, x10, x11⟩ := HS.out.2.2.1.ed; have gs := HS.out.2.2.1.2.2)
                    | (go_at_call 57; refine (HTY.out _).mono ?_; rintro e wn ⟨rfl, hb⟩; replace HS := HS.go2 (by repeat (first | exact Below.refl _ _ | apply Below.drew | apply below_drewN | apply below_al)) hb; clear hb; have d0 := HS.out.1.1 0 _ rfl; have d1 := HS.out.1.1 1 _ rfl; have k0 := HS.out.2.1.1 0 _ rfl; have k1 := HS.out.2.1.1 1 _ rfl; have k2 := HS.out.2.1.1 2 _ rfl; have k3 := HS.out.2.1.1 3 _ rfl; have k4 := HS.out.2.1.1 4 _ rfl; obtain ⟨x0, x1, x2, x3, x4, x5, x6, x7, x8, x9, x10, x11⟩ := HS.out.2.2.1.ed; have gs := HS.out.2.2.1.2.2))
                  go_ret
                  exact RetEd.bad (by decide) (HS.go (by repeat (first | exact Below.refl _ _ | apply Below.drew | apply below_drewN | apply below_al))).out.2.2.2
                ·
                  rw [t1] at HTY
                  clear t1
                  have HLT := Lib.hid (fun W h => last_any A B c m d rs x.path W h hrl)
                  unfold RetOR at HLT
                  generalize (lastR rs x.path).isSome = ob at *
                  generalize hv : (lastR rs x.path).getD rv0 = v at *
                  clear hv
                  have HGN := Lib.hid (fun W => gone_any (madeR n x) W)
                  unfold madeR aggR at HGN
                  go_upto_region 21 with (first
                    | (go_at_call_of 27 (Value.string x.path); refine (HLV.out _ (HR.out.below (HS.go (by repeat (first | exact Below.refl _ _ | apply Below.drew | apply below_drewN | apply below_al))).out.2.2.2)).mono ?_; rintro e wn ⟨rfl, hb⟩; replace HS := HS.go2 (by repeat (first | exact Below.refl _ _ | apply Below.drew | apply below_drewN | apply below_al)) hb; clear hb; have d0 := HS.out.1.1 0 _ rfl; have d1 := HS.out.1.1 1 _ rfl; have k0 := HS.out.2.1.1 0 _ rfl; have k1 := HS.out.2.1.1 1 _ rfl; have k2 := HS.out.2.1.1 2 _ rfl; have k3 := HS.out.2.1.1 3 _ rfl; have k4 := HS.out.2.1.1 4 _ rfl; obtain ⟨x0, x1, x2, x3, x4, x5, x6, x7, x8, x9, x10, x11⟩ := HS.out.2.2.1.ed; have gs := HS.out.2.2.1.2.2)
                    | (go_at_call 27; refine (HLF.out _ (HR.out.below (HS.go (by repeat (first | exact Below.refl _ _ | apply Below.drew | apply below_drewN | apply below_al))).out.2.2.2)).mono ?_; rintro e wn ⟨rfl, hb⟩; replace HS := HS.go2 (by repeat (first | exact Below.refl _ _ | apply Below.drew | apply below_drewN | apply below_al)) hb; clear hb; have d0 := HS.out.1.1 0 _ rfl; have d1 := HS.out.1.1 1 _ rfl; have k0 := HS.out.2.1.1 0 _ rfl; have k1 := HS.out.2.1.1 1 _ rfl; have k2 := HS.out.2.1.1 2 _ rfl; have k3 := HS.out.2.1.1 3 _ rfl; have k4 := HS.out.2.1.1 4 _ rfl; obtain ⟨x0, x1, x2, x3, x4, x5, x6, x7, x8, x9, x10, x11⟩ := HS.out.2.2.1.ed; have gs := HS.out.2.2.1.2.2)
                    | (go_at_call 57; refine (HTY.out _).mono ?_; rintro e wn ⟨rfl, hb⟩; replace HS := HS.go2 (by repeat (first | exact Below.refl _ _ | apply Below.drew | apply below_drewN | apply below_al)) hb; clear hb; have d0 := HS.out.1.1 0 _ rfl; have d1 := HS.out.1.1 1 _ rfl; have k0 := HS.out.2.1.1 0 _ rfl; have k1 := HS.out.2.1.1 1 _ rfl; have k2 := HS.out.2.1.1 2 _ rfl; have k3 := HS.out.2.1.1 3 _ rfl; have k4 := HS.out.2.1.1 4 _ rfl; obtain ⟨x0, x1, x2, x3, x4, x5, x6, x7, x8, x9, x10, x11⟩ := HS.out.2.2.1.ed; have gs := HS.out.2.2.1.2.2)
                    | (go_at_call 28; refine (HLT.out _ (HR.out.below (HS.go (by repeat (first | exact Below.refl _ _ | apply Below.drew | apply below_drewN | apply below_al))).out.2.2.2)).mono ?_; rintro e wl ⟨rfl, hb⟩; replace HS := HS.go2 (by repeat (first | exact Below.refl _ _ | apply Below.drew | apply below_drewN | apply below_al)) hb; clear hb; have d0 := HS.out.1.1 0 _ rfl; have d1 := HS.out.1.1 1 _ rfl; have k0 := HS.out.2.1.1 0 _ rfl; have k1 := HS.out.2.1.1 1 _ rfl; have k2 := HS.out.2.1.1 2 _ rfl; have k3 := HS.out.2.1.1 3 _ rfl; have k4 := HS.out.2.1.1 4 _ rfl; obtain ⟨x0, x1, x2, x3, x4, x5, x6, x7, x8, x9, x10, x11⟩ := HS.out.2.2.1.ed; have gs := HS.out.2.2.1.2.2; unfold aggR))
                  have g0 := HS.out.1.2.2
                  have g1 := HS.out.2.1.2.2
                  have HBX : At (fun w' => BX w' wl.heap.size (revV v)) (wl.alloc (.cells (revV v).toArray 40)) := ⟨fun X Y h hb => h.below hb, BX.new wl (revV v) _ rfl⟩
                  obtain ⟨v0, v1, v2, v3, v4, v5, v6, v7, v8, v9, v10, v11⟩ := HBX.out.rev
                  cases hg : goneR (madeR n x) with
                  | false =>
                    unfold madeR at hg
                    rw [hg] at HGN
                    clear hg
                    go_wp2_with (first
                      | (go_at_call 40; refine (made_any n S T _ D es.length ce dr nr x _ HXB.out).mono ?_; rintro e wn ⟨rfl, hb⟩; replace HS := HS.go2 (by repeat (first | exact Below.refl _ _ | apply Below.drew | apply below_drewN | apply below_al)) hb; replace HBX := HBX.go2 (by repeat (first | exact Below.refl _ _ | apply Below.drew | apply below_drewN | apply below_al)) hb; clear hb; have d0 := HS.out.1.1 0 _ rfl; have d1 := HS.out.1.1 1 _ rfl; have k0 := HS.out.2.1.1 0 _ rfl; have k1 := HS.out.2.1.1 1 _ rfl; have k2 := HS.out.2.1.1 2 _ rfl; have k3 := HS.out.2.1.1 3 _ rfl; have k4 := HS.out.2.1.1 4 _ rfl; obtain ⟨x0, x1, x2, x3, x4, x5, x6, x7, x8, x9, x10, x11⟩ := HS.out.2.2.1.ed; have gs := HS.out.2.2.1.2.2; obtain ⟨v0, v1, v2, v3, v4, v5, v6, v7, v8, v9, v10, v11⟩ := HBX.out.rev; unfold madeR aggR)
                      | (go_at_call 44; refine (HGN.out _).mono ?_; rintro e wn ⟨rfl, hb⟩; replace HS := HS.go2 (by repeat (first | exact Below.refl _ _ | apply Below.drew | apply below_drewN | apply below_al)) hb; replace HBX := HBX.go2 (by repeat (first | exact Below.refl _ _ | apply Below.drew | apply below_drewN | apply below_al)) hb; clear hb; have d0 := HS.out.1.1 0 _ rfl; have d1 := HS.out.1.1 1 _ rfl; have k0 := HS.out.2.1.1 0 _ rfl; have k1 := HS.out.2.1.1 1 _ rfl; have k2 := HS.out.2.1.1 2 _ rfl; have k3 := HS.out.2.1.1 3 _ rfl; have k4 := HS.out.2.1.1 4 _ rfl; obtain ⟨x0, x1, x2, x3, x4, x5, x6, x7, x8, x9, x10, x11⟩ := HS.out.2.2.1.ed; have gs := HS.out.2.2.1.2.2; obtain ⟨v0, v1, v2, v3, v4, v5, v6, v7, v8, v9, v10, v11⟩ := HBX.out.rev))
                    go_ret
                    first
                      | exact RetEd.ok (HP.out HAC.out HBS.out HFR.out) (HS.go (by repeat (first | exact Below.refl _ _ | apply Below.drew | apply below_drewN | apply below_al))).out.2.2.2
                      | exact RetEd.bad (by decide) (HS.go (by repeat (first | exact Below.refl _ _ | apply Below.drew | apply below_drewN | apply below_al))).out.2.2.2
                  | true =>
                    unfold madeR at hg
                    rw [hg] at HGN
                    clear hg
                    have hte := fun w => ty_eqd 9998 x.ty.1 v.ty.1 x.ty.2.1 x.ty.2.2.1 x.ty.2.2.2 v.ty.2.1 v.ty.2.2.1 v.ty.2.2.2 w
                    have hce := fun w => cid_eqd 9998 x.cid.1 x.cid.2 0 0 w
                    simp only [show 9998 + 2 = 10000 from rfl] at hte hce
                    generalize (x.ty.1 == v.ty.1 && (x.ty.2.1 == v.ty.2.1 && (x.ty.2.2.1 == v.ty.2.2.1 && x.ty.2.2.2 == v.ty.2.2.2))) = tb at *
                    generalize (x.cid.1 == 0 && x.cid.2 == 0) = cb at *
                    cases tb with
                    | false =>
                      go_wp2_with (first
                        | (go_at_call 40; refine (made_any n S T _ D es.length ce dr nr x _ HXB.out).mono ?_; rintro e wn ⟨rfl, hb⟩; replace HS := HS.go2 (by repeat (first | exact Below.refl _ _ | apply Below.drew | apply below_drewN | apply below_al)) hb; replace HBX := HBX.go2 (by repeat (first | exact Below.refl _ _ | apply Below.drew | apply below_drewN | apply below_al)) hb; clear hb; have d0 := HS.out.1.1 0 _ rfl; have d1 := HS.out.1.1 1 _ rfl; have k0 := HS.out.2.1.1 0 _ rfl; have k1 := HS.out.2.1.1 1 _ rfl; have k2 := HS.out.2.1.1 2 _ rfl; have k3 := HS.out.2.1.1 3 _ rfl; have k4 := HS.out.2.1.1 4 _ rfl; obtain ⟨x0, x1, x2, x3, x4, x5, x6, x7, x8, x9, x10, x11⟩ := HS.out.2.2.1.ed; have gs := HS.out.2.2.1.2.2; obtain ⟨v0, v1, v2, v3, v4, v5, v6, v7, v8, v9, v10, v11⟩ := HBX.out.rev; unfold madeR aggR)
                        | (go_at_call 44; refine (HGN.out _).mono ?_; rintro e wn ⟨rfl, hb⟩; replace HS := HS.go2 (by repeat (first | exact Below.refl _ _ | apply Below.drew | apply below_drewN | apply below_al)) hb; replace HBX := HBX.go2 (by repeat (first | exact Below.refl _ _ | apply Below.drew | apply below_drewN | apply below_al)) hb; clear hb; have d0 := HS.out.1.1 0 _ rfl; have d1 := HS.out.1.1 1 _ rfl; have k0 := HS.out.2.1.1 0 _ rfl; have k1 := HS.out.2.1.1 1 _ rfl; have k2 := HS.out.2.1.1 2 _ rfl; have k3 := HS.out.2.1.1 3 _ rfl; have k4 := HS.out.2.1.1 4 _ rfl; obtain ⟨x0, x1, x2, x3, x4, x5, x6, x7, x8, x9, x10, x11⟩ := HS.out.2.2.1.ed; have gs := HS.out.2.2.1.2.2; obtain ⟨v0, v1, v2, v3, v4, v5, v6, v7, v8, v9, v10, v11⟩ := HBX.out.rev))
                      go_ret
                      first
                        | exact RetEd.ok (HP.out HAC.out HBS.out HFR.out) (HS.go (by repeat (first | exact Below.refl _ _ | apply Below.drew | apply below_drewN | apply below_al))).out.2.2.2
                        | exact RetEd.bad (by decide) (HS.go (by repeat (first | exact Below.refl _ _ | apply Below.drew | apply below_drewN | apply below_al))).out.2.2.2
                    | true =>
                      cases cb with
                      | false =>
                        go_wp2_with (first
                          | (go_at_call 40; refine (made_any n S T _ D es.length ce dr nr x _ HXB.out).mono ?_; rintro e wn ⟨rfl, hb⟩; replace HS := HS.go2 (by repeat (first | exact Below.refl _ _ | apply Below.drew | apply below_drewN | apply below_al)) hb; replace HBX := HBX.go2 (by repeat (first | exact Below.refl _ _ | apply Below.drew | apply below_drewN | apply below_al)) hb; clear hb; have d0 := HS.out.1.1 0 _ rfl; have d1 := HS.out.1.1 1 _ rfl; have k0 := HS.out.2.1.1 0 _ rfl; have k1 := HS.out.2.1.1 1 _ rfl; have k2 := HS.out.2.1.1 2 _ rfl; have k3 := HS.out.2.1.1 3 _ rfl; have k4 := HS.out.2.1.1 4 _ rfl; obtain ⟨x0, x1, x2, x3, x4, x5, x6, x7, x8, x9, x10, x11⟩ := HS.out.2.2.1.ed; have gs := HS.out.2.2.1.2.2; obtain ⟨v0, v1, v2, v3, v4, v5, v6, v7, v8, v9, v10, v11⟩ := HBX.out.rev; unfold madeR aggR)
                          | (go_at_call 44; refine (HGN.out _).mono ?_; rintro e wn ⟨rfl, hb⟩; replace HS := HS.go2 (by repeat (first | exact Below.refl _ _ | apply Below.drew | apply below_drewN | apply below_al)) hb; replace HBX := HBX.go2 (by repeat (first | exact Below.refl _ _ | apply Below.drew | apply below_drewN | apply below_al)) hb; clear hb; have d0 := HS.out.1.1 0 _ rfl; have d1 := HS.out.1.1 1 _ rfl; have k0 := HS.out.2.1.1 0 _ rfl; have k1 := HS.out.2.1.1 1 _ rfl; have k2 := HS.out.2.1.1 2 _ rfl; have k3 := HS.out.2.1.1 3 _ rfl; have k4 := HS.out.2.1.1 4 _ rfl; obtain ⟨x0, x1, x2, x3, x4, x5, x6, x7, x8, x9, x10, x11⟩ := HS.out.2.2.1.ed; have gs := HS.out.2.2.1.2.2; obtain ⟨v0, v1, v2, v3, v4, v5, v6, v7, v8, v9, v10, v11⟩ := HBX.out.rev))
                        go_ret
                        first
                          | exact RetEd.ok (HP.out HAC.out HBS.out HFR.out) (HS.go (by repeat (first | exact Below.refl _ _ | apply Below.drew | apply below_drewN | apply below_al))).out.2.2.2
                          | exact RetEd.bad (by decide) (HS.go (by repeat (first | exact Below.refl _ _ | apply Below.drew | apply below_drewN | apply below_al))).out.2.2.2
                      | true =>
                        go_wp2_with (first
                          | (go_at_call 40; refine (made_any n S T _ D es.length ce dr nr x _ HXB.out).mono ?_; rintro e wn ⟨rfl, hb⟩; replace HS := HS.go2 (by repeat (first | exact Below.refl _ _ | apply Below.drew | apply below_drewN | apply below_al)) hb; replace HBX := HBX.go2 (by repeat (first | exact Below.refl _ _ | apply Below.drew | apply below_drewN | apply below_al)) hb; clear hb; have d0 := HS.out.1.1 0 _ rfl; have d1 := HS.out.1.1 1 _ rfl; have k0 := HS.out.2.1.1 0 _ rfl; have k1 := HS.out.2.1.1 1 _ rfl; have k2 := HS.out.2.1.1 2 _ rfl; have k3 := HS.out.2.1.1 3 _ rfl; have k4 := HS.out.2.1.1 4 _ rfl; obtain ⟨x0, x1, x2, x3, x4, x5, x6, x7, x8, x9, x10, x11⟩ := HS.out.2.2.1.ed; have gs := HS.out.2.2.1.2.2; obtain ⟨v0, v1, v2, v3, v4, v5, v6, v7, v8, v9, v10, v11⟩ := HBX.out.rev; unfold madeR aggR)
                          | (go_at_call 44; refine (HGN.out _).mono ?_; rintro e wn ⟨rfl, hb⟩; replace HS := HS.go2 (by repeat (first | exact Below.refl _ _ | apply Below.drew | apply below_drewN | apply below_al)) hb; replace HBX := HBX.go2 (by repeat (first | exact Below.refl _ _ | apply Below.drew | apply below_drewN | apply below_al)) hb; clear hb; have d0 := HS.out.1.1 0 _ rfl; have d1 := HS.out.1.1 1 _ rfl; have k0 := HS.out.2.1.1 0 _ rfl; have k1 := HS.out.2.1.1 1 _ rfl; have k2 := HS.out.2.1.1 2 _ rfl; have k3 := HS.out.2.1.1 3 _ rfl; have k4 := HS.out.2.1.1 4 _ rfl; obtain ⟨x0, x1, x2, x3, x4, x5, x6, x7, x8, x9, x10, x11⟩ := HS.out.2.2.1.ed; have gs := HS.out.2.2.1.2.2; obtain ⟨v0, v1, v2, v3, v4, v5, v6, v7, v8, v9, v10, v11⟩ := HBX.out.rev))
                        go_ret
                        first
                          | exact RetEd.ok (HP.out HAC.out HBS.out HFR.out) (HS.go (by repeat (first | exact Below.refl _ _ | apply Below.drew | apply below_drewN | apply below_al))).out.2.2.2
                          | exact RetEd.bad (by decide) (HS.go (by repeat (first | exact Below.refl _ _ | apply Below.drew | apply below_drewN | apply below_al))).out.2.2.2
              ·
                have bt : (tyR x.ty != 0) = true := by simpa using t1
                generalize tyR x.ty = ty at *
                clear t1
                go_wp2_with (first
                  | (go_at_call_of 27 (Value.string x.path); refine (HLV.out _ (HR.out.below (HS.go (by repeat (first | exact Below.refl _ _ | apply Below.drew | apply below_drewN | apply below_al))).out.2.2.2)).mono ?_; rintro e wn ⟨rfl, hb⟩; replace HS := HS.go2 (by repeat (first | exact Below.refl _ _ | apply Below.drew | apply below_drewN | apply below_al)) hb; clear hb; have d0 := HS.out.1.1 0 _ rfl; have d1 := HS.out.1.1 1 _ rfl; have k0 := HS.out.2.1.1 0 _ rfl; have k1 := HS.out.2.1.1 1 _ rfl; have k2 := HS.out.2.1.1 2 _ rfl; have k3 := HS.out.2.1.1 3 _ rfl; have k4 := HS.out.2.1.1 4 _ rfl; obtain ⟨x0, x1, x2, x3, x4, x5, x6, x7, x8, x9, x10, x11⟩ := HS.out.2.2.1.ed; have gs := HS.out.2.2.1.2.2)
                  | (go_at_call 27; refine (HLF.out _ (HR.out.below (HS.go (by repeat (first | exact Below.refl _ _ | apply Below.drew | apply below_drewN | apply below_al))).out.2.2.2)).mono ?_; rintro e wn ⟨rfl, hb⟩; replace HS := HS.go2 (by repeat (first | exact Below.refl _ _ | apply Below.drew | apply below_drewN | apply below_al)) hb; clear hb; have d0 := HS.out.1.1 0 _ rfl; have d1 := HS.out.1.1 1 _ rfl; have k0 := HS.out.2.1.1 0 _ rfl; have k1 := HS.out.2.1.1 1 _ rfl; have k2 := HS.out.2.1.1 2 _ rfl; have k3 := HS.out.2.1.1 3 _ rfl; have k4 := HS.out.2.1.1 4 _ rfl; obtain ⟨x0, x1, x2, x3, x4, x5, x6, x7, x8, x9, x10, x11⟩ := HS.out.2.2.1.ed; have gs := HS.out.2.2.1.2.2)
                  | (go_at_call 57; refine (HTY.out _).mono ?_; rintro e wn ⟨rfl, hb⟩; replace HS := HS.go2 (by repeat (first | exact Below.refl _ _ | apply Below.drew | apply below_drewN | apply below_al)) hb; clear hb; have d0 := HS.out.1.1 0 _ rfl; have d1 := HS.out.1.1 1 _ rfl; have k0 := HS.out.2.1.1 0 _ rfl; have k1 := HS.out.2.1.1 1 _ rfl; have k2 := HS.out.2.1.1 2 _ rfl; have k3 := HS.out.2.1.1 3 _ rfl; have k4 := HS.out.2.1.1 4 _ rfl; obtain ⟨x0, x1, x2, x3, x4, x5, x6, x7, x8, x9, x10, x11⟩ := HS.out.2.2.1.ed; have gs := HS.out.2.2.1.2.2))
                go_ret
                exact RetEd.bad (by decide) (HS.go (by repeat (first | exact Below.refl _ _ | apply Below.drew | apply below_drewN | apply below_al))).out.2.2.2
            · have b2 : (x.fnum != 0) = true := by simpa using s2
              clear s1 s2
              go_wp2_with (first
                | (go_at_call_of 27 (Value.string x.path); refine (HLV.out _ (HR.out.below (HS.go (by repeat (first | exact Below.refl _ _ | apply Below.drew | apply below_drewN | apply below_al))).out.2.2.2)).mono ?_; rintro e wn ⟨rfl, hb⟩; replace HS := HS.go2 (by repeat (first | exact Below.refl _ _ | apply Below.drew | apply below_drewN | apply below_al)) hb; clear hb; have d0 := HS.out.1.1 0 _ rfl; have d1 := HS.out.1.1 1 _ rfl; have k0 := HS.out.2.1.1 0 _ rfl; have k1 := HS.out.2.1.1 1 _ rfl; have k2 := HS.out.2.1.1 2 _ rfl; have k3 := HS.out.2.1.1 3 _ rfl; have k4 := HS.out.2.1.1 4 _ rfl; obtain ⟨x0, x1, x2, x3, x4, x5, x6, x7, x8, x9, x10, x11⟩ := HS.out.2.2.1.ed; have gs := HS.out.2.2.1.2.2)
                | (go_at_call 27; refine (HLF.out _ (HR.out.below (HS.go (by repeat (first | exact Below.refl _ _ | apply Below.drew | apply below_drewN | apply below_al))).out.2.2.2)).mono ?_; rintro e wn ⟨rfl, hb⟩; replace HS := HS.go2 (by repeat (first | exact Below.refl _ _ | apply Below.drew | apply below_drewN | apply below_al)) hb; clear hb; have d0 := HS.out.1.1 0 _ rfl; have d1 := HS.out.1.1 1 _ rfl; have k0 := HS.out.2.1.1 0 _ rfl; have k1 := HS.out.2.1.1 1 _ rfl; have k2 := HS.out.2.1.1 2 _ rfl; have k3 := HS.out.2.1.1 3 _ rfl; have k4 := HS.out.2.1.1 4 _ rfl; obtain ⟨x0, x1, x2, x3, x4, x5, x6, x7, x8, x9, x10, x11⟩ := HS.out.2.2.1.ed; have gs := HS.out.2.2.1.2.2)
                | (go_at_call 57; refine (HTY.out _).mono ?_; rintro e wn ⟨rfl, hb⟩; replace HS := HS.go2 (by repeat (first | exact Below.refl _ _ | apply Below.drew | apply below_drewN | apply below_al)) hb; clear hb; have d0 := HS.out.1.1 0 _ rfl; have d1 := HS.out.1.1 1 _ rfl; have k0 := HS.out.2.1.1 0 _ rfl; have k1 := HS.out.2.1.1 1 _ rfl; have k2 := HS.out.2.1.1 2 _ rfl; have k3 := HS.out.2.1.1 3 _ rfl; have k4 := HS.out.2.1.1 4 _ rfl; obtain ⟨x0, x1, x2, x3, x4, x5, x6, x7, x8, x9, x10, x11⟩ := HS.out.2.2.1.ed; have gs := HS.out.2.2.1.2.2))
              go_ret
              exact RetEd.bad (by decide) (HS.go (by repeat (first | exact Below.refl _ _ | apply Below.drew | apply below_drewN | apply below_al))).out.2.2.2
          · have e1 : x.frm.toList.isEmpty = false := bytes_ne (by
              rcases Nat.eq_zero_or_pos x.frm.size with h0 | h0
              · exfalso
                apply s1
                rw [← mkB_back x.frm, bytes_nil h0]
                rfl
              · exact h0)
            clear s1
            go_wp2_with (first
              | (go_at_call_of 27 (Value.string x.path); refine (HLV.out _ (HR.out.below (HS.go (by repeat (first | exact Below.refl _ _ | apply Below.drew | apply below_drewN | apply below_al))).out.2.2.2)).mono ?_; rintro e wn ⟨rfl, hb⟩; replace HS := HS.go2 (by repeat (first | exact Below.refl _ _ | apply Below.drew | apply below_drewN | apply below_al)) hb; clear hb; have d0 := HS.out.1.1 0 _ rfl; have d1 := HS.out.1.1 1 _ rfl; have k0 := HS.out.2.1.1 0 _ rfl; have k1 := HS.out.2.1.1 1 _ rfl; have k2 := HS.out.2.1.1 2 _ rfl; have k3 := HS.out.2.1.1 3 _ rfl; have k4 := HS.out.2.1.1 4 _ rfl; obtain ⟨x0, x1, x2, x3, x4, x5, x6, x7, x8, x9, x10, x11⟩ := HS.out.2.2.1.ed; have gs := HS.out.2.2.1.2.2)
              | (go_at_call 27; refine (HLF.out _ (HR.out.below (HS.go (by repeat (first | exact Below.refl _ _ | apply Below.drew | apply below_drewN | apply below_al))).out.2.2.2)).mono ?_; rintro e wn ⟨rfl, hb⟩; replace HS := HS.go2 (by repeat (first | exact Below.refl _ _ | apply Below.drew | apply below_drewN | apply below_al)) hb; clear hb; have d0 := HS.out.1.1 0 _ rfl; have d1 := HS.out.1.1 1 _ rfl; have k0 := HS.out.2.1.1 0 _ rfl; have k1 := HS.out.2.1.1 1 _ rfl; have k2 := HS.out.2.1.1 2 _ rfl; have k3 := HS.out.2.1.1 3 _ rfl; have k4 := HS.out.2.1.1 4 _ rfl; obtain ⟨x0, x1, x2, x3, x4, x5, x6, x7, x8, x9, x10, x11⟩ := HS.out.2.2.1.ed; have gs := HS.out.2.2.1.2.2)
              | (go_at_call 57; refine (HTY.out _).mono ?_; rintro e wn ⟨rfl, hb⟩; replace HS := HS.go2 (by repeat (first | exact Below.refl _ _ | apply Below.drew | apply below_drewN | apply below_al)) hb; clear hb; have d0 := HS.out.1.1 0 _ rfl; have d1 := HS.out.1.1 1 _ rfl; have k0 := HS.out.2.1.1 0 _ rfl; have k1 := HS.out.2.1.1 1 _ rfl; have k2 := HS.out.2.1.1 2 _ rfl; have k3 := HS.out.2.1.1 3 _ rfl; have k4 := HS.out.2.1.1 4 _ rfl; obtain ⟨x0, x1, x2, x3, x4, x5, x6, x7, x8, x9, x10, x11⟩ := HS.out.2.2.1.ed; have gs := HS.out.2.2.1.2.2))
            go_ret
            exact RetEd.bad (by decide) (HS.go (by repeat (first | exact Below.refl _ _ | apply Below.drew | apply below_drewN | apply below_al))).out.2.2.2
        · have bb : (x.base != lastN rs x.path) = true := by simpa using hb0
          clear hb0
          generalize lastN rs x.path = ln at *
          go_wp2_with (first
            | (go_at_call_of 27 (Value.string x.path); refine (HLV.out _ (HR.out.below (HS.go (by repeat (first | exact Below.refl _ _ | apply Below.drew | apply below_drewN | apply below_al))).out.2.2.2)).mono ?_; rintro e wn ⟨rfl, hb⟩; replace HS := HS.go2 (by repeat (first | exact Below.refl _ _ | apply Below.drew | apply below_drewN | apply below_al)) hb; clear hb; have d0 := HS.out.1.1 0 _ rfl; have d1 := HS.out.1.1 1 _ rfl; have k0 := HS.out.2.1.1 0 _ rfl; have k1 := HS.out.2.1.1 1 _ rfl; have k2 := HS.out.2.1.1 2 _ rfl; have k3 := HS.out.2.1.1 3 _ rfl; have k4 := HS.out.2.1.1 4 _ rfl; obtain ⟨x0, x1, x2, x3, x4, x5, x6, x7, x8, x9, x10, x11⟩ := HS.out.2.2.1.ed; have gs := HS.out.2.2.1.2.2)
            | (go_at_call 27; refine (HLF.out _ (HR.out.below (HS.go (by repeat (first | exact Below.refl _ _ | apply Below.drew | apply below_drewN | apply below_al))).out.2.2.2)).mono ?_; rintro e wn ⟨rfl, hb⟩; replace HS := HS.go2 (by repeat (first | exact Below.refl _ _ | apply Below.drew | apply below_drewN | apply below_al)) hb; clear hb; have d0 := HS.out.1.1 0 _ rfl; have d1 := HS.out.1.1 1 _ rfl; have k0 := HS.out.2.1.1 0 _ rfl; have k1 := HS.out.2.1.1 1 _ rfl; have k2 := HS.out.2.1.1 2 _ rfl; have k3 := HS.out.2.1.1 3 _ rfl; have k4 := HS.out.2.1.1 4 _ rfl; obtain ⟨x0, x1, x2, x3, x4, x5, x6, x7, x8, x9, x10, x11⟩ := HS.out.2.2.1.ed; have gs := HS.out.2.2.1.2.2)
            | (go_at_call 57; refine (HTY.out _).mono ?_; rintro e wn ⟨rfl, hb⟩; replace HS := HS.go2 (by repeat (first | exact Below.refl _ _ | apply Below.drew | apply below_drewN | apply below_al)) hb; clear hb; have d0 := HS.out.1.1 0 _ rfl; have d1 := HS.out.1.1 1 _ rfl; have k0 := HS.out.2.1.1 0 _ rfl; have k1 := HS.out.2.1.1 1 _ rfl; have k2 := HS.out.2.1.1 2 _ rfl; have k3 := HS.out.2.1.1 3 _ rfl; have k4 := HS.out.2.1.1 4 _ rfl; obtain ⟨x0, x1, x2, x3, x4, x5, x6, x7, x8, x9, x10, x11⟩ := HS.out.2.2.1.ed; have gs := HS.out.2.2.1.2.2))
          go_ret
          exact RetEd.bad (by decide) (HS.go (by repeat (first | exact Below.refl _ _ | apply Below.drew | apply below_drewN | apply below_al))).out.2.2.2
end Go.Proofs.YteagecjhpfijjaaDoor

