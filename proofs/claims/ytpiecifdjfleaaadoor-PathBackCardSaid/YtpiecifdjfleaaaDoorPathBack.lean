/-
  PathBack returns true.
-/
import Derived.Test.YtpiecifdjfleaaaDoorPathPieces
import Derived.Test.YtpiecifdjfleaaaDoorPathNeighbours
namespace Go.Proofs.YtpiecifdjfleaaaDoor
set_option linter.unusedSimpArgs false
set_option linter.unusedVariables false
open Go.RowKit
open Pm

theorem joinOk_comps {s : ByteArray} (h : pathOk s.data.toList = true) : joinOk (compsB s) = true := by
  have := (pathOk_iff s).1 h
  unfold joinOk
  rw [decide_eq_true this.2, Bool.true_and]
  have h2 := this.1
  unfold dirOk at h2
  rw [Bool.and_eq_true, comps_all] at h2
  exact h2.2
theorem joinB_comps {s : ByteArray} (h : pathOk s.data.toList = true) : joinB (compsB s) = s := by
  have e : datj (compsB s) = sp (s.data.toList.drop 2) := by
    unfold datj compsB spB
    rw [List.map_map]
    conv => rhs; rw [← List.map_id (sp _)]
    exact List.map_congr_left fun x _ => mkB_data x
  unfold joinB joinL
  rw [e, join_sp, ← path_head h, mkB_back]
theorem comps_join_le {s : ByteArray} (h : pathOk s.data.toList = true) : (Lib.join (datj (compsB s)) [47]).length ≤ s.size := by
  have h2 : (joinB (compsB s)).size = s.size := by rw [joinB_comps h]
  unfold joinB joinL at h2
  rw [mkB_size] at h2
  simp only [List.length_cons] at h2
  omega
theorem under_own {s : ByteArray} (h : pathOk s.data.toList = true) : underV (parentB s) s = true ∧ underE (parentB s) s = 0 := by
  obtain ⟨xs, n, hcs, hnm, hpar, hdir, hcp, hcomp, hcat, hne⟩ := pieces h
  unfold underV underE
  rw [hdir, h, hcp, hcs]
  refine ⟨?_, by simp⟩
  unfold underB
  simp
theorem cat_own {s : ByteArray} (h : pathOk s.data.toList = true) : parentB s ++ ⟨#[47]⟩ ++ nameB s = s := by
  obtain ⟨xs, n, hcs, hnm, hpar, hdir, hcp, hcomp, hcat, hne⟩ := pieces h
  have ext : ∀ x y : ByteArray, x.data.toList = y.data.toList → x = y := fun x y e => by rw [← mkB_back x, ← mkB_back y, e]
  refine ext _ _ ?_
  rw [ByteArray.data_append, Array.toList_append, ByteArray.data_append, Array.toList_append, List.append_assoc]
  exact hcat

set_option maxHeartbeats 4000000 in
set_option maxRecDepth 100000 in
theorem pathBack_any (a : ByteArray) (w : World) (ha : a.size ≤ maxLen) (hsh : w.ShapedOpen Tryd.prog) :
    Calls Tryd.prog 9 #[.string a] w fun e w' => e = .returned (.bool true) ∧ Below w.heap.size w w' := by
  unfold maxLen at ha
  have HM := Lib.hid (ML.of hsh)
  clear hsh
  rcases Nat.lt_or_ge 400 a.size with h1 | h1
  · go_enter Tryd.func9, Tryd.ntmps9
    go_wp2_with (first
      | (go_at_call 10; refine (long_any _ _ (by omega)).mono ?_; rintro e w' ⟨rfl, rfl⟩)
      | (go_at_call 11; refine (awake_any _).mono ?_; rintro e w' ⟨rfl, hbl⟩))
    go_ret
    exact ⟨rfl, hbl⟩
  cases hv : pathOk a.data.toList with
  | false =>
    go_enter Tryd.func9, Tryd.ntmps9
    go_wp2_with (first
      | (go_at_call 10; refine (long_any _ _ (by omega)).mono ?_; rintro e w' ⟨rfl, rfl⟩)
      | (go_at_call 13; refine (valid_any _ _ (by omega)).mono ?_; rintro e w' ⟨rfl, rfl⟩)
      | (go_at_call 11; refine (awake_any _).mono ?_; rintro e w' ⟨rfl, hbl⟩))
    go_ret
    exact ⟨rfl, hbl⟩
  | true =>
    have c1 := fun W => parent_any a W (by omega)
    have c2 := fun W => name_any a W (by omega)
    rw [hv] at c1 c2
    simp only [if_true] at c1 c2
    have C1 := Lib.hid c1
    have C2 := Lib.hid c2
    have hlc := compsB_len a
    have HS := Lib.hid (psplit_yes a w (by omega) HM.out hv)
    have HJ := Lib.hid (fun (A : Option Addr) c W (h : RT W A c (compsB a)) => by
      have := pjoin_any A c (compsB a) W h (by omega) (by have := comps_join_le hv; omega) (fun x hx => by have := compsB_size a x hx; omega)
      rw [joinOk_comps hv, joinB_comps hv] at this
      simpa only [if_true] using this)
    have HU := Lib.hid (under_own hv)
    have hps : (parentB a).size ≤ 400 := by have := piece_size a 0 (lastI a); have : (parentB a).size ≤ a.size := this; omega
    have hns : (nameB a).size ≤ 400 := by have := nameB_size a; omega
    have hcm : comp (nameB a).data.toList = true := by
      obtain ⟨xs, n, hcs, hnm, hpar, hdir, hcp, hcomp, hcat, hne⟩ := pieces hv
      rw [hnm]
      exact hcomp
    have HUC := Lib.hid (fun W (k : ML W) => by
      have := under_any (parentB a) a W (by omega) (by omega) k
      rw [HU.out.1, HU.out.2] at this
      exact this)
    have HC := Lib.hid (cat_own hv)
    clear c1 c2
    generalize parentB a = dir at *
    generalize nameB a = nm at *
    go_enter Tryd.func9, Tryd.ntmps9
    go_wp2_with (first
      | (go_at_call 10; refine (long_any _ _ (by omega)).mono ?_; rintro e w' ⟨rfl, rfl⟩)
      | (go_at_call 13; refine (valid_any _ _ (by omega)).mono ?_; rintro e w' ⟨rfl, rfl⟩))
    refine HS.out.mono ?_
    rintro e w1 ⟨A, c, rfl, hr, hb1⟩
    have HR := Lib.hid hr
    clear hr
    go_wp2_with fail
    refine (HJ.out A c w1 HR.out).mono ?_
    rintro e w2 ⟨rfl, hb2⟩
    have HB2 := Lib.hid (hb1.trans (hb2.mono hb1.size))
    clear hb1 hb2
    go_wp2_with (first
      | (go_at_call 23; refine (C1.out _).mono ?_; rintro e w' ⟨rfl, rfl⟩)
      | (go_at_call 24; refine (C2.out _).mono ?_; rintro e w' ⟨rfl, rfl⟩))
    refine (HUC.out w2 (HM.out.below HB2.out)).mono ?_
    rintro e w3 ⟨rfl, hb3⟩
    have HB3 := Lib.hid (HB2.out.trans (hb3.mono HB2.out.size))
    clear hb3
    go_wp2_with (first
      | (go_at_call 14; refine (component_any _ _ (by omega)).mono ?_; rintro e w' ⟨rfl, rfl⟩)
      | (go_at_call 11; refine (awake_any _).mono ?_; rintro e w4 ⟨rfl, hb4⟩))
    all_goals first
      | (go_ret; exact ⟨rfl, HB3.out.trans (hb4.mono HB3.out.size)⟩)
      | (exfalso
         have hne : ¬ (dir ++ (⟨#[47]⟩ : ByteArray) ++ nm).toList = a.toList := by assumption
         exact hne (by rw [HC.out]))
end Go.Proofs.YtpiecifdjfleaaaDoor
