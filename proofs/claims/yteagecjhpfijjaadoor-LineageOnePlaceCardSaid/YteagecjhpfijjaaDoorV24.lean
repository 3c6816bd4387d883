/-
  The walks of the reference's Line and Lines.
-/
import Derived.Test.YteagecjhpfijjaaDoorV14
import Derived.Test.YteagecjhpfijjaaDoorV16
import Derived.Test.YteagecjhpfijjaaDoorW2
import Derived.Deep.RegionHeld3
namespace Go.Proofs.YteagecjhpfijjaaDoor
set_option linter.unusedSimpArgs false
set_option linter.unusedVariables false
open Go.RowKit

theorem reads5 {w' : World} {g0 gv g5 : Nat} {a0 a1 f0 f1 : Value} {v : Rv} (a : w'.cell? ⟨g0, 0, none⟩ = some a0 ∧ w'.cell? ⟨g0, 1, none⟩ = some a1) (b : At12 w' gv 0 v) (c : w'.cell? ⟨g5, 0, none⟩ = some f0 ∧ w'.cell? ⟨g5, 1, none⟩ = some f1) :
    w'.cell? ⟨g0, 0, none⟩ = some (a0) ∧ w'.cell? ⟨g0, 1, none⟩ = some (a1) ∧ w'.cell? ⟨gv, 0, none⟩ = some (.string v.path) ∧ w'.cell? ⟨gv, 1, none⟩ = some (.int .i64 v.num) ∧ w'.cell? ⟨gv, 2, none⟩ = some (.int .i64 v.chg) ∧ w'.cell? ⟨gv, 3, none⟩ = some (.int .i64 v.act) ∧ w'.cell? ⟨gv, 4, none⟩ = some (.int .i64 v.ty.1) ∧ w'.cell? ⟨gv, 5, none⟩ = some (.bool v.ty.2.1) ∧ w'.cell? ⟨gv, 6, none⟩ = some (.bool v.ty.2.2.1) ∧ w'.cell? ⟨gv, 7, none⟩ = some (.bool v.ty.2.2.2) ∧ w'.cell? ⟨gv, 8, none⟩ = some (.int .u64 v.cid.1) ∧ w'.cell? ⟨gv, 9, none⟩ = some (.int .i64 v.cid.2) ∧ w'.cell? ⟨gv, 10, none⟩ = some (.string v.frm) ∧ w'.cell? ⟨gv, 11, none⟩ = some (.int .i64 v.fnum) ∧ w'.cell? ⟨g5, 0, none⟩ = some (f0) ∧ w'.cell? ⟨g5, 1, none⟩ = some (f1) := by
  obtain ⟨b0, b1, b2, b3, b4, b5, b6, b7, b8, b9, b10, b11⟩ := b
  exact ⟨a.1, a.2, b0, b1, b2, b3, b4, b5, b6, b7, b8, b9, b10, b11, c.1, c.2⟩
theorem memF_file {rs : List Rv} {p : ByteArray} {n : Int} {v : Rv} (h5 : v.act ≠ 5) : memF rs (p, n) v = fileB (firstR rs v).path p (firstR rs v).num n := by
  rw [Bool.eq_iff_iff, memF_iff, fileB_iff]
  exact ⟨fun h => h.2, fun h => ⟨h5, h⟩⟩
set_option maxHeartbeats 4000000 in
set_option maxRecDepth 100000 in
theorem rline_any (A B : Option Addr) (c m d : Nat) (rs : List Rv) (p : ByteArray) (n : Int) (w : World) (h : RV w A c rs) (hl : rs.length ≤ 100000) (hr : ∀ u ∈ rs, nearN u.num) :
    Calls Tryd.prog 20 #[.agg #[.slice A rs.length c, .slice B m d], .agg #[.string p, .int .i64 n]] w (RetV w (lineR rs (p, n))) := by
  have h1 := h.1
  have h2 := h.2.1
  rw [List.length_map] at h1
  have HR := Lib.hid h
  have HRN := Lib.hid hr
  have HS : At (BB w [(w.heap.size, [.slice A rs.length c, .slice B m d]), (w.heap.size + 1, [.string p, .int .i64 n])]) ((w.alloc (.cells #[.slice A rs.length c, .slice B m d] 28)).alloc (.cells #[.string p, .int .i64 n] 31)) :=
    (((BB.nil w).push [.slice A rs.length c, .slice B m d] 28 rfl).push [.string p, .int .i64 n] 31 (g := w.heap.size + 1) (by simp)).at_
  clear h hr
  obtain ⟨d0, d1⟩ := HS.out.get 0 rfl |>.c2
  obtain ⟨f0, f1⟩ := HS.out.get 1 rfl |>.c2
  go_enter Tryd.func20, Tryd.ntmps20
  go_wp2_with fail
  go_loopw [5, 11] (fun o i wr => ∃ k : Nat, k ≤ rs.length ∧ i = .int .i64 k ∧ Hid (OR wr (w.heap.size + 1 + 1) 40 12 o (((rs.take k).filter (memF rs (p, n))).map revV)) ∧ Hid (BB w [(w.heap.size, [.slice A rs.length c, .slice B m d]), (w.heap.size + 1, [.string p, .int .i64 n])] wr) ∧ w.heap.size + 1 + 1 ≤ wr.heap.size) (fun _ i _ => rs.length - (intOf i).toNat)
  case atStart => exact ⟨0, Nat.zero_le _, rfl, Lib.hid (OR.nil _ _ _ _), Lib.hid HS.out, by simp⟩
  case round =>
    clear HS d0 d1 f0 f1
    obtain ⟨k, hk, rfl, HO, HS0, hsz⟩ := hrel
    have HS := HS0.out.at_
    clear HS0
    obtain ⟨d0, d1⟩ := HS.out.get 0 rfl |>.c2
    obtain ⟨f0, f1⟩ := HS.out.get 1 rfl |>.c2
    have g0l := (HS.out.get 0 rfl).2.2
    have g1l := (HS.out.get 1 rfl).2.2
    by_cases hlt : k < rs.length
    · obtain ⟨v, hv⟩ : ∃ v, rs[k]? = some v := ⟨_, List.getElem?_eq_getElem hlt⟩
      have HVN := Lib.hid (HRN.out v (List.mem_of_getElem? hv))
      have HFS := Lib.hid (filter_snoc (memF rs (p, n)) hv)
      have HLL : Hid (((rs.take k).filter (memF rs (p, n))).length ≤ 100000) := Lib.hid (by
        have : ((rs.take k).filter (memF rs (p, n))).length ≤ (rs.take k).length := List.length_filter_le _ _
        rw [List.length_take] at this
        omega)
      obtain ⟨b, o', e0, hb1, x0, x1, x2, x3, x4, x5, x6, x7, x8, x9, x10, x11⟩ := (HR.out.below HS.out.low).at_ hv
      have HFT := Lib.hid (fun W h => first_any A B c m d rs v W h hl HRN.out HVN.out)
      unfold RetF at HFT
      unfold aggR at HFT
      clear hv hb1
      subst e0
      go_upto_region 5 with (fail)
      have HV : At (fun w' => BX w' wr.heap.size (revV v)) (wr.alloc (.cells #[.string v.path, .int .i64 v.num, .int .i64 v.chg, .int .i64 v.act, .int .i64 v.ty.1, .bool v.ty.2.1, .bool v.ty.2.2.1, .bool v.ty.2.2.2, .int .u64 v.cid.1, .int .i64 v.cid.2, .string v.frm, .int .i64 v.fnum] 40)) := ⟨fun X Y h hb => h.below hb, BX.new wr (revV v) _ rfl⟩
      obtain ⟨v0, v1, v2, v3, v4, v5, v6, v7, v8, v9, v10, v11⟩ := HV.out.rev
      by_cases a5 : v.act = 5
      · have HN : Hid ((rs.take (k + 1)).filter (memF rs (p, n)) = (rs.take k).filter (memF rs (p, n))) := Lib.hid (by
          rw [HFS.out, if_neg (by rw [memF_iff]; exact fun h => h.1 a5), List.append_nil])
        have b5 : (v.act != 5) = false := by simpa using a5
        clear a5
        go_quiet (fail)
        all_goals
          go_wp2_with fail
          go_roundw
          case rel => exact ⟨k + 1, by omega, by go_num, Lib.hid (by rw [HN.out]; exact HO.out.below (by repeat (first | exact Below.refl _ _ | apply Below.drew | apply below_drewN | apply below_al))), Lib.hid (HS.go (by repeat (first | exact Below.refl _ _ | apply Below.drew | apply below_drewN | apply below_al))).out, (by first | omega | (simp; omega))⟩
          case measure => simp [intOf]; omega
      · have b5 : (v.act != 5) = true := by simpa using a5
        have HMF := Lib.hid (memF_file (rs := rs) (p := p) (n := n) a5)
        have hfe := fun w => file_eq (firstR rs v).path p (firstR rs v).num n w
        generalize firstR rs v = fv at *
        generalize hfb : fileB fv.path p fv.num n = fb at *
        clear a5 hfb
        generalize (rs.take k).filter (memF rs (p, n)) = ls at *
        cases fb with
        | true =>
          have HN : Hid ((rs.take (k + 1)).filter (memF rs (p, n)) = ls ++ [v]) := Lib.hid (by rw [HFS.out, if_pos HMF.out])
          go_region_held3 (fun w' => w'.cell? ⟨w.heap.size, 0, none⟩ = some (.slice (some ⟨b, o', none⟩) rs.length c) ∧ w'.cell? ⟨w.heap.size, 1, none⟩ = some (.slice B m d) ∧ w'.cell? ⟨wr.heap.size, 0, none⟩ = some (.string v.path) ∧ w'.cell? ⟨wr.heap.size, 1, none⟩ = some (.int .i64 v.num) ∧ w'.cell? ⟨wr.heap.size, 2, none⟩ = some (.int .i64 v.chg) ∧ w'.cell? ⟨wr.heap.size, 3, none⟩ = some (.int .i64 v.act) ∧ w'.cell? ⟨wr.heap.size, 4, none⟩ = some (.int .i64 v.ty.1) ∧ w'.cell? ⟨wr.heap.size, 5, none⟩ = some (.bool v.ty.2.1) ∧ w'.cell? ⟨wr.heap.size, 6, none⟩ = some (.bool v.ty.2.2.1) ∧ w'.cell? ⟨wr.heap.size, 7, none⟩ = some (.bool v.ty.2.2.2) ∧ w'.cell? ⟨wr.heap.size, 8, none⟩ = some (.int .u64 v.cid.1) ∧ w'.cell? ⟨wr.heap.size, 9, none⟩ = some (.int .i64 v.cid.2) ∧ w'.cell? ⟨wr.heap.size, 10, none⟩ = some (.string v.frm) ∧ w'.cell? ⟨wr.heap.size, 11, none⟩ = some (.int .i64 v.fnum) ∧ w'.cell? ⟨w.heap.size + 1, 0, none⟩ = some (.string p) ∧ w'.cell? ⟨w.heap.size + 1, 1, none⟩ = some (.int .i64 n))
            (first | exact reads5 ((HS.go (by repeat (first | exact Below.refl _ _ | apply Below.drew | apply below_drewN | apply below_al))).out.get 0 rfl).c2 (HV.go (by repeat (first | exact Below.refl _ _ | apply Below.drew | apply below_drewN | apply below_al))).out.rev ((HS.go (by repeat (first | exact Below.refl _ _ | apply Below.drew | apply below_drewN | apply below_al))).out.get 1 rfl).c2)
            (first | (go_at_call 36; refine (HFT.out _ (HR.out.below (HS.go (by repeat (first | exact Below.refl _ _ | apply Below.drew | apply below_drewN | apply below_al))).out.low)).mono ?_; rintro e wl ⟨rfl, hb⟩; replace HS := HS.go2 (by repeat (first | exact Below.refl _ _ | apply Below.drew | apply below_drewN | apply below_al)) hb; replace HV := HV.go2 (by repeat (first | exact Below.refl _ _ | apply Below.drew | apply below_drewN | apply below_al)) hb; have HO1 := Lib.hid (HO.out.below (go3 (by repeat (first | exact Below.refl _ _ | apply Below.drew | apply below_drewN | apply below_al)) hb)); have hbs := hb.size; simp at hbs; clear hb))
          all_goals
            obtain ⟨v0, v1, v2, v3, v4, v5, v6, v7, v8, v9, v10, v11⟩ := (HV.go (by repeat (first | exact Below.refl _ _ | apply Below.drew | apply below_drewN | apply below_al))).out.rev
            go_wp2_with (at_builtin; refine wpList_append_rev rfl _ _ rfl (w.heap.size + 1 + 1) _ ls v _ 1 rfl rfl (HO1.out.below (by repeat (first | exact Below.refl _ _ | apply Below.drew | apply below_drewN | apply below_al))) (cells_new _ [_, _, _, _, _, _, _, _, _, _, _, _] _ (by simp)) (by have := HLL.out; omega) (by simp; omega) ?_; intro v1' w1 hown hg _; have HS1 := Lib.hid (((HS.go (by repeat (first | exact Below.refl _ _ | apply Below.drew | apply below_drewN | apply below_al))).out.low).grown hg (HS.go (by repeat (first | exact Below.refl _ _ | apply Below.drew | apply below_drewN | apply below_al))).out.low.size (fun k hk => by have := (HO1.out.own k hk).1; omega)); have HSB : Hid (BB w [(w.heap.size, [.slice (some ⟨b, o', none⟩) rs.length c, .slice B m d]), (w.heap.size + 1, [.string p, .int .i64 n])] w1) := Lib.hid ⟨fun q hq => ((HS.go (by repeat (first | exact Below.refl _ _ | apply Below.drew | apply below_drewN | apply below_al))).out.1 q hq).grown hg (fun e => by have := (HO1.out.own _ e).1; simp only [List.mem_cons, List.not_mem_nil, or_false] at hq; rcases hq with rfl | rfl <;> simp only at this <;> omega), HS1.out⟩; have HOW := Lib.hid hown; have hs1 : w.heap.size + 1 + 1 ≤ w1.heap.size := (by have := hg.size; simp at this; omega); clear hown hg)
            go_roundw
            case rel => exact ⟨k + 1, by omega, by go_num, Lib.hid (by rw [HN.out]; exact HOW.out), HSB, hs1⟩
            case measure => simp [intOf]; omega
        | false =>
          have HN : Hid ((rs.take (k + 1)).filter (memF rs (p, n)) = ls) := Lib.hid (by rw [HFS.out, if_neg (by rw [HMF.out]; decide), List.append_nil])
          go_region_held3 (fun w' => w'.cell? ⟨w.heap.size, 0, none⟩ = some (.slice (some ⟨b, o', none⟩) rs.length c) ∧ w'.cell? ⟨w.heap.size, 1, none⟩ = some (.slice B m d) ∧ w'.cell? ⟨wr.heap.size, 0, none⟩ = some (.string v.path) ∧ w'.cell? ⟨wr.heap.size, 1, none⟩ = some (.int .i64 v.num) ∧ w'.cell? ⟨wr.heap.size, 2, none⟩ = some (.int .i64 v.chg) ∧ w'.cell? ⟨wr.heap.size, 3, none⟩ = some (.int .i64 v.act) ∧ w'.cell? ⟨wr.heap.size, 4, none⟩ = some (.int .i64 v.ty.1) ∧ w'.cell? ⟨wr.heap.size, 5, none⟩ = some (.bool v.ty.2.1) ∧ w'.cell? ⟨wr.heap.size, 6, none⟩ = some (.bool v.ty.2.2.1) ∧ w'.cell? ⟨wr.heap.size, 7, none⟩ = some (.bool v.ty.2.2.2) ∧ w'.cell? ⟨wr.heap.size, 8, none⟩ = some (.int .u64 v.cid.1) ∧ w'.cell? ⟨wr.heap.size, 9, none⟩ = some (.int .i64 v.cid.2) ∧ w'.cell? ⟨wr.heap.size, 10, none⟩ = some (.string v.frm) ∧ w'.cell? ⟨wr.heap.size, 11, none⟩ = some (.int .i64 v.fnum) ∧ w'.cell? ⟨w.heap.size + 1, 0, none⟩ = some (.string p) ∧ w'.cell? ⟨w.heap.size + 1, 1, none⟩ = some (.int .i64 n))
            (first | exact reads5 ((HS.go (by repeat (first | exact Below.refl _ _ | apply Below.drew | apply below_drewN | apply below_al))).out.get 0 rfl).c2 (HV.go (by repeat (first | exact Below.refl _ _ | apply Below.drew | apply below_drewN | apply below_al))).out.rev ((HS.go (by repeat (first | exact Below.refl _ _ | apply Below.drew | apply below_drewN | apply below_al))).out.get 1 rfl).c2)
            (first | (go_at_call 36; refine (HFT.out _ (HR.out.below (HS.go (by repeat (first | exact Below.refl _ _ | apply Below.drew | apply below_drewN | apply below_al))).out.low)).mono ?_; rintro e wl ⟨rfl, hb⟩; replace HS := HS.go2 (by repeat (first | exact Below.refl _ _ | apply Below.drew | apply below_drewN | apply below_al)) hb; replace HV := HV.go2 (by repeat (first | exact Below.refl _ _ | apply Below.drew | apply below_drewN | apply below_al)) hb; have HO1 := Lib.hid (HO.out.below (go3 (by repeat (first | exact Below.refl _ _ | apply Below.drew | apply below_drewN | apply below_al)) hb)); have hbs := hb.size; simp at hbs; clear hb))
          all_goals
            go_wp2_with fail
            go_roundw
            case rel => exact ⟨k + 1, by omega, by go_num, Lib.hid (by rw [HN.out]; exact HO1.out.below (by repeat (first | exact Below.refl _ _ | apply Below.drew | apply below_drewN | apply below_al))), Lib.hid (HS.go (by repeat (first | exact Below.refl _ _ | apply Below.drew | apply below_drewN | apply below_al))).out, (by first | omega | (simp; omega))⟩
            case measure => simp [intOf]; omega
    · obtain rfl : k = rs.length := by omega
      have hO := HO.out
      rw [List.take_length] at hO
      obtain ⟨A', c', hv, hrr⟩ := hO.read
      subst hv
      have HRR := Lib.hid hrr
      clear hO hrr HO
      simp only [List.length_map]
      go_wp2_with fail
      go_ret
      exact ⟨A', c', rfl, HRR.out, HS.out.low⟩
end Go.Proofs.YteagecjhpfijjaaDoor

