/-
  The walk of the program's Line.
-/
import Derived.Test.YteagecjhpfijjaaDoorV32
namespace Go.Proofs.YteagecjhpfijjaaDoor
set_option linter.unusedSimpArgs false
set_option linter.unusedVariables false
open Go.RowKit Go.WideShapes

theorem OR.one (w : World) (v : Rv) {base : Nat} (hb : base ≤ w.heap.size) {g : Nat} (hg : g = w.heap.size) : OR (w.alloc (.cells (revV v).toArray 40)) base 40 12 (.slice (some ⟨g, 0, none⟩) 1 1) ([v].map revV) := by
  subst hg
  exact ⟨World.ownsRow_lit (e := 40) (size := 12) (base := base) w (revV v).toArray 1 hb (by simp [maxLen]) rfl, fun r hr => by
    obtain rfl : r = revV v := by simpa using hr
    rfl⟩
theorem stepL_skip {l : List Rv} {r : Rv} (h : r.act = 5 ∨ r.act = 1) : stepL l r = l := by unfold stepL; rw [if_pos h]
theorem stepL_go {pre : List Rv} {u r : Rv} (h : ¬ (r.act = 5 ∨ r.act = 1)) : stepL (pre ++ [u]) r = if r.act = 4 then (if r.frm = u.path ∧ r.fnum = u.num then (pre ++ [u]) ++ [r] else pre ++ [u]) else (if r.path = u.path ∧ r.num - 1 = u.num then (pre ++ [u]) ++ [r] else pre ++ [u]) := by
  unfold stepL
  rw [if_neg h, List.getLast?_append]
  rfl
theorem fold_snoc {rs : List Rv} {k : Nat} {v : Rv} {l : List Rv} (h : rs[k]? = some v) : (rs.take (k + 1)).foldl stepL l = stepL ((rs.take k).foldl stepL l) v := by
  rw [List.take_add_one, h, List.foldl_append]
  rfl
set_option maxHeartbeats 8000000 in
set_option maxRecDepth 100000 in
theorem lline_any (A B : Option Addr) (c m d : Nat) (rs : List Rv) (p : ByteArray) (n : Int) (w : World) (h : RV w A c rs) (hd : Dp rs) :
    Calls Tryd.prog 18 #[.agg #[.slice A rs.length c, .slice B m d], .agg #[.string p, .int .i64 n]] w (RetVN w (lineR rs (p, n))) := by
  have h1 := h.1
  have h2 := h.2.1
  rw [List.length_map] at h1
  have h500 := hd.len
  have HR := Lib.hid h
  have HRN := Lib.hid hd.near
  have HGT := Lib.hid (fun W h => hget_any A B c m d rs p n W h (Nat.le_trans hd.len (by decide)) hd.inv)
  have HQ : Hid (lineR rs (p, n) = match getR rs p n with | none => [] | some a => if a.act = 1 then rs.foldl stepL [a] else []) := Lib.hid (hd.inv.line_eq (p, n)).symm
  unfold RetOR at HGT
  have hw2 := below_two w (.cells #[.slice A rs.length c, .slice B m d] 28) (.cells #[.string p, .int .i64 n] 31)
  have HD := Lib.hid (BX.new w [.slice A rs.length c, .slice B m d] 28 rfl)
  clear h hd
  generalize lineR rs (p, n) = ll at *
  generalize getR rs p n = o at *
  cases o with
  | none =>
    simp only [Option.getD_none, Option.isSome_none] at HGT HQ
    have HN : Hid (ll = []) := Lib.hid HQ.out
    unfold aggR rv0 at HGT
    clear HQ hw2
    go_enter Tryd.func18, Tryd.ntmps18
    go_wp2_with (go_at_call 24; refine (HGT.out _ (HR.out.below (below_two _ _ _))).mono ?_; rintro e w1 ⟨rfl, hb⟩; have HB1 := Lib.hid (go3 (below_two _ _ _) hb); clear hb)
    go_ret
    exact ⟨none, 0, by rw [HN.out]; rfl, by rw [HN.out]; exact RR.nil _ none 0 12 (by omega), go3 HB1.out (by repeat (first | exact Below.refl _ _ | apply Below.drew | apply below_drewN | apply below_al)), fun a ha => by cases ha⟩
  | some a =>
    simp only [Option.getD_some, Option.isSome_some] at HGT HQ
    by_cases a1 : a.act = 1
    · have HN : Hid (ll = rs.foldl stepL [a]) := Lib.hid (by rw [HQ.out, if_pos a1])
      have b1 : (a.act != 1) = false := by simpa using a1
      unfold aggR at HGT
      clear HQ hw2 a1
      go_enter Tryd.func18, Tryd.ntmps18
      go_wp2_with (go_at_call 24; refine (HGT.out _ (HR.out.below (below_two _ _ _))).mono ?_; rintro e wg ⟨rfl, hb⟩; have HBG := Lib.hid (go3 (below_two _ _ _) hb); have HD1 := Lib.hid ((HD.out.below (below_alloc _ _)).below hb); have d0 := HD1.out.1 0 _ rfl; have d1 := HD1.out.1 1 _ rfl; have dl := HD1.out.2.2; have hgs := hb.size; simp at hgs; clear hb)
      go_loopw [7, 32] (fun s7 s32 wr => ∃ (k : Nat) (pre : List Rv) (u : Rv), k ≤ rs.length ∧ s32 = .int .i64 k ∧ pre.length ≤ k ∧ Hid ((rs.take k).foldl stepL [a] = pre ++ [u]) ∧ Hid (OR wr (w.heap.size + 1 + 1) 40 12 s7 ((pre ++ [u]).map revV)) ∧ Hid (Below w.heap.size w wr) ∧ w.heap.size + 1 + 1 ≤ wr.heap.size) (fun _ s32 _ => rs.length - (intOf s32).toNat)
      case atStart => exact ⟨0, [], a, Nat.zero_le _, rfl, Nat.zero_le _, Lib.hid rfl, Lib.hid (OR.one _ a (by simp; omega) (by simp)), Lib.hid (go3 HBG.out (by repeat (first | exact Below.refl _ _ | apply Below.drew | apply below_drewN | apply below_al))), by simp; omega⟩
      case round =>
        obtain ⟨k, pre, u, hk, rfl, hpk, HFL, HO, HB, hsz⟩ := hrel
        have hnL : ((pre ++ [u]).map revV).length = pre.length + 1 := by simp
        obtain ⟨A', c', hv', hrr⟩ := HO.out.read
        rw [hnL] at hv'
        subst hv'
        have HRR : Hid (RV wr A' c' (pre ++ [u])) := Lib.hid hrr
        clear hrr
        by_cases hlt : k < rs.length
        · obtain ⟨v, hv⟩ : ∃ v, rs[k]? = some v := ⟨_, List.getElem?_eq_getElem hlt⟩
          obtain ⟨nn1, nn2⟩ := HRN.out v (List.mem_of_getElem? hv)
          obtain ⟨b, o', rfl, hb1, x0, x1, x2, x3, x4, x5, x6, x7, x8, x9, x10, x11⟩ := (HR.out.below HB.out).at_ hv
          obtain ⟨b2, o2, rfl, hb2, u0, u1, u2, u3, u4, u5, u6, u7, u8, u9, u10, u11⟩ := HRR.out.at_ (j := pre.length) (v := u) (by simp)
          have hcap := HRR.out.1
          have hcap2 := HRR.out.2.1
          simp only [List.length_map, List.length_append, List.length_singleton] at hcap
          have HFS := Lib.hid (fold_snoc (l := [a]) hv)
          rw [HFL.out] at HFS
          clear hv hb1
          by_cases s1 : v.act = 5
          · have c1 : (v.act == 5) = true := by simpa using s1
            have HN := Lib.hid (HFS.out.trans (stepL_skip (.inl s1)))
            go_wp2_with fail
            go_roundw
            case rel => exact ⟨k + 1, pre, u, by omega, by go_num, by omega, HN, Lib.hid (HO.out.below (by repeat (first | exact Below.refl _ _ | apply Below.drew | apply below_drewN | apply below_al))), Lib.hid (go3 HB.out (by repeat (first | exact Below.refl _ _ | apply Below.drew | apply below_drewN | apply below_al))), by simp; omega⟩
            case measure => simp [intOf]; omega
          have c1 : (v.act == 5) = false := by simpa using s1
          by_cases s2 : v.act = 1
          · have c2 : (v.act == 1) = true := by simpa using s2
            have HN := Lib.hid (HFS.out.trans (stepL_skip (.inr s2)))
            go_wp2_with fail
            go_roundw
            case rel => exact ⟨k + 1, pre, u, by omega, by go_num, by omega, HN, Lib.hid (HO.out.below (by repeat (first | exact Below.refl _ _ | apply Below.drew | apply below_drewN | apply below_al))), Lib.hid (go3 HB.out (by repeat (first | exact Below.refl _ _ | apply Below.drew | apply below_drewN | apply below_al))), by simp; omega⟩
            case measure => simp [intOf]; omega
          have c2 : (v.act == 1) = false := by simpa using s2
          have HGO := Lib.hid (HFS.out.trans (stepL_go (by rintro (h | h); exact s1 h; exact s2 h)))
          clear HFS s1 s2
          by_cases s4 : v.act = 4
          · have c4 : (v.act == 4) = true := by simpa using s4
            rw [if_pos s4] at HGO
            clear s4
            by_cases t1 : v.frm = u.path
            · have e1 := str_eqt t1
              by_cases t2 : v.fnum = u.num
              · have e2 : (v.fnum == u.num) = true := by simpa using t2
                have HN := Lib.hid (HGO.out.trans (if_pos ⟨t1, t2⟩))
                clear t1 t2
                go_wp2_with (at_builtin; refine wpList_append_rev rfl _ _ rfl (w.heap.size + 1 + 1) _ (pre ++ [u]) v _ 1 rfl rfl (HO.out.below (by repeat (first | exact Below.refl _ _ | apply Below.drew | apply below_drewN | apply below_al))) (cells_new _ [_, _, _, _, _, _, _, _, _, _, _, _] _ (by simp)) (by rw [List.length_append]; simp; omega) (by simp; omega) ?_; intro v1 w1 hown hg _; have HB1 := Lib.hid ((go3 HB.out (by repeat (first | exact Below.refl _ _ | apply Below.drew | apply below_drewN | apply below_al))).grown hg (by simp; omega) (fun j hj => by have := (HO.out.own j hj).1; omega)); have HOW := Lib.hid hown; have hs1 : w.heap.size + 1 + 1 ≤ w1.heap.size := (by have := hg.size; simp at this; omega); clear hown hg)
                go_roundw
                case rel => exact ⟨k + 1, pre ++ [u], v, by omega, by go_num, by simp; omega, HN, HOW, HB1, hs1⟩
                case measure => simp [intOf]; omega
              · have e2 : (v.fnum == u.num) = false := by simpa using t2
                have HN := Lib.hid (HGO.out.trans (if_neg (fun h => t2 h.2)))
                clear t1 t2
                go_wp2_with fail
                go_roundw
                case rel => exact ⟨k + 1, pre, u, by omega, by go_num, by omega, HN, Lib.hid (HO.out.below (by repeat (first | exact Below.refl _ _ | apply Below.drew | apply below_drewN | apply below_al))), Lib.hid (go3 HB.out (by repeat (first | exact Below.refl _ _ | apply Below.drew | apply below_drewN | apply below_al))), by simp; omega⟩
                case measure => simp [intOf]; omega
            · have e1 := str_eqb t1
              have HN := Lib.hid (HGO.out.trans (if_neg (fun h => t1 h.1)))
              clear t1
              go_wp2_with fail
              go_roundw
              case rel => exact ⟨k + 1, pre, u, by omega, by go_num, by omega, HN, Lib.hid (HO.out.below (by repeat (first | exact Below.refl _ _ | apply Below.drew | apply below_drewN | apply below_al))), Lib.hid (go3 HB.out (by repeat (first | exact Below.refl _ _ | apply Below.drew | apply below_drewN | apply below_al))), by simp; omega⟩
              case measure => simp [intOf]; omega
          · have c4 : (v.act == 4) = false := by simpa using s4
            rw [if_neg s4] at HGO
            clear s4
            by_cases t1 : v.path = u.path
            · have e1 := str_eqt t1
              by_cases t2 : v.num - 1 = u.num
              · have e2 : (v.num - 1 == u.num) = true := by simpa using t2
                have HN := Lib.hid (HGO.out.trans (if_pos ⟨t1, t2⟩))
                clear t1 t2
                go_wp2_with (at_builtin; refine wpList_append_rev rfl _ _ rfl (w.heap.size + 1 + 1) _ (pre ++ [u]) v _ 1 rfl rfl (HO.out.below (by repeat (first | exact Below.refl _ _ | apply Below.drew | apply below_drewN | apply below_al))) (cells_new _ [_, _, _, _, _, _, _, _, _, _, _, _] _ (by simp)) (by rw [List.length_append]; simp; omega) (by simp; omega) ?_; intro v1 w1 hown hg _; have HB1 := Lib.hid ((go3 HB.out (by repeat (first | exact Below.refl _ _ | apply Below.drew | apply below_drewN | apply below_al))).grown hg (by simp; omega) (fun j hj => by have := (HO.out.own j hj).1; omega)); have HOW := Lib.hid hown; have hs1 : w.heap.size + 1 + 1 ≤ w1.heap.size := (by have := hg.size; simp at this; omega); clear hown hg)
                go_roundw
                case rel => exact ⟨k + 1, pre ++ [u], v, by omega, by go_num, by simp; omega, HN, HOW, HB1, hs1⟩
                case measure => simp [intOf]; omega
              · have e2 : (v.num - 1 == u.num) = false := by simpa using t2
                have HN := Lib.hid (HGO.out.trans (if_neg (fun h => t2 h.2)))
                clear t1 t2
                go_wp2_with fail
                go_roundw
                case rel => exact ⟨k + 1, pre, u, by omega, by go_num, by omega, HN, Lib.hid (HO.out.below (by repeat (first | exact Below.refl _ _ | apply Below.drew | apply below_drewN | apply below_al))), Lib.hid (go3 HB.out (by repeat (first | exact Below.refl _ _ | apply Below.drew | apply below_drewN | apply below_al))), by simp; omega⟩
                case measure => simp [intOf]; omega
            · have e1 := str_eqb t1
              have HN := Lib.hid (HGO.out.trans (if_neg (fun h => t1 h.1)))
              clear t1
              go_wp2_with fail
              go_roundw
              case rel => exact ⟨k + 1, pre, u, by omega, by go_num, by omega, HN, Lib.hid (HO.out.below (by repeat (first | exact Below.refl _ _ | apply Below.drew | apply below_drewN | apply below_al))), Lib.hid (go3 HB.out (by repeat (first | exact Below.refl _ _ | apply Below.drew | apply below_drewN | apply below_al))), by simp; omega⟩
              case measure => simp [intOf]; omega
        · obtain rfl : k = rs.length := by omega
          have hf := HFL.out
          rw [List.take_length] at hf
          have HLN : Hid (ll = pre ++ [u]) := Lib.hid (by rw [HN.out, hf])
          have HAB := Lib.hid (show ∀ x, A' = some x → w.heap.size ≤ x.block from fun x hx => by have := (HO.out.own x.block (by subst hx; rfl)).1; omega)
          clear hf HFL
          go_wp2_with fail
          go_ret
          exact ⟨A', c', by rw [HLN.out]; simp, by rw [HLN.out]; exact HRR.out, HB.out, HAB.out⟩
    · have HN : Hid (ll = []) := Lib.hid (by rw [HQ.out, if_neg a1])
      have b1 : (a.act != 1) = true := by simpa using a1
      unfold aggR at HGT
      clear HQ hw2 a1
      go_enter Tryd.func18, Tryd.ntmps18
      go_wp2_with (go_at_call 24; refine (HGT.out _ (HR.out.below (below_two _ _ _))).mono ?_; rintro e w1 ⟨rfl, hb⟩; have HB1 := Lib.hid (go3 (below_two _ _ _) hb); clear hb)
      go_ret
      exact ⟨none, 0, by rw [HN.out]; rfl, by rw [HN.out]; exact RR.nil _ none 0 12 (by omega), go3 HB1.out (by repeat (first | exact Below.refl _ _ | apply Below.drew | apply below_drewN | apply below_al)), fun a ha => by cases ha⟩
end Go.Proofs.YteagecjhpfijjaaDoor

