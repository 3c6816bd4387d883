/-
  The walks of the program's history.Get and history.At.
-/
import Derived.Test.YteagecjhpfijjaaDoorV26
import Derived.Deep.DeepCutAuto
namespace Go.Proofs.YteagecjhpfijjaaDoor
set_option linter.unusedSimpArgs false
set_option linter.unusedVariables false
open Go.RowKit

theorem BB.set12 {w w' : World} {l : List (Nat × List Value)} {g : Nat} {cs : List Value} (h : BB w (l ++ [(g, cs)]) w') (hl : cs.length = 12) (hd : ∀ p ∈ l, p.1 ≠ g) (hB : w.heap.size ≤ g) (y0 y1 y2 y3 y4 y5 y6 y7 y8 y9 y10 y11 : Value) :
    BB w (l ++ [(g, [y0, y1, y2, y3, y4, y5, y6, y7, y8, y9, y10, y11])]) ((((((((((((w'.setCell ⟨g, 0, none⟩ y0).setCell ⟨g, 1, none⟩ y1).setCell ⟨g, 2, none⟩ y2).setCell ⟨g, 3, none⟩ y3).setCell ⟨g, 4, none⟩ y4).setCell ⟨g, 5, none⟩ y5).setCell ⟨g, 6, none⟩ y6).setCell ⟨g, 7, none⟩ y7).setCell ⟨g, 8, none⟩ y8).setCell ⟨g, 9, none⟩ y9).setCell ⟨g, 10, none⟩ y10).setCell ⟨g, 11, none⟩ y11) :=
  ⟨fun p hp => by
    rcases List.mem_append.1 hp with hp | hp
    · exact (h.1 p (List.mem_append_left _ hp)).other12 (fun e => hd p hp e.symm) _ _ _ _ _ _ _ _ _ _ _ _
    · rw [List.mem_singleton.1 hp]
      exact (h.1 (g, cs) (List.mem_append_right _ (List.mem_singleton.2 rfl))).put12 hl _ _ _ _ _ _ _ _ _ _ _ _, below12 h.2 hB _ _ _ _ _ _ _ _ _ _ _ _⟩
theorem logR_before {rs : List Rv} {p : ByteArray} (h : (logR rs p).Pairwise (fun a b => a.num < b.num)) {k : Nat} {v : Rv} (hk : rs[k]? = some v) (hp : v.path = p) : ∀ u ∈ logR (rs.take k) p, u.num < v.num := by
  have e : logR rs p = logR (rs.take (k + 1)) p ++ logR (rs.drop (k + 1)) p := by
    conv => lhs; rw [← List.take_append_drop (k + 1) rs]
    unfold logR
    rw [List.filter_append]
  rw [e, logR_snoc rs p hk, if_pos hp, List.append_assoc, List.pairwise_append] at h
  exact fun u hu => h.2.2 u hu v (by simp)
set_option maxHeartbeats 1000000 in
theorem get1_any (v : Rv) (n : Int) (g : Nat) (w : World) (hg : BX w g [.int .i64 n]) : Calls Tryd.prog 43 #[aggR v, .pointer (some ⟨g, 0, none⟩)] w fun e w' => e = .returned (.bool (v.num == n)) ∧ Below w.heap.size w w' := by
  have h0 := hg.1 0 _ rfl
  have h1 := hg.2.2
  have ne1 : ¬ g = w.heap.size := by omega
  have ne2 : ¬ w.heap.size = g := by omega
  clear hg
  unfold aggR
  go_enter Tryd.func43, Tryd.ntmps43
  go_wp2_with fail
  go_ret
  exact ⟨rfl, below_alloc _ _⟩
set_option maxHeartbeats 1000000 in
theorem at1_any (v : Rv) (n : Int) (g : Nat) (w : World) (hg : BX w g [.int .i64 n]) : Calls Tryd.prog 46 #[aggR v, .pointer (some ⟨g, 0, none⟩)] w fun e w' => e = .returned (.bool (decide (v.chg ≤ n))) ∧ Below w.heap.size w w' := by
  have h0 := hg.1 0 _ rfl
  have h1 := hg.2.2
  have ne1 : ¬ g = w.heap.size := by omega
  have ne2 : ¬ w.heap.size = g := by omega
  clear hg
  unfold aggR
  go_enter Tryd.func46, Tryd.ntmps46
  go_wp2_with fail
  go_ret
  exact ⟨rfl, below_alloc _ _⟩
set_option maxHeartbeats 8000000 in
set_option maxRecDepth 100000 in
theorem greatG_any (A B : Option Addr) (c m d : Nat) (rs : List Rv) (p : ByteArray) (n : Int) (g : Nat) (w : World) (h : RV w A c rs) (hl : rs.length ≤ 100000) (hg : BX w g [.int .i64 n]) (ha : (logR rs p).Pairwise (fun a b => a.num < b.num)) :
    Calls Tryd.prog 42 #[.agg #[.slice A rs.length c, .slice B m d], .string p, .func (.func 43) #[] #[.pointer (some ⟨g, 0, none⟩)]] w (RetOR w (((logR rs p).filter (fun v => v.num == n)).getLast?)) := by
  have h1 := h.1
  have h2 := h.2.1
  rw [List.length_map] at h1
  have HR := Lib.hid h
  have HG := Lib.hid hg
  have HA := Lib.hid (fun k v hk hp => logR_before ha (k := k) (v := v) hk hp)
  have HC := Lib.hid (get1_any)
  have HS : At (BB w [(w.heap.size, [.slice A rs.length c, .slice B m d]), (w.heap.size + 1, zeroV), (w.heap.size + 1 + 1, revV rv0)]) (((w.alloc (.cells #[.slice A rs.length c, .slice B m d] 28)).alloc (.cells zeroV.toArray 40)).alloc (.cells zeroV.toArray 40)) :=
    ((((BB.nil w).push [.slice A rs.length c, .slice B m d] 28 rfl).push zeroV 40 (g := w.heap.size + 1) (by simp)).push zeroV 40 (g := w.heap.size + 1 + 1) (by simp)).at_
  obtain ⟨d0, d1⟩ := HS.out.get 0 rfl |>.c2
  clear h hg ha
  unfold zeroV at HS d0 d1
  go_enter Tryd.func42, Tryd.ntmps42
  go_wp2_with fail
  go_loopw [9, 15] (fun s9 s15 wr => ∃ (k : Nat) (o : Option Rv), k ≤ rs.length ∧ s15 = .int .i64 k ∧ s9 = .bool o.isSome ∧ Hid (o = ((logR (rs.take k) p).filter (fun v => v.num == n)).getLast?) ∧ Hid (BB w [(w.heap.size, [.slice A rs.length c, .slice B m d]), (w.heap.size + 1, zeroV), (w.heap.size + 1 + 1, revV (o.getD rv0))] wr)) (fun _ s15 _ => rs.length - (intOf s15).toNat)
  case atStart => exact ⟨0, none, Nat.zero_le _, rfl, rfl, Lib.hid rfl, Lib.hid HS.out⟩
  case round =>
    clear HS d0 d1
    obtain ⟨k, o, hk, rfl, rfl, HO, HS0⟩ := hrel
    have HS := HS0.out.at_
    clear HS0
    obtain ⟨d0, d1⟩ := HS.out.get 0 rfl |>.c2
    obtain ⟨f0, f1, f2, f3, f4, f5, f6, f7, f8, f9, f10, f11⟩ := (HS.out.get 2 rfl).rev
    have ff := (HS.out.get 2 rfl).2.1
    have g0l := (HS.out.get 0 rfl).2.2
    have g1l := (HS.out.get 1 rfl).2.2
    have g2l := (HS.out.get 2 rfl).2.2
    by_cases hlt : k < rs.length
    · obtain ⟨v, hv⟩ : ∃ v, rs[k]? = some v := ⟨_, List.getElem?_eq_getElem hlt⟩
      have HKV := Lib.hid hv
      obtain ⟨b, o', rfl, hb1, x0, x1, x2, x3, x4, x5, x6, x7, x8, x9, x10, x11⟩ := (HR.out.below HS.out.low).at_ hv
      have HLS := Lib.hid (logR_snoc rs p hv)
      clear hv hb1
      by_cases e : v.path = p
      · have he := str_eqt e
        have HUN := Lib.hid (HA.out k v HKV.out e)
        rw [if_pos e] at HLS
        have HLF : Hid (((logR (rs.take (k + 1)) p).filter (fun v => v.num == n)).getLast? = if (v.num == n) = true then some v else o) := Lib.hid (by
          rw [HLS.out, List.filter_append, HO.out]
          by_cases hq : (v.num == n) = true
          · rw [if_pos hq, List.filter_cons, if_pos hq, List.filter_nil, List.getLast?_append]; rfl
          · rw [if_neg hq, List.filter_cons, if_neg hq, List.filter_nil, List.append_nil])
        have HOU : Hid (∀ u, o = some u → u.num < v.num) := Lib.hid (fun u hu => by
          rw [hu] at HO
          exact HUN.out u (List.mem_filter.1 (List.mem_of_getLast? HO.out.symm)).1)
        have HV : At (fun w' => BX w' wr.heap.size (revV v)) (wr.alloc (.cells #[.string v.path, .int .i64 v.num, .int .i64 v.chg, .int .i64 v.act, .int .i64 v.ty.1, .bool v.ty.2.1, .bool v.ty.2.2.1, .bool v.ty.2.2.2, .int .u64 v.cid.1, .int .i64 v.cid.2, .string v.frm, .int .i64 v.fnum] 40)) := ⟨fun X Y h hb => h.below hb, BX.new wr (revV v) _ rfl⟩
        obtain ⟨v0, v1, v2, v3, v4, v5, v6, v7, v8, v9, v10, v11⟩ := HV.out.rev
        have HCL := Lib.hid (fun W h => HC.out v n g W h)
        unfold aggR at HCL
        generalize hwg : wr.heap.size = gv at *
        clear e HLS HUN HKV
        cases hq : (v.num == n) with
        | false =>
          simp only [hq] at HLF HCL
          have HN : Hid (o = ((logR (rs.take (k + 1)) p).filter (fun v => v.num == n)).getLast?) := Lib.hid (by rw [HLF.out]; rfl)
          clear hq HLF HO
          go_wp2_with (go_at_call 43; refine (HCL.out _ (HG.out.below (HS.go (by repeat (first | exact Below.refl _ _ | apply Below.drew | apply below_drewN | apply below_al))).out.low)).mono ?_; rintro e wl ⟨rfl, hb⟩; replace HS := HS.go2 (by repeat (first | exact Below.refl _ _ | apply Below.drew | apply below_drewN | apply below_al)) hb; replace HV := HV.go2 (by repeat (first | exact Below.refl _ _ | apply Below.drew | apply below_drewN | apply below_al)) hb; clear d0 d1 f0 f1 f2 f3 f4 f5 f6 f7 f8 f9 f10 f11 ff g0l g1l g2l v0 v1 v2 v3 v4 v5 v6 v7 v8 v9 v10 v11; obtain ⟨d0, d1⟩ := HS.out.get 0 rfl |>.c2; obtain ⟨f0, f1, f2, f3, f4, f5, f6, f7, f8, f9, f10, f11⟩ := (HS.out.get 2 rfl).rev; have ff := (HS.out.get 2 rfl).2.1; obtain ⟨v0, v1, v2, v3, v4, v5, v6, v7, v8, v9, v10, v11⟩ := HV.out.rev; have g2l := (HS.out.get 2 rfl).2.2; have vl := HV.out.2.2; clear hb)
          go_roundw
          case rel => exact ⟨k + 1, o, by omega, by go_num, by go_num, HN, Lib.hid (HS.go (by repeat (first | exact Below.refl _ _ | apply Below.drew | apply below_drewN | apply below_al))).out⟩
          case measure => simp [intOf]; omega
        | true =>
          simp only [hq] at HLF HCL
          have HN : Hid (some v = ((logR (rs.take (k + 1)) p).filter (fun v => v.num == n)).getLast?) := Lib.hid (by rw [HLF.out]; rfl)
          clear hq HLF HO
          cases o with
          | none =>
            go_wp2_with (go_at_call 43; refine (HCL.out _ (HG.out.below (HS.go (by repeat (first | exact Below.refl _ _ | apply Below.drew | apply below_drewN | apply below_al))).out.low)).mono ?_; rintro e wl ⟨rfl, hb⟩; replace HS := HS.go2 (by repeat (first | exact Below.refl _ _ | apply Below.drew | apply below_drewN | apply below_al)) hb; replace HV := HV.go2 (by repeat (first | exact Below.refl _ _ | apply Below.drew | apply below_drewN | apply below_al)) hb; clear d0 d1 f0 f1 f2 f3 f4 f5 f6 f7 f8 f9 f10 f11 ff g0l g1l g2l v0 v1 v2 v3 v4 v5 v6 v7 v8 v9 v10 v11; obtain ⟨d0, d1⟩ := HS.out.get 0 rfl |>.c2; obtain ⟨f0, f1, f2, f3, f4, f5, f6, f7, f8, f9, f10, f11⟩ := (HS.out.get 2 rfl).rev; have ff := (HS.out.get 2 rfl).2.1; obtain ⟨v0, v1, v2, v3, v4, v5, v6, v7, v8, v9, v10, v11⟩ := HV.out.rev; have g2l := (HS.out.get 2 rfl).2.2; have vl := HV.out.2.2; clear hb)
            go_roundw
            case rel => exact ⟨k + 1, some v, by omega, by go_num, by go_num, HN, Lib.hid (BB.set12 (l := [_, _]) HS.out rfl (fun p hp => by simp only [List.mem_cons, List.not_mem_nil, or_false] at hp; rcases hp with rfl | rfl <;> simp only <;> omega) (by omega) _ _ _ _ _ _ _ _ _ _ _ _)⟩
            case measure => simp [intOf]; omega
          | some u =>
            have hun := HOU.out u rfl
            go_wp2_with (go_at_call 43; refine (HCL.out _ (HG.out.below (HS.go (by repeat (first | exact Below.refl _ _ | apply Below.drew | apply below_drewN | apply below_al))).out.low)).mono ?_; rintro e wl ⟨rfl, hb⟩; replace HS := HS.go2 (by repeat (first | exact Below.refl _ _ | apply Below.drew | apply below_drewN | apply below_al)) hb; replace HV := HV.go2 (by repeat (first | exact Below.refl _ _ | apply Below.drew | apply below_drewN | apply below_al)) hb; clear d0 d1 f0 f1 f2 f3 f4 f5 f6 f7 f8 f9 f10 f11 ff g0l g1l g2l v0 v1 v2 v3 v4 v5 v6 v7 v8 v9 v10 v11; obtain ⟨d0, d1⟩ := HS.out.get 0 rfl |>.c2; obtain ⟨f0, f1, f2, f3, f4, f5, f6, f7, f8, f9, f10, f11⟩ := (HS.out.get 2 rfl).rev; have ff := (HS.out.get 2 rfl).2.1; obtain ⟨v0, v1, v2, v3, v4, v5, v6, v7, v8, v9, v10, v11⟩ := HV.out.rev; have g2l := (HS.out.get 2 rfl).2.2; have vl := HV.out.2.2; clear hb)
            go_roundw
            case rel => exact ⟨k + 1, some v, by omega, by go_num, by go_num, HN, Lib.hid (BB.set12 (l := [_, _]) HS.out rfl (fun p hp => by simp only [List.mem_cons, List.not_mem_nil, or_false] at hp; rcases hp with rfl | rfl <;> simp only <;> omega) (by omega) _ _ _ _ _ _ _ _ _ _ _ _)⟩
            case measure => simp [intOf]; omega
      · have he := str_eqb e
        rw [if_neg e, List.append_nil] at HLS
        have HN : Hid (o = ((logR (rs.take (k + 1)) p).filter (fun v => v.num == n)).getLast?) := Lib.hid (by rw [HLS.out]; exact HO.out)
        clear e HLS
        go_wp2_with fail
        go_roundw
        case rel => exact ⟨k + 1, o, by omega, by go_num, by go_num, HN, Lib.hid (HS.go (by repeat (first | exact Below.refl _ _ | apply Below.drew | apply below_drewN | apply below_al))).out⟩
        case measure => simp [intOf]; omega
    · obtain rfl : k = rs.length := by omega
      have HO2 := HO.out
      rw [List.take_length] at HO2
      have HO3 := Lib.hid HO2
      clear HO2 HO
      obtain ⟨r0, r1, r2, r3, r4, r5, r6, r7, r8, r9, r10, r11⟩ := (show At12 _ (w.heap.size + 1) 0 rv0 from (HS.out.get 1 rfl).rev)
      have rf := (HS.out.get 1 rfl).2.1
      go_wp2_with fail
      refine bodyPost_ret (v := .tuple #[aggR (o.getD rv0), .bool o.isSome]) (by simp [results, Tryd.results42, go_sem, r0, r1, r2, r3, r4, r5, r6, r7, r8, r9, r10, r11]; rfl) rfl ?_
      exact ⟨by rw [HO3.out], below12 HS.out.low (by omega) _ _ _ _ _ _ _ _ _ _ _ _⟩
set_option maxHeartbeats 8000000 in
set_option maxRecDepth 100000 in
theorem greatA_any (A B : Option Addr) (c m d : Nat) (rs : List Rv) (p : ByteArray) (n : Int) (g : Nat) (w : World) (h : RV w A c rs) (hl : rs.length ≤ 100000) (hg : BX w g [.int .i64 n]) (ha : (logR rs p).Pairwise (fun a b => a.num < b.num)) :
    Calls Tryd.prog 42 #[.agg #[.slice A rs.length c, .slice B m d], .string p, .func (.func 46) #[] #[.pointer (some ⟨g, 0, none⟩)]] w (RetOR w (((logR rs p).filter (fun v => decide (v.chg ≤ n))).getLast?)) := by
  have h1 := h.1
  have h2 := h.2.1
  rw [List.length_map] at h1
  have HR := Lib.hid h
  have HG := Lib.hid hg
  have HA := Lib.hid (fun k v hk hp => logR_before ha (k := k) (v := v) hk hp)
  have HC := Lib.hid (at1_any)
  have HS : At (BB w [(w.heap.size, [.slice A rs.length c, .slice B m d]), (w.heap.size + 1, zeroV), (w.heap.size + 1 + 1, revV rv0)]) (((w.alloc (.cells #[.slice A rs.length c, .slice B m d] 28)).alloc (.cells zeroV.toArray 40)).alloc (.cells zeroV.toArray 40)) :=
    ((((BB.nil w).push [.slice A rs.length c, .slice B m d] 28 rfl).push zeroV 40 (g := w.heap.size + 1) (by simp)).push zeroV 40 (g := w.heap.size + 1 + 1) (by simp)).at_
  obtain ⟨d0, d1⟩ := HS.out.get 0 rfl |>.c2
  clear h hg ha
  unfold zeroV at HS d0 d1
  go_enter Tryd.func42, Tryd.ntmps42
  go_wp2_with fail
  go_loopw [9, 15] (fun s9 s15 wr => ∃ (k : Nat) (o : Option Rv), k ≤ rs.length ∧ s15 = .int .i64 k ∧ s9 = .bool o.isSome ∧ Hid (o = ((logR (rs.take k) p).filter (fun v => decide (v.chg ≤ n))).getLast?) ∧ Hid (BB w [(w.heap.size, [.slice A rs.length c, .slice B m d]), (w.heap.size + 1, zeroV), (w.heap.size + 1 + 1, revV (o.getD rv0))] wr)) (fun _ s15 _ => rs.length - (intOf s15).toNat)
  case atStart => exact ⟨0, none, Nat.zero_le _, rfl, rfl, Lib.hid rfl, Lib.hid HS.out⟩
  case round =>
    clear HS d0 d1
    obtain ⟨k, o, hk, rfl, rfl, HO, HS0⟩ := hrel
    have HS := HS0.out.at_
    clear HS0
    obtain ⟨d0, d1⟩ := HS.out.get 0 rfl |>.c2
    obtain ⟨f0, f1, f2, f3, f4, f5, f6, f7, f8, f9, f10, f11⟩ := (HS.out.get 2 rfl).rev
    have ff := (HS.out.get 2 rfl).2.1
    have g0l := (HS.out.get 0 rfl).2.2
    have g1l := (HS.out.get 1 rfl).2.2
    have g2l := (HS.out.get 2 rfl).2.2
    by_cases hlt : k < rs.length
    · obtain ⟨v, hv⟩ : ∃ v, rs[k]? = some v := ⟨_, List.getElem?_eq_getElem hlt⟩
      have HKV := Lib.hid hv
      obtain ⟨b, o', rfl, hb1, x0, x1, x2, x3, x4, x5, x6, x7, x8, x9, x10, x11⟩ := (HR.out.below HS.out.low).at_ hv
      have HLS := Lib.hid (logR_snoc rs p hv)
      clear hv hb1
      by_cases e : v.path = p
      · have he := str_eqt e
        have HUN := Lib.hid (HA.out k v HKV.out e)
        rw [if_pos e] at HLS
        have HLF : Hid (((logR (rs.take (k + 1)) p).filter (fun v => decide (v.chg ≤ n))).getLast? = if (decide (v.chg ≤ n)) = true then some v else o) := Lib.hid (by
          rw [HLS.out, List.filter_append, HO.out]
          by_cases hq : (decide (v.chg ≤ n)) = true
          · rw [if_pos hq, List.filter_cons, if_pos hq, List.filter_nil, List.getLast?_append]; rfl
          · rw [if_neg hq, List.filter_cons, if_neg hq, List.filter_nil, List.append_nil])
        have HOU : Hid (∀ u, o = some u → u.num < v.num) := Lib.hid (fun u hu => by
          rw [hu] at HO
          exact HUN.out u (List.mem_filter.1 (List.mem_of_getLast? HO.out.symm)).1)
        have HV : At (fun w' => BX w' wr.heap.size (revV v)) (wr.alloc (.cells #[.string v.path, .int .i64 v.num, .int .i64 v.chg, .int .i64 v.act, .int .i64 v.ty.1, .bool v.ty.2.1, .bool v.ty.2.2.1, .bool v.ty.2.2.2, .int .u64 v.cid.1, .int .i64 v.cid.2, .string v.frm, .int .i64 v.fnum] 40)) := ⟨fun X Y h hb => h.below hb, BX.new wr (revV v) _ rfl⟩
        obtain ⟨v0, v1, v2, v3, v4, v5, v6, v7, v8, v9, v10, v11⟩ := HV.out.rev
        have HCL := Lib.hid (fun W h => HC.out v n g W h)
        unfold aggR at HCL
        generalize hwg : wr.heap.size = gv at *
        clear e HLS HUN HKV
        cases hq : (decide (v.chg ≤ n)) with
        | false =>
          simp only [hq] at HLF HCL
          have HN : Hid (o = ((logR (rs.take (k + 1)) p).filter (fun v => decide (v.chg ≤ n))).getLast?) := Lib.hid (by rw [HLF.out]; rfl)
          clear hq HLF HO
          go_wp2_with (go_at_call 46; refine (HCL.out _ (HG.out.below (HS.go (by repeat (first | exact Below.refl _ _ | apply Below.drew | apply below_drewN | apply below_al))).out.low)).mono ?_; rintro e wl ⟨rfl, hb⟩; replace HS := HS.go2 (by repeat (first | exact Below.refl _ _ | apply Below.drew | apply below_drewN | apply below_al)) hb; replace HV := HV.go2 (by repeat (first | exact Below.refl _ _ | apply Below.drew | apply below_drewN | apply below_al)) hb; clear d0 d1 f0 f1 f2 f3 f4 f5 f6 f7 f8 f9 f10 f11 ff g0l g1l g2l v0 v1 v2 v3 v4 v5 v6 v7 v8 v9 v10 v11; obtain ⟨d0, d1⟩ := HS.out.get 0 rfl |>.c2; obtain ⟨f0, f1, f2, f3, f4, f5, f6, f7, f8, f9, f10, f11⟩ := (HS.out.get 2 rfl).rev; have ff := (HS.out.get 2 rfl).2.1; obtain ⟨v0, v1, v2, v3, v4, v5, v6, v7, v8, v9, v10, v11⟩ := HV.out.rev; have g2l := (HS.out.get 2 rfl).2.2; have vl := HV.out.2.2; clear hb)
          go_roundw
          case rel => exact ⟨k + 1, o, by omega, by go_num, by go_num, HN, Lib.hid (HS.go (by repeat (first | exact Below.refl _ _ | apply Below.drew | apply below_drewN | apply below_al))).out⟩
          case measure => simp [intOf]; omega
        | true =>
          simp only [hq] at HLF HCL
          have HN : Hid (some v = ((logR (rs.take (k + 1)) p).filter (fun v => decide (v.chg ≤ n))).getLast?) := Lib.hid (by rw [HLF.out]; rfl)
          clear hq HLF HO
          cases o with
          | none =>
            go_wp2_with (go_at_call 46; refine (HCL.out _ (HG.out.below (HS.go (by repeat (first | exact Below.refl _ _ | apply Below.drew | apply below_drewN | apply below_al))).out.low)).mono ?_; rintro e wl ⟨rfl, hb⟩; replace HS := HS.go2 (by repeat (first | exact Below.refl _ _ | apply Below.drew | apply below_drewN | apply below_al)) hb; replace HV := HV.go2 (by repeat (first | exact Below.refl _ _ | apply Below.drew | apply below_drewN | apply below_al)) hb; clear d0 d1 f0 f1 f2 f3 f4 f5 f6 f7 f8 f9 f10 f11 ff g0l g1l g2l v0 v1 v2 v3 v4 v5 v6 v7 v8 v9 v10 v11; obtain ⟨d0, d1⟩ := HS.out.get 0 rfl |>.c2; obtain ⟨f0, f1, f2, f3, f4, f5, f6, f7, f8, f9, f10, f11⟩ := (HS.out.get 2 rfl).rev; have ff := (HS.out.get 2 rfl).2.1; obtain ⟨v0, v1, v2, v3, v4, v5, v6, v7, v8, v9, v10, v11⟩ := HV.out.rev; have g2l := (HS.out.get 2 rfl).2.2; have vl := HV.out.2.2; clear hb)
            go_roundw
            case rel => exact ⟨k + 1, some v, by omega, by go_num, by go_num, HN, Lib.hid (BB.set12 (l := [_, _]) HS.out rfl (fun p hp => by simp only [List.mem_cons, List.not_mem_nil, or_false] at hp; rcases hp with rfl | rfl <;> simp only <;> omega) (by omega) _ _ _ _ _ _ _ _ _ _ _ _)⟩
            case measure => simp [intOf]; omega
          | some u =>
            have hun := HOU.out u rfl
            go_wp2_with (go_at_call 46; refine (HCL.out _ (HG.out.below (HS.go (by repeat (first | exact Below.refl _ _ | apply Below.drew | apply below_drewN | apply below_al))).out.low)).mono ?_; rintro e wl ⟨rfl, hb⟩; replace HS := HS.go2 (by repeat (first | exact Below.refl _ _ | apply Below.drew | apply below_drewN | apply below_al)) hb; replace HV := HV.go2 (by repeat (first | exact Below.refl _ _ | apply Below.drew | apply below_drewN | apply below_al)) hb; clear d0 d1 f0 f1 f2 f3 f4 f5 f6 f7 f8 f9 f10 f11 ff g0l g1l g2l v0 v1 v2 v3 v4 v5 v6 v7 v8 v9 v10 v11; obtain ⟨d0, d1⟩ := HS.out.get 0 rfl |>.c2; obtain ⟨f0, f1, f2, f3, f4, f5, f6, f7, f8, f9, f10, f11⟩ := (HS.out.get 2 rfl).rev; have ff := (HS.out.get 2 rfl).2.1; obtain ⟨v0, v1, v2, v3, v4, v5, v6, v7, v8, v9, v10, v11⟩ := HV.out.rev; have g2l := (HS.out.get 2 rfl).2.2; have vl := HV.out.2.2; clear hb)
            go_roundw
            case rel => exact ⟨k + 1, some v, by omega, by go_num, by go_num, HN, Lib.hid (BB.set12 (l := [_, _]) HS.out rfl (fun p hp => by simp only [List.mem_cons, List.not_mem_nil, or_false] at hp; rcases hp with rfl | rfl <;> simp only <;> omega) (by omega) _ _ _ _ _ _ _ _ _ _ _ _)⟩
            case measure => simp [intOf]; omega
      · have he := str_eqb e
        rw [if_neg e, List.append_nil] at HLS
        have HN : Hid (o = ((logR (rs.take (k + 1)) p).filter (fun v => decide (v.chg ≤ n))).getLast?) := Lib.hid (by rw [HLS.out]; exact HO.out)
        clear e HLS
        go_wp2_with fail
        go_roundw
        case rel => exact ⟨k + 1, o, by omega, by go_num, by go_num, HN, Lib.hid (HS.go (by repeat (first | exact Below.refl _ _ | apply Below.drew | apply below_drewN | apply below_al))).out⟩
        case measure => simp [intOf]; omega
    · obtain rfl : k = rs.length := by omega
      have HO2 := HO.out
      rw [List.take_length] at HO2
      have HO3 := Lib.hid HO2
      clear HO2 HO
      obtain ⟨r0, r1, r2, r3, r4, r5, r6, r7, r8, r9, r10, r11⟩ := (show At12 _ (w.heap.size + 1) 0 rv0 from (HS.out.get 1 rfl).rev)
      have rf := (HS.out.get 1 rfl).2.1
      go_wp2_with fail
      refine bodyPost_ret (v := .tuple #[aggR (o.getD rv0), .bool o.isSome]) (by simp [results, Tryd.results42, go_sem, r0, r1, r2, r3, r4, r5, r6, r7, r8, r9, r10, r11]; rfl) rfl ?_
      exact ⟨by rw [HO3.out], below12 HS.out.low (by omega) _ _ _ _ _ _ _ _ _ _ _ _⟩
theorem Inv.nasc {rs : List Rv} (h : Inv rs) (p : ByteArray) : (logR rs p).Pairwise (fun a b => a.num < b.num) := by
  rw [List.pairwise_iff_getElem]
  intro i j hi hj hij
  have h1 := h.num p i _ (List.getElem?_eq_getElem hi)
  have h2 := h.num p j _ (List.getElem?_eq_getElem hj)
  omega
theorem Inv.get_last {rs : List Rv} (h : Inv rs) (p : ByteArray) (n : Int) : ((logR rs p).filter (fun v => v.num == n)).getLast? = getR rs p n := by
  cases hg : getR rs p n with
  | none =>
    rw [List.getLast?_eq_none_iff, List.filter_eq_nil_iff]
    unfold getR at hg
    exact List.find?_eq_none.1 hg
  | some v =>
    obtain ⟨h1, h2, h3⟩ := getR_mem hg
    cases hl : ((logR rs p).filter (fun v => v.num == n)).getLast? with
    | none =>
      rw [List.getLast?_eq_none_iff, List.filter_eq_nil_iff] at hl
      exact absurd (by simpa using h3) (hl v (mem_logR.2 ⟨h1, h2⟩))
    | some u =>
      obtain ⟨g1, g2⟩ := List.mem_filter.1 (List.mem_of_getLast? hl)
      obtain ⟨g3, g4⟩ := mem_logR.1 g1
      rw [h.uniq g3 h1 (g4.trans h2.symm) (by rw [h3]; simpa using g2)]
set_option maxHeartbeats 4000000 in
set_option maxRecDepth 100000 in
theorem hget_any (A B : Option Addr) (c m d : Nat) (rs : List Rv) (p : ByteArray) (n : Int) (w : World) (h : RV w A c rs) (hl : rs.length ≤ 100000) (hi : Inv rs) :
    Calls Tryd.prog 24 #[.agg #[.slice A rs.length c, .slice B m d], .string p, .int .i64 n] w (RetOR w (getR rs p n)) := by
  have HR := Lib.hid h
  have HGT := Lib.hid (fun W g h hg => greatG_any A B c m d rs p n g W h hl hg (hi.nasc p))
  rw [hi.get_last] at HGT
  unfold RetOR at HGT
  have HB3 := Lib.hid (below_three w (.cells #[.slice A rs.length c, .slice B m d] 28) (.cells #[.int .i64 n] 3) (.cells zeroV.toArray 40))
  have HG := Lib.hid ((BX.new (w.alloc (.cells #[.slice A rs.length c, .slice B m d] 28)) [.int .i64 n] 3 (g := w.heap.size + 1) (by simp)).below (below_alloc _ (.cells zeroV.toArray 40)))
  have HX := Lib.hid (BX.new ((w.alloc (.cells #[.slice A rs.length c, .slice B m d] 28)).alloc (.cells #[.int .i64 n] 3)) zeroV 40 (g := w.heap.size + 1 + 1) (by simp))
  generalize getR rs p n = o at *
  clear h hl hi
  unfold aggR at HGT
  unfold zeroV at HG HX HB3
  go_enter Tryd.func24, Tryd.ntmps24
  go_wp2_with (go_at_call 42; refine (HGT.out _ _ (HR.out.below HB3.out) HG.out).mono ?_; rintro e w1 ⟨rfl, hb⟩; have HB1 := Lib.hid (go3 HB3.out hb); have HX1 := Lib.hid (HX.out.below hb); clear hb; obtain ⟨r0, r1, r2, r3, r4, r5, r6, r7, r8, r9, r10, r11⟩ := (show At12 _ (w.heap.size + 1 + 1) 0 rv0 from HX1.out.rev); have rf := HX1.out.2.1)
  refine bodyPost_ret (v := .tuple #[aggR (o.getD rv0), .bool o.isSome]) (by simp [results, Tryd.results24, go_sem, r0, r1, r2, r3, r4, r5, r6, r7, r8, r9, r10, r11]; rfl) rfl ?_
  exact ⟨rfl, below12 HB1.out (by omega) _ _ _ _ _ _ _ _ _ _ _ _⟩
set_option maxHeartbeats 4000000 in
set_option maxRecDepth 100000 in
theorem hat_any (A B : Option Addr) (c m d : Nat) (rs : List Rv) (p : ByteArray) (n : Int) (w : World) (h : RV w A c rs) (hl : rs.length ≤ 100000) (hi : Inv rs) :
    Calls Tryd.prog 30 #[.agg #[.slice A rs.length c, .slice B m d], .string p, .int .i64 n] w (RetOR w (atR rs p n)) := by
  have HR := Lib.hid h
  have HGT := Lib.hid (fun W g h hg => greatA_any A B c m d rs p n g W h hl hg (hi.nasc p))
  rw [show ((logR rs p).filter (fun v => decide (v.chg ≤ n))).getLast? = atR rs p n from rfl] at HGT
  unfold RetOR at HGT
  have HB3 := Lib.hid (below_three w (.cells #[.slice A rs.length c, .slice B m d] 28) (.cells #[.int .i64 n] 3) (.cells zeroV.toArray 40))
  have HG := Lib.hid ((BX.new (w.alloc (.cells #[.slice A rs.length c, .slice B m d] 28)) [.int .i64 n] 3 (g := w.heap.size + 1) (by simp)).below (below_alloc _ (.cells zeroV.toArray 40)))
  have HX := Lib.hid (BX.new ((w.alloc (.cells #[.slice A rs.length c, .slice B m d] 28)).alloc (.cells #[.int .i64 n] 3)) zeroV 40 (g := w.heap.size + 1 + 1) (by simp))
  generalize atR rs p n = o at *
  clear h hl hi
  unfold aggR at HGT
  unfold zeroV at HG HX HB3
  go_enter Tryd.func30, Tryd.ntmps30
  go_wp2_with (go_at_call 42; refine (HGT.out _ _ (HR.out.below HB3.out) HG.out).mono ?_; rintro e w1 ⟨rfl, hb⟩; have HB1 := Lib.hid (go3 HB3.out hb); have HX1 := Lib.hid (HX.out.below hb); clear hb; obtain ⟨r0, r1, r2, r3, r4, r5, r6, r7, r8, r9, r10, r11⟩ := (show At12 _ (w.heap.size + 1 + 1) 0 rv0 from HX1.out.rev); have rf := HX1.out.2.1)
  refine bodyPost_ret (v := .tuple #[aggR (o.getD rv0), .bool o.isSome]) (by simp [results, Tryd.results30, go_sem, r0, r1, r2, r3, r4, r5, r6, r7, r8, r9, r10, r11]; rfl) rfl ?_
  exact ⟨rfl, below12 HB1.out (by omega) _ _ _ _ _ _ _ _ _ _ _ _⟩
end Go.Proofs.YteagecjhpfijjaaDoor

