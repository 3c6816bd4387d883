/-
  The walk of the program's Merge.
-/
import Derived.Test.YtfhkmmicdbblnaaDoorL11
import Derived.Test.YtfhkmmicdbblnaaDoorL13
import Derived.Test.YtfhkmmicdbblnaaDoorME
import Derived.Test.YtfhkmmicdbblnaaDoorL6
namespace Go.Proofs.YtfhkmmicdbblnaaDoor
set_option linter.unusedSimpArgs false
set_option linter.unusedVariables false
open Go.RowKit

/-- pieces and an error come back -/
def RetP (w : World) (ps : List (Pc ByteArray)) (n : Int) (e : Ending) (w' : World) : Prop :=
  ∃ A c, e = .returned (.tuple #[.slice A ps.length c, .int .i64 n]) ∧ RF w' A c 4 (ps.map pcF) ∧ Below w.heap.size w w'
theorem RetP.of {w : World} {ps ps' : List (Pc ByteArray)} {n n' : Int} {e : Ending} {w' : World} (h : RetP w ps n e w') (h1 : ps' = ps) (h2 : n' = n) : RetP w ps' n' e w' := by
  subst h1 h2
  exact h
def mergeT (o a b : ByteArray) : List (Pc ByteArray) := if fewB [o, a, b] = true then mrg (lB o) (lB a) (lB b) else []
theorem few3 {o a b : ByteArray} (h : fewB [o, a, b] = true) : (lB o).length ≤ 400 ∧ (lB a).length ≤ 400 ∧ (lB b).length ≤ 400 := by
  unfold fewB at h
  simp only [List.all_cons, List.all_nil, Bool.and_true, Bool.and_eq_true, decide_eq_true_eq] at h
  exact h
theorem comm_mem2 (xs ys zs : List ByteArray) : comm (nI (nums [] (xs.map dT))) (nI (nums (keys (keys [] (xs.map dT)) (ys.map dT)) (zs.map dT))) 0 = comm xs zs 0 := by
  unfold nI
  rw [comm_map (fun x _ y _ h => cast_inj h), comm_nums (xs.map dT) (zs.map dT) [] (ys.map dT) 0, comm_map (fun x _ y _ h => dT_inj h)]
theorem nI_len (ks : List (List UInt8)) (xs : List ByteArray) : (nI (nums ks (xs.map dT))).length = xs.length := by unfold nI; rw [List.length_map, nums_len, List.length_map]

theorem PS.last {w : World} {base : Nat} {v : Value} {qs : List (Pc ByteArray)} {p : Pc ByteArray} (h : PS w base v (qs ++ [p])) : ∃ us, PL w base v qs p.kind us [p.o, p.a, p.b] := by
  rcases h with ⟨h, _⟩ | ⟨qs', p', us, e, h⟩
  · simp at h
  · obtain ⟨rfl, e2⟩ := List.append_inj' e rfl
    cases e2
    exact ⟨us, h⟩
set_option maxHeartbeats 8000000 in
set_option maxRecDepth 100000 in
theorem merge_any (o a b : ByteArray) (w : World) (ho : o.size ≤ 100000) (ha : a.size ≤ 100000) (hb : b.size ≤ 100000) :
    Calls Tryd.prog 18 #[.string o, .string a, .string b] w (RetP w (mergeT o a b) (dvE [o, a, b])) := by
  have HDV := Lib.hid (fun A c W h => divide_any A c [o, a, b] W h (by simp) (by intro t ht; simp only [List.mem_cons, List.not_mem_nil, or_false] at ht; rcases ht with rfl | rfl | rfl <;> assumption))
  simp only [List.length_cons, List.length_nil] at HDV
  unfold RetD at HDV
  cases hf : fewB [o, a, b] with
  | false =>
    have HE : Hid (mergeT o a b = []) := Lib.hid (by unfold mergeT; rw [hf]; rfl)
    have HD := Lib.hid (dv_bad hf)
    rw [(dv_bad hf).1, (dv_bad hf).2] at HDV
    clear hf ho ha hb
    go_enter Tryd.func18, Tryd.ntmps18
    go_wp2_with (go_at_call 24; refine (HDV.out _ _ _ (RT.three rfl)).mono ?_; rintro e w1 ⟨A1, c1, rfl, _, bl⟩; have HB1 := Lib.hid bl; clear bl)
    go_ret2
    exact RetP.of ⟨none, 0, rfl, RF.nil _ _ _ _ (by omega), go3 (below_alloc _ _) HB1.out⟩ HE.out HD.out.2
  | true =>
    have HE : Hid (mergeT o a b = mrg (lB o) (lB a) (lB b)) := Lib.hid (by unfold mergeT; rw [hf]; rfl)
    have HD := Lib.hid (dv_good hf)
    rw [(dv_good hf).1, (dv_good hf).2] at HDV
    obtain ⟨lx, ly, lz⟩ := few3 hf
    have HZX : Hid (∀ x ∈ lB o, x.size ≤ 100000) := Lib.hid (fun x hx => by have := lB_size hx; omega)
    have HZY : Hid (∀ x ∈ lB a, x.size ≤ 100000) := Lib.hid (fun x hx => by have := lB_size hx; omega)
    have HZZ : Hid (∀ x ∈ lB b, x.size ≤ 100000) := Lib.hid (fun x hx => by have := lB_size hx; omega)
    clear hf ho ha hb
    simp only [List.map_cons, List.map_nil] at HDV
    generalize lB o = xs at *
    generalize lB a = ys at *
    generalize lB b = zs at *
    have HNU := Lib.hid (fun A c W h => numbered_any A c [xs, ys, zs] W h (by simp) (by intro t ht; simp only [List.mem_cons, List.not_mem_nil, or_false] at ht; rcases ht with rfl | rfl | rfl <;> omega) (by intro t ht; simp only [List.mem_cons, List.not_mem_nil, or_false] at ht; rcases ht with rfl | rfl | rfl; exact HZX.out; exact HZY.out; exact HZZ.out))
    unfold RetN at HNU
    have HCO1 := Lib.hid (fun A B c d W h k => common_any A B c d (nI (nums [] (xs.map dT))) (nI (nums (keys [] (xs.map dT)) (ys.map dT))) W h k (by rw [nI_len]; omega) (by rw [nI_len]; omega))
    have HCO2 := Lib.hid (fun A B c d W h k => common_any A B c d (nI (nums [] (xs.map dT))) (nI (nums (keys (keys [] (xs.map dT)) (ys.map dT)) (zs.map dT))) W h k (by rw [nI_len]; omega) (by rw [nI_len]; omega))
    rw [comm_mem] at HCO1
    rw [comm_mem2] at HCO2
    unfold RetI at HCO1 HCO2
    rw [comm_len] at HCO1 HCO2
    simp only [nI_len] at HCO1 HCO2
    have hn : nmL [] [xs, ys, zs] = [nums [] (xs.map dT), nums (keys [] (xs.map dT)) (ys.map dT), nums (keys (keys [] (xs.map dT)) (ys.map dT)) (zs.map dT)] := rfl
    rw [hn] at HNU
    have H0 : Hid (([nums [] (xs.map dT), nums (keys [] (xs.map dT)) (ys.map dT), nums (keys (keys [] (xs.map dT)) (ys.map dT)) (zs.map dT)].map nmF)[0]? = some [Fld.row ((nI (nums [] (xs.map dT))).map iV)]) := Lib.hid (by rw [← nI_V]; rfl)
    have H1 : Hid (([nums [] (xs.map dT), nums (keys [] (xs.map dT)) (ys.map dT), nums (keys (keys [] (xs.map dT)) (ys.map dT)) (zs.map dT)].map nmF)[1]? = some [Fld.row ((nI (nums (keys [] (xs.map dT)) (ys.map dT))).map iV)]) := Lib.hid (by rw [← nI_V]; rfl)
    have H2 : Hid (([nums [] (xs.map dT), nums (keys [] (xs.map dT)) (ys.map dT), nums (keys (keys [] (xs.map dT)) (ys.map dT)) (zs.map dT)].map nmF)[2]? = some [Fld.row ((nI (nums (keys (keys [] (xs.map dT)) (ys.map dT)) (zs.map dT))).map iV)]) := Lib.hid (by rw [← nI_V]; rfl)
    have HL1 := Lib.hid (nI_len [] xs)
    have HL2 := Lib.hid (nI_len (keys [] (xs.map dT)) ys)
    have HL3 := Lib.hid (nI_len (keys (keys [] (xs.map dT)) (ys.map dT)) zs)
    clear hn
    have HFS : Hid (([nums [] (xs.map dT), nums (keys [] (xs.map dT)) (ys.map dT), nums (keys (keys [] (xs.map dT)) (ys.map dT)) (zs.map dT)].map nmF).length = 3) := Lib.hid rfl
    generalize [nums [] (xs.map dT), nums (keys [] (xs.map dT)) (ys.map dT), nums (keys (keys [] (xs.map dT)) (ys.map dT)) (zs.map dT)].map nmF = fs at *
    generalize nI (nums [] (xs.map dT)) = us at *
    generalize nI (nums (keys [] (xs.map dT)) (ys.map dT)) = vs at *
    generalize nI (nums (keys (keys [] (xs.map dT)) (ys.map dT)) (zs.map dT)) = ws at *
    replace HDV : Hid (∀ A c W, RT W A c [o, a, b] → Calls Tryd.prog 24 #[.slice A 3 c] W fun e w' => ∃ A' c', e = .returned (.tuple #[.slice A' 3 c', .int .i64 0]) ∧ RF w' A' c' 1 [lnF xs, lnF ys, lnF zs] ∧ Below W.heap.size W w') := Lib.hid HDV.out
    replace HNU : Hid (∀ A c W, RF W A c 1 ([xs, ys, zs].map lnF) → Calls Tryd.prog 25 #[.slice A 3 c] W fun e w' => ∃ A' c', e = .returned (.slice A' 3 c') ∧ RF w' A' c' 1 fs ∧ Below W.heap.size W w') := Lib.hid (by have := HNU.out; simp only [nmL_len, List.length_cons, List.length_nil, HFS.out] at this; exact this)
    go_enter Tryd.func18, Tryd.ntmps18
    go_wp2_with (first
      | (go_at_call 24; refine (HDV.out _ _ _ (RT.three rfl)).mono ?_; rintro e w1 ⟨A1, c1, rfl, rf, bl⟩; have HB1 := Lib.hid (go3 (below_alloc _ _) bl); have HRF : Hid (RF w1 A1 c1 1 ([xs, ys, zs].map lnF)) := Lib.hid rf; have g1 : 3 ≤ c1 := rf.1; have g2 := rf.2.1; clear rf bl)
      | (go_at_call 25; refine (HNU.out _ _ _ HRF.out).mono ?_; rintro e w2 ⟨A2, c2, rfl, rf, bl⟩; have HB2 := Lib.hid (go3 HB1.out bl); have HRF2 := Lib.hid (HRF.out.below bl); obtain ⟨b3, o3, C3, n3, rfl, hb3, x3, r3⟩ := rf.row1 H0.out; obtain ⟨b4, o4, C4, n4, e2, hb4, x4, r4⟩ := rf.row1 H1.out; cases e2; obtain ⟨b5, o5, C5, n5, e2, hb5, x5, r5⟩ := rf.row1 H2.out; cases e2; rw [List.length_map, HL1.out] at x3; rw [List.length_map, HL2.out] at x4; rw [List.length_map, HL3.out] at x5; rw [Nat.add_zero] at x3; have q1 := rf.1; have q2 := rf.2.1; rw [HFS.out] at q1; have HI : At (fun w' => RC w' C3 n3 (us.map iV) ∧ RC w' C4 n4 (vs.map iV) ∧ RC w' C5 n5 (ws.map iV) ∧ (w'.cell? ⟨b3, o3, none⟩ = some (.slice C3 xs.length n3) ∧ w'.cell? ⟨b3, o3 + 1, none⟩ = some (.slice C4 ys.length n4) ∧ w'.cell? ⟨b3, o3 + 2, none⟩ = some (.slice C5 zs.length n5)) ∧ Below w2.heap.size w2 w') w2 := ⟨fun X Y h hb => ⟨h.1.below hb, h.2.1.below hb, h.2.2.1.below hb, ⟨(hb.cell (p := ⟨b3, o3, none⟩) (cell_lt h.2.2.2.1.1)).trans h.2.2.2.1.1, (hb.cell (p := ⟨b3, o3 + 1, none⟩) (cell_lt h.2.2.2.1.2.1)).trans h.2.2.2.1.2.1, (hb.cell (p := ⟨b3, o3 + 2, none⟩) (cell_lt h.2.2.2.1.2.2)).trans h.2.2.2.1.2.2⟩, go3 h.2.2.2.2 hb⟩, r3, r4, r5, ⟨x3, x4, x5⟩, Below.refl _ _⟩; clear rf bl r3 r4 r5))
    go_region_held3 (fun w' => w'.cell? ⟨b3, o3, none⟩ = some (.slice C3 xs.length n3) ∧ w'.cell? ⟨b3, o3 + 1, none⟩ = some (.slice C4 ys.length n4) ∧ w'.cell? ⟨b3, o3 + 2, none⟩ = some (.slice C5 zs.length n5))
      (first | exact (HI.go (by repeat (first | exact Below.refl _ _ | apply Below.drew | apply below_drewN | apply below_al))).out.2.2.2.1)
      (first
        | (go_at_call_of 26 (Value.slice C4 ys.length n4); refine (HCO1.out _ _ _ _ _ (HI.go (by repeat (first | exact Below.refl _ _ | apply Below.drew | apply below_drewN | apply below_al))).out.1 (HI.go (by repeat (first | exact Below.refl _ _ | apply Below.drew | apply below_drewN | apply below_al))).out.2.1).mono ?_; rintro e w3 ⟨gl, rfl, hov, hb⟩; replace HI := HI.go2 (by repeat (first | exact Below.refl _ _ | apply Below.drew | apply below_drewN | apply below_al)) hb; have HLF : At (fun w' => OV w' w2.heap.size 3 (.slice (some ⟨gl, 0, none⟩) xs.length xs.length) ((comm xs ys 0).map oV)) w3 := ⟨fun X Y h hb => h.below hb, hov.base (by simp)⟩; have hs3 := HI.out.2.2.2.2.size; clear hov hb)
        | (go_at_call 26; refine (HCO2.out _ _ _ _ _ (HI.go (by repeat (first | exact Below.refl _ _ | apply Below.drew | apply below_drewN | apply below_al))).out.1 (HI.go (by repeat (first | exact Below.refl _ _ | apply Below.drew | apply below_drewN | apply below_al))).out.2.2.1).mono ?_; rintro e w4 ⟨gr, rfl, hov, hb⟩; replace HI := HI.go2 (by repeat (first | exact Below.refl _ _ | apply Below.drew | apply below_drewN | apply below_al)) hb; replace HLF := HLF.go2 (by repeat (first | exact Below.refl _ _ | apply Below.drew | apply below_drewN | apply below_al)) hb; have HRG : At (fun w' => OV w' w2.heap.size 3 (.slice (some ⟨gr, 0, none⟩) xs.length xs.length) ((comm xs zs 0).map oV)) w4 := ⟨fun X Y h hb => h.below hb, hov.base (by first | exact hs3 | (simp; omega))⟩; clear hov hb))
    all_goals
      have HRFW := Lib.hid (HRF2.out.below HI.out.2.2.2.2)
      have HBW := Lib.hid (go3 HB2.out HI.out.2.2.2.2)
      have HLW := Lib.hid HLF.out.rc
      have HRW := Lib.hid HRG.out.rc
      clear HI HLF HRG HRF HRF2 HB1 HB2 x3 x4 x5 hb3 hb4 hb5 HCO1 HCO2 HNU HDV H0 H1 H2 hs3 q1 q2 HZX HZY HZZ HL1 HL2 HL3 HFS
      have HGI := Lib.hid (GI.start xs ys zs)
      have hMB : Hid (MB (w4.alloc (.cells #[.slice A1 3 c1, .int .i64 0, .int .i64 0, .int .i64 0, .slice none 0 0] 74)) w4.heap.size (.slice A1 3 c1) [0, 0, 0] (.slice none 0 0)) := Lib.hid (by
        have hx := BX.new w4 [.slice A1 3 c1, .int .i64 0, .int .i64 0, .int .i64 0, .slice none 0 0] 74 rfl
        refine ⟨rfl, hx.1 0 _ rfl, fun j x h => ?_, hx.1 4 _ rfl, hx.2.1, hx.2.2⟩
        match j, h with
        | 0, h => cases h; exact hx.1 1 _ rfl
        | 1, h => cases h; exact hx.1 2 _ rfl
        | 2, h => cases h; exact hx.1 3 _ rfl
        | j + 3, h => simp at h)
      go_wp2_with fail
      go_loopw [48] (fun i wr => ∃ (k f1 f2 f3 : Nat) (ps : List (Pc ByteArray)) (v : Value), k ≤ xs.length ∧ i = .int .i64 k ∧ Hid (GI xs ys zs k (f1, f2, f3) ps) ∧ Hid (MB wr w4.heap.size (.slice A1 3 c1) [f1, f2, f3] v) ∧ Hid (PS wr (w4.heap.size + 1) v ps) ∧ Hid (Below w4.heap.size w4 wr)) (fun i _ => xs.length - (intOf i).toNat)
      case atStart => exact ⟨0, 0, 0, 0, [], .slice none 0 0, Nat.zero_le _, rfl, HGI, hMB, Lib.hid (.inl ⟨rfl, rfl⟩), Lib.hid (below_alloc _ _)⟩
      case round =>
        clear HGI hMB
        obtain ⟨k, f1, f2, f3, ps, v, hk, rfl, HG, HM, HP, HB⟩ := hrel
        by_cases hlt : k < xs.length
        · obtain ⟨oo, hoo⟩ : ∃ oo, (comm xs ys 0)[k]? = some oo := ⟨_, List.getElem?_eq_getElem (by rw [comm_len]; exact hlt)⟩
          obtain ⟨pp, hpp⟩ : ∃ pp, (comm xs zs 0)[k]? = some pp := ⟨_, List.getElem?_eq_getElem (by rw [comm_len]; exact hlt)⟩
          obtain ⟨b6, o6, e6, hb6, hc6⟩ := (HLW.out.below HB.out).2.2 (by rw [List.length_map, comm_len]; omega)
          cases e6
          have hcl := hc6 k (oV oo) (by rw [List.getElem?_map, hoo]; rfl)
          obtain ⟨b7, o7, e7, hb7, hc7⟩ := (HRW.out.below HB.out).2.2 (by rw [List.length_map, comm_len]; omega)
          cases e7
          have hcr := hc7 k (oV pp) (by rw [List.getElem?_map, hpp]; rfl)
          rw [Nat.zero_add] at hcl hcr
          unfold oV at hcl hcr
          clear hc6 hc7
          cases oo with
          | none =>
            have HN := Lib.hid (HG.out.skip hoo hpp (.inl rfl))
            unfold pI at hcl
            clear hoo hpp
            go_wp2_with fail
            go_roundw
            case rel => exact ⟨k + 1, f1, f2, f3, ps, v, by omega, by go_num, HN, HM, HP, HB⟩
            case measure => simp [intOf]; omega
          | some x =>
            cases pp with
            | none =>
              have HN := Lib.hid (HG.out.skip hoo hpp (.inr rfl))
              unfold pI at hcl hcr
              have hx0 : (0 : Int) ≤ (x : Int) := by omega
              clear hoo hpp
              go_wp2_with fail
              go_roundw
              case rel => exact ⟨k + 1, f1, f2, f3, ps, v, by omega, by go_num, HN, HM, HP, HB⟩
              case measure => simp [intOf]; omega
            | some y =>
              obtain ⟨⟨d1, d2, d3, d4, d5, d6⟩, hno, hyes⟩ := HG.out.step hoo hpp
              unfold pI at hcl hcr
              have hx0 : (0 : Int) ≤ (x : Int) := by omega
              have hy0 : (0 : Int) ≤ (y : Int) := by omega
              have HPL : Hid (ps.length ≤ 1000) := Lib.hid (by have := HG.out.2.2.2; omega)
              have HDF := Lib.hid (fun W' hm hp hb => differ_any w4 A1 c1 xs ys zs f1 f2 f3 k x y v ps W' hm hp hb HRFW.out d1 d2 d3 (by omega) (by omega) (by omega) (by omega) (by omega) (by omega) (by have := HPL.out; omega))
              have HSN := Lib.hid (fun W' v ps hm hp hb hl => same_no w4 A1 c1 xs ys zs k x y v ps W' hm hp hb HRFW.out d4 d5 d6 (by omega) (by omega) (by omega) hl)
              have HSY := Lib.hid (fun W' v qs p us hm hp hb hl => same_yes w4 A1 c1 xs ys zs k x y v qs p us W' hm hp hb HRFW.out d4 d5 d6 (by omega) (by omega) (by omega) hl)
              have HEQ := Lib.hid (arr_eq (f1 : Int) (f2 : Int) (f3 : Int) (k : Int) (x : Int) (y : Int))
              have z0 := HM.out.2.2.1 0 _ rfl
              have z1 := HM.out.2.2.1 1 _ rfl
              have z2 := HM.out.2.2.1 2 _ rfl
              rw [Nat.add_zero] at z0
              have hmw := HM.out.2.2.2.2.2
              have HC : At (fun w' => w'.cell? ⟨gl, k, none⟩ = some (.int .i64 (x : Int)) ∧ w'.cell? ⟨gr, k, none⟩ = some (.int .i64 (y : Int))) wr := ⟨fun X Y h hb => ⟨(hb.cell (p := ⟨gl, k, none⟩) (cell_lt h.1)).trans h.1, (hb.cell (p := ⟨gr, k, none⟩) (cell_lt h.2)).trans h.2⟩, hcl, hcr⟩
              clear hoo hpp HG
              by_cases hj : 0 < k ∧ f1 = k ∧ f2 = x ∧ f3 = y
              · obtain ⟨qs, p, hqs, hpl, hgi⟩ := hyes ⟨hj.1, by rw [hj.2.1, hj.2.2.1, hj.2.2.2]⟩
                have HN := Lib.hid hgi
                have HNP := Lib.hid hpl
                have HQ0 : Hid (ps ++ diffP xs ys zs (f1, f2, f3) (k, x, y) = qs ++ [p]) := Lib.hid (by
                  obtain ⟨_, rfl, rfl, rfl⟩ := hj
                  unfold diffP
                  rw [if_pos rfl, List.append_nil, hqs])
                rw [decide_eq_true (by omega)] at HEQ
                have hq := HEQ.out
                have hkI : (0 : Int) < (k : Int) := by omega
                clear hno hyes hgi hpl hqs hj d1 d2 d3 d4 d5 d6
                go_wp2_with fail
                go_region_held3 (fun w' => w'.cell? ⟨gl, k, none⟩ = some (.int .i64 (x : Int)) ∧ w'.cell? ⟨gr, k, none⟩ = some (.int .i64 (y : Int)))
                  (first | exact (HC.go (by repeat (first | exact Below.refl _ _ | apply Below.drew | apply below_drewN | apply below_al))).out)
                  (fail)
                all_goals
                  go_wp2_with (first
                    | (go_at_call 37; refine (HDF.out _ (HM.out.below (by repeat (first | exact Below.refl _ _ | apply Below.drew | apply below_drewN | apply below_al))) (HP.out.below (by repeat (first | exact Below.refl _ _ | apply Below.drew | apply below_drewN | apply below_al))) (go3 HB.out (by repeat (first | exact Below.refl _ _ | apply Below.drew | apply below_drewN | apply below_al)))).mono ?_; rintro e w5 ⟨rfl, v5, hm5, hp5, hb5⟩; have HM5 := Lib.hid hm5; have HP5 := Lib.hid hp5; have HB5 := Lib.hid hb5; clear hm5 hp5 hb5)
                    | (go_at_call 38; obtain ⟨us6, hpl6⟩ := PS.last (HQ0.out ▸ HP5.out); refine (HSY.out _ _ _ _ _ HM5.out hpl6 HB5.out (by have := HNP.out; omega)).mono ?_; rintro e w6 ⟨rfl, v6, hm6, hp6, hb6⟩; have HM6 := Lib.hid hm6; have HP6 := Lib.hid hp6; have HB6 := Lib.hid hb6; clear hm6 hp6 hb6 hpl6))
                  go_roundw
                  case rel => exact ⟨k + 1, k + 1, x + 1, y + 1, _, v6, by omega, by go_num, HN, HM6, HP6, HB6⟩
                  case measure => simp [intOf]; omega
              · have HN := Lib.hid (hno (fun h => hj ⟨h.1, by have := h.2; simp only [Prod.mk.injEq] at this; exact this⟩))
                have HLP : Hid ((ps ++ diffP xs ys zs (f1, f2, f3) (k, x, y)).length ≤ 100000) := Lib.hid (by
                  have h1 := HPL.out
                  have : (diffP xs ys zs (f1, f2, f3) (k, x, y)).length ≤ 1 := by unfold diffP; split <;> simp
                  rw [List.length_append]
                  omega)
                by_cases k0 : 0 < k
                · have hkI : (0 : Int) < (k : Int) := by omega
                  rw [decide_eq_false (by omega)] at HEQ
                  have hq := HEQ.out
                  clear hno hyes hj d1 d2 d3 d4 d5 d6 k0
                  go_wp2_with fail
                  go_region_held3 (fun w' => w'.cell? ⟨gl, k, none⟩ = some (.int .i64 (x : Int)) ∧ w'.cell? ⟨gr, k, none⟩ = some (.int .i64 (y : Int)))
                    (first | exact (HC.go (by repeat (first | exact Below.refl _ _ | apply Below.drew | apply below_drewN | apply below_al))).out)
                    (fail)
                  all_goals
                    go_wp2_with (first
                      | (go_at_call 37; refine (HDF.out _ (HM.out.below (by repeat (first | exact Below.refl _ _ | apply Below.drew | apply below_drewN | apply below_al))) (HP.out.below (by repeat (first | exact Below.refl _ _ | apply Below.drew | apply below_drewN | apply below_al))) (go3 HB.out (by repeat (first | exact Below.refl _ _ | apply Below.drew | apply below_drewN | apply below_al)))).mono ?_; rintro e w5 ⟨rfl, v5, hm5, hp5, hb5⟩; have HM5 := Lib.hid hm5; have HP5 := Lib.hid hp5; have HB5 := Lib.hid hb5; clear hm5 hp5 hb5)
                      | (go_at_call 38; refine (HSN.out _ _ _ HM5.out HP5.out HB5.out HLP.out).mono ?_; rintro e w6 ⟨rfl, v6, hm6, hp6, hb6⟩; have HM6 := Lib.hid hm6; have HP6 := Lib.hid hp6; have HB6 := Lib.hid hb6; clear hm6 hp6 hb6))
                    go_roundw
                    case rel => exact ⟨k + 1, k + 1, x + 1, y + 1, _, v6, by omega, by go_num, HN, HM6, HP6, HB6⟩
                    case measure => simp [intOf]; omega
                · have hkI : ¬ (0 : Int) < (k : Int) := by omega
                  clear hno hyes hj d1 d2 d3 d4 d5 d6 k0
                  go_wp2_with fail
                  go_region_held3 (fun w' => w'.cell? ⟨gl, k, none⟩ = some (.int .i64 (x : Int)) ∧ w'.cell? ⟨gr, k, none⟩ = some (.int .i64 (y : Int)))
                    (first | exact (HC.go (by repeat (first | exact Below.refl _ _ | apply Below.drew | apply below_drewN | apply below_al))).out)
                    (fail)
                  all_goals
                    go_wp2_with (first
                      | (go_at_call 37; refine (HDF.out _ (HM.out.below (by repeat (first | exact Below.refl _ _ | apply Below.drew | apply below_drewN | apply below_al))) (HP.out.below (by repeat (first | exact Below.refl _ _ | apply Below.drew | apply below_drewN | apply below_al))) (go3 HB.out (by repeat (first | exact Below.refl _ _ | apply Below.drew | apply below_drewN | apply below_al)))).mono ?_; rintro e w5 ⟨rfl, v5, hm5, hp5, hb5⟩; have HM5 := Lib.hid hm5; have HP5 := Lib.hid hp5; have HB5 := Lib.hid hb5; clear hm5 hp5 hb5)
                      | (go_at_call 38; refine (HSN.out _ _ _ HM5.out HP5.out HB5.out HLP.out).mono ?_; rintro e w6 ⟨rfl, v6, hm6, hp6, hb6⟩; have HM6 := Lib.hid hm6; have HP6 := Lib.hid hp6; have HB6 := Lib.hid hb6; clear hm6 hp6 hb6))
                    go_roundw
                    case rel => exact ⟨k + 1, k + 1, x + 1, y + 1, _, v6, by omega, by go_num, HN, HM6, HP6, HB6⟩
                    case measure => simp [intOf]; omega
        · obtain rfl : k = xs.length := by omega
          obtain ⟨⟨d1, d2, d3⟩, hend⟩ := HG.out.done
          simp only at d1 d2 d3
          have HEND := Lib.hid hend
          have HPL : Hid (ps.length ≤ 1000) := Lib.hid (by have := HG.out.2.2.2; omega)
          obtain ⟨bt, ot, CX, nX, rfl, hbt, xt0, rX⟩ := HRFW.out.row1 (j := 0) (vs := xs.map Value.string) rfl
          obtain ⟨bt', ot', CY, nY, e2, _, xt1, rY⟩ := HRFW.out.row1 (j := 1) (vs := ys.map Value.string) rfl
          cases e2
          obtain ⟨bt', ot', CZ, nZ, e2, _, xt2, rZ⟩ := HRFW.out.row1 (j := 2) (vs := zs.map Value.string) rfl
          cases e2
          rw [List.length_map] at xt0 xt1 xt2
          rw [Nat.add_zero] at xt0
          have HDF := Lib.hid (fun W' hm hp hb => differ_any w4 (some ⟨bt, ot, none⟩) c1 xs ys zs f1 f2 f3 xs.length ys.length zs.length v ps W' hm hp hb HRFW.out d1 d2 d3 (Nat.le_refl _) (Nat.le_refl _) (Nat.le_refl _) (by omega) (by omega) (by omega) (by have := HPL.out; omega))
          have y0 := (HB.out.cell (p := ⟨bt, ot, none⟩) hbt).trans xt0
          have y1 := (HB.out.cell (p := ⟨bt, ot + 1, none⟩) hbt).trans xt1
          have y2 := (HB.out.cell (p := ⟨bt, ot + 2, none⟩) hbt).trans xt2
          have HC : At (fun w' => w'.cell? ⟨bt, ot, none⟩ = some (.slice CX xs.length nX) ∧ w'.cell? ⟨bt, ot + 1, none⟩ = some (.slice CY ys.length nY) ∧ w'.cell? ⟨bt, ot + 2, none⟩ = some (.slice CZ zs.length nZ)) wr := ⟨fun X Y h hb => ⟨(hb.cell (p := ⟨bt, ot, none⟩) (cell_lt h.1)).trans h.1, (hb.cell (p := ⟨bt, ot + 1, none⟩) (cell_lt h.2.1)).trans h.2.1, (hb.cell (p := ⟨bt, ot + 2, none⟩) (cell_lt h.2.2)).trans h.2.2⟩, y0, y1, y2⟩
          clear rX rY rZ d1 d2 d3 hend HG
          go_wp2_with fail
          go_region_held3 (fun w' => w'.cell? ⟨bt, ot, none⟩ = some (.slice CX xs.length nX) ∧ w'.cell? ⟨bt, ot + 1, none⟩ = some (.slice CY ys.length nY) ∧ w'.cell? ⟨bt, ot + 2, none⟩ = some (.slice CZ zs.length nZ))
            (first | exact ⟨(HB5.out.cell (p := ⟨bt, ot, none⟩) hbt).trans xt0, (HB5.out.cell (p := ⟨bt, ot + 1, none⟩) hbt).trans xt1, (HB5.out.cell (p := ⟨bt, ot + 2, none⟩) hbt).trans xt2⟩ | exact (HC.go (by repeat (first | exact Below.refl _ _ | apply Below.drew | apply below_drewN | apply below_al))).out)
            (first | (go_at_call 37; refine (HDF.out _ (HM.out.below (by repeat (first | exact Below.refl _ _ | apply Below.drew | apply below_drewN | apply below_al))) (HP.out.below (by repeat (first | exact Below.refl _ _ | apply Below.drew | apply below_drewN | apply below_al))) (go3 HB.out (by repeat (first | exact Below.refl _ _ | apply Below.drew | apply below_drewN | apply below_al)))).mono ?_; rintro e w5 ⟨rfl, v5, hm5, hp5, hb5⟩; have HM5 := Lib.hid hm5; have HP5 := Lib.hid hp5; have HB5 := Lib.hid hb5; clear hm5 hp5 hb5))
          all_goals
            have z4 := HM5.out.2.2.2.1
            obtain ⟨A9, c9, hv9, hrf⟩ := HP5.out.read
            rw [← HEND.out] at hv9 hrf
            subst hv9
            have HRF9 := Lib.hid hrf
            clear hrf HM5 HP5 HEND HDF HC
            go_wp2_with fail
            go_ret2
            exact RetP.of ⟨A9, c9, rfl, HRF9.out, go3 HBW.out HB5.out⟩ HE.out HD.out.2
end Go.Proofs.YtfhkmmicdbblnaaDoor

