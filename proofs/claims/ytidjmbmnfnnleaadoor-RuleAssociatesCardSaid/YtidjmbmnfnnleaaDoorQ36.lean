/-
  The walk of the reference's Substitute: its work.
-/
import Derived.Test.YtidjmbmnfnnleaaDoorMD
namespace Go.Proofs.YtidjmbmnfnnleaaDoor
set_option linter.unusedSimpArgs false
set_option linter.unusedVariables false
open Go.RowKit
open Pm

theorem RT.one1 {w : World} {x : ByteArray} {t : TypeId} {g : Nat} (hg : g = w.heap.size) : RT (w.alloc (.cells #[.string x] t)) (some ⟨g, 0, none⟩) 1 [x] := by
  subst hg
  exact RT.one w x t
theorem bind_one {y : ByteArray} : bindOk [y] false false = partB y := by
  unfold bindOk
  rw [if_neg (by simp)]
  simp
theorem bind_len {zs : List ByteArray} {q : Bool} (h : zs.length ≠ 1) : bindOk zs q false = false := by
  unfold bindOk
  rw [if_pos (.inl ⟨rfl, .inl h⟩)]
theorem bind_rest1 {zs : List ByteArray} : bindOk zs true false = false := by
  unfold bindOk
  rw [if_pos (.inl ⟨rfl, .inr rfl⟩)]
theorem sub_33 {xs : List ByteArray} {r : Bool} {bs : List (List ByteArray × Bool)} (hn : checkP xs r = 0) (hl : bs.length = wildB stB xs r) (h : ¬ BO (countB stB xs) bs bs.length) : subE xs r bs = 33 ∧ subL xs r bs = [] ∧ subR xs r bs = false := by
  have e : subE xs r bs = 33 := by
    unfold subE
    rw [if_neg (by simp [hn]), if_neg (by simp [hl]), if_pos]
    cases hb : bsOk (countB stB xs) bs with
    | false => rfl
    | true => exact absurd (bsOk_iff.1 hb) h
  exact ⟨e, sub_err e (by decide)⟩
theorem RetP.of {w : World} {xs : List ByteArray} {r : Bool} {n : Int} {xs' : List ByteArray} {r' : Bool} {n' : Int} {e : Ending} {w' : World} (h : RetP w xs r n e w') (h1 : xs' = xs) (h2 : r' = r) (h3 : n' = n) : RetP w xs' r' n' e w' := by
  subst h1 h2 h3
  exact h
theorem sub_good0 {xs : List ByteArray} {bs : List (List ByteArray × Bool)} (hn : checkP xs false = 0) (hl : bs.length = wildB stB xs false) (hb : BO (countB stB xs) bs bs.length) : subE xs false bs = 0 ∧ subL xs false bs = flC stB tlB xs (bs.map hdP) ∧ subR xs false bs = false := by
  have e : subE xs false bs = 0 := by
    unfold subE
    rw [if_neg (by simp [hn]), if_neg (by simp [hl]), if_neg (by simp [bsOk_iff.2 hb]), if_neg (by simp)]
  exact ⟨e, by unfold subL; rw [if_pos e]; simp, by unfold subR; rw [if_pos e]; rfl⟩
theorem BO.next {st : Nat} {bs : List (List ByteArray × Bool)} {j : Nat} (h : BO st bs j) (hj : j < st) {p : List ByteArray × Bool} (hp : bs[j]? = some p) (hb : bindOk p.1 p.2 false = true) : BO st bs (j + 1) :=
  h.step hp (by rw [decide_eq_false (by omega)]; exact hb)
theorem BO.bad {st : Nat} {bs : List (List ByteArray × Bool)} {j : Nat} (hj : j < st) {p : List ByteArray × Bool} (hp : bs[j]? = some p) (hb : bindOk p.1 p.2 false = false) : ¬ BO st bs bs.length :=
  BO.no hp (by rw [decide_eq_false (by omega)]; exact hb)

set_option maxHeartbeats 4000000 in
set_option maxRecDepth 100000 in
theorem rsub_plain (A B : Option Addr) (c d : Nat) (xs : List ByteArray) (bs : List (List ByteArray × Bool)) (w : World) (h : RT w A c xs) (k : BT w B d bs)
    (hsx : ∀ x ∈ xs, x.size ≤ 5000) (hbz : ∀ b ∈ bs, ∀ x ∈ b.1, x.size ≤ 5000) (hn : checkP xs false = 0) (hl : bs.length = wildB stB xs false) :
    Calls Tryd.prog 48 #[.agg #[.slice A xs.length c, .bool false], .slice B bs.length d] w (RetP w (subL xs false bs) (subR xs false bs) (subE xs false bs)) := by
  have HS5 := Lib.hid hsx
  have HN0 := Lib.hid hn
  replace hsx : ∀ x ∈ xs, x.size ≤ 9223372036854775807 := fun x hx => by have := HS5.out x hx; omega
  have HI := PS.enter h k false 24
  have hx12 := (check_zero hn).2.1
  have hx0 := (check_zero hn).1
  have HK := Lib.hid (fun W (h : RT W A c xs) => rcheck_any A c xs false W h hsx)
  have HWC := Lib.hid (fun W (h : RT W A c xs) => rwild_any A c xs false W h hsx (by omega))
  rw [wild_agree (parts_all (check_zero hn).2.2)] at HWC
  rw [hn] at HK
  have HCA := Lib.hid (count_agree (parts_all (check_zero hn).2.2))
  have HFA := Lib.hid (flC_agree (parts_all (check_zero hn).2.2) (bs.map hdP))
  have HSX := Lib.hid hsx
  have HBZ := Lib.hid hbz
  have H33 := Lib.hid (sub_33 hn hl)
  have HLE : Hid (countB stB xs ≤ bs.length) := Lib.hid (by rw [hl]; unfold wildB; omega)
  have HLW := Lib.hid hl
  have hx1 := h.1
  have hx2 := h.2.1
  have hy1 := k.1
  have hy2 := k.2.1
  have hl3 : ((bs.length : Int) != (wildB stB xs false : Nat)) = false := by rw [hl]; simp
  have hl4 : ((bs.length : Int) == (wildB stB xs false : Nat)) = true := by rw [hl]; simp
  generalize wildB stB xs false = st at hl3 hl4 HWC
  clear h k hsx hn hl hbz
  go_enter Tryd.func48, Tryd.ntmps48
  go_wp2_with (first
    | (go_at_call 41; refine (HK.out _ (PS.x (HI.go (by repeat (first | exact Below.refl _ _ | apply Below.drew | apply below_drewN | apply below_al))))).mono ?_; rintro e w1 ⟨rfl, hb⟩; replace HI := HI.go2 (by repeat (first | exact Below.refl _ _ | apply Below.drew | apply below_drewN | apply below_al)) hb; clear hb; obtain ⟨⟨p1, p2, p3, p4, p5⟩, ⟨r1, r2, r3, r4, r5⟩⟩ := PS.cells HI)
    | (go_at_call 58; refine (HWC.out _ (PS.x (HI.go (by repeat (first | exact Below.refl _ _ | apply Below.drew | apply below_drewN | apply below_al))))).mono ?_; rintro e w2 ⟨rfl, hb⟩; replace HI := HI.go2 (by repeat (first | exact Below.refl _ _ | apply Below.drew | apply below_drewN | apply below_al)) hb; clear hb; obtain ⟨⟨p1, p2, p3, p4, p5⟩, ⟨r1, r2, r3, r4, r5⟩⟩ := PS.cells HI))
  go_loopw [8, 32] (fun j i wr => ∃ (k : Nat) (v : Value) (ls : List (List ByteArray × Bool)) (done : List ByteArray), k ≤ xs.length ∧ i = .int .i64 k ∧ j = .int .i64 (countB starOk (xs.take k) : Nat) ∧ Hid (BO (countB stB xs) bs (countB starOk (xs.take k))) ∧ Hid (SI starOk sufB xs bs k ls done) ∧ Hid (PX wr w2.heap.size v (.bool false)) ∧ Hid (OT wr (w2.heap.size + 1) v done) ∧ Hid (Below w2.heap.size w2 wr)) (fun _ i _ => xs.length - (intOf i).toNat)
  case atStart => exact ⟨0, .slice none 0 0, bs, [], Nat.zero_le _, rfl, rfl, Lib.hid (BO.zero _ _), Lib.hid (SI.start _ _ _ _), Lib.hid (PX.new _ _ _ _), Lib.hid (OT.nil _ _), Lib.hid (below_alloc _ _)⟩
  case round =>
    obtain ⟨k, v, ls, done, hk, rfl, rfl, HBOK, HS, HPX, HO, HBL⟩ := hrel
    clear p1 p2 p3 p4 p5 r1 r2 r3 r4 r5
    have HQ := HI.go HBL.out
    have hsz := HBL.out.size
    obtain ⟨⟨p1, p2, p3, p4, p5⟩, ⟨r1, r2, r3, r4, r5⟩⟩ := PS.cells HQ
    obtain ⟨t1, t2, t3, t4, t5⟩ := HPX.out
    have HDN := Lib.hid HS.out.1
    by_cases hlt : k < xs.length
    · obtain ⟨x, hx⟩ : ∃ x, xs[k]? = some x := ⟨_, List.getElem?_eq_getElem hlt⟩
      obtain ⟨b1, o1, rfl, hb1, hc1⟩ := (PS.x HQ).2.2 (by omega)
      have hcx := hc1 k x hx
      have hxz := HSX.out x (List.mem_of_getElem? hx)
      have HX := Lib.hid hx
      have HCT := Lib.hid (count_step (st := starOk) hx)
      clear hc1 hx hb1
      cases hs : starOk x with
      | false =>
        have HN := Lib.hid (HS.out.part HX.out hs)
        rw [hs, if_neg (by decide), Nat.add_zero] at HCT
        have HRS := Lib.hid (fun w => rstar_any x w hxz)
        rw [hs] at HRS
        clear hs
        go_wp2_with (first
          | (go_at_call 51; refine (HRS.out _).mono ?_; rintro e w' ⟨rfl, rfl⟩)
          | (at_builtin; refine wpList_append_texts rfl _ _ rfl (w2.heap.size + 1) _ _ [x] _ 1 rfl rfl (HO.out.below (below_alloc _ _)) (RT.one _ _ _) (by have := HDN.out; simp only [List.length_singleton]; omega) (by simp; omega) ?_; intro v1 w3 hown hg _; have HX3 := Lib.hid ((HPX.out.below (below_alloc _ _)).grown hg (fun h => by have := HO.out.own _ h.symm; omega)); obtain ⟨x1, x2, x3, x4, x5⟩ := HX3.out; have HBL3 := Lib.hid ((HBL.out.alloc (by omega) _).grown hg (by simp; omega) (fun k hk => by have := HO.out.own k hk; omega)); obtain ⟨g1, cap1, hv, -, -, -, hcp⟩ := hown.block (by simp); rw [List.length_append, List.length_singleton] at hv; subst hv; have HOW := Lib.hid hown; clear hown hg))
        go_roundw
        case rel => exact ⟨k + 1, _, ls, done ++ [x], by omega, by go_num, by rw [HCT.out]; rfl, Lib.hid (by rw [HCT.out]; exact HBOK.out), HN, Lib.hid (HX3.out.set_fst _), Lib.hid (HOW.out.other (p := ⟨w2.heap.size, 0, none⟩) (Nat.lt_succ_self _) _), Lib.hid (HBL3.out.setCell (p := ⟨w2.heap.size, 0, none⟩) (Nat.le_refl _) _)⟩
        case measure => simp [intOf]; omega
      | true =>
        rw [hs, if_pos rfl] at HCT
        obtain ⟨⟨zs, q⟩, ls', rfl, hcnt, hp⟩ := HS.out.next HX.out hs (by rw [HCA.out]; exact HLE.out)
        have HN := Lib.hid (HS.out.star HX.out hs)
        have HZZ := Lib.hid (fun y (hy : y ∈ zs) => HBZ.out _ (List.mem_of_getElem? hp) y hy)
        have hx5 := HS5.out x (List.mem_of_getElem? HX.out)
        have hjl := (List.getElem?_eq_some_iff.1 hp).1
        have hsz2 : (sufB x).size ≤ 5000 := by
          unfold sufB
          rw [if_pos hs]
          have := tlB_size x
          omega
        have HRS := Lib.hid (fun w => rstar_any x w hxz)
        rw [hs] at HRS
        have hcnt2 : countB starOk (xs.take k) < countB stB xs := by rw [← HCA.out]; exact hcnt
        have HNX := Lib.hid (HBOK.out.next hcnt2 hp)
        have HNB := Lib.hid (BO.bad (bs := bs) hcnt2 hp)
        clear hs hcnt hcnt2
        generalize countB starOk (xs.take k) = j at *
        have hjI : (j : Int) < (bs.length : Int) := by omega
        obtain ⟨b3, o3, rfl, hb3, hc3⟩ := (PS.y HQ).2.2 (by omega)
        obtain ⟨C, n, x1, x2, x3⟩ := hc3 j _ hp
        have y1 : wr.cell? ⟨b3, o3 + j * 2, none⟩ = some (.slice C zs.length n) := x1
        have y2 : wr.cell? ⟨b3, o3 + j * 2 + 1, none⟩ = some (.bool q) := x2
        have n1 : zs.length ≤ n := x3.1
        have n2 := x3.2.1
        by_cases hz1 : zs.length = 1
        · cases q with
          | true =>
            have HBO := Lib.hid (HNB.out bind_rest1)
            have hz1B : ((zs.length : Int) != 1) = false := by rw [hz1]; rfl
            clear hc3 x1 x2 x3 hp
            go_wp2_with (go_at_call 51; refine (HRS.out _).mono ?_; rintro e w' ⟨rfl, rfl⟩)
            refine bodyPost_ret (v := .tuple #[.agg #[.slice none 0 0, .bool false], .int .i64 33]) (by simp [results, Tryd.results48, go_sem, r1, r2, r3, r4, r5]) rfl (RetP.of ⟨none, 0, rfl, RT.nil _ _ _ (by omega), ?_⟩ (H33.out HBO.out).2.1 (H33.out HBO.out).2.2 (H33.out HBO.out).1)
            exact below_al (below_box (PS.b HQ) (by omega) _ _) _
          | false =>
            obtain ⟨y, rfl⟩ : ∃ y, zs = [y] := by
              match zs, hz1 with
              | [y], _ => exact ⟨y, rfl⟩
            obtain ⟨b4, o4, rfl, hb4, hc4⟩ := x3.2.2 (by simp)
            have hcy : wr.cell? ⟨b4, o4, none⟩ = some (.string y) := hc4 0 y rfl
            have hyz := HZZ.out y (by simp)
            have HRP := Lib.hid (fun w => rpart_any y w (by omega))
            simp only [List.length_singleton] at y1
            clear hc3 hc4 x1 x2 x3 hp hz1
            cases hpy : partB y with
            | false =>
              have HBO := Lib.hid (HNB.out (bind_one.trans hpy))
              rw [hpy] at HRP
              clear hpy
              go_wp2_with (first
                | (go_at_call 51; refine (HRS.out _).mono ?_; rintro e w' ⟨rfl, rfl⟩)
                | (go_at_call 64; refine (HRP.out _).mono ?_; rintro e w' ⟨rfl, rfl⟩))
              refine bodyPost_ret (v := .tuple #[.agg #[.slice none 0 0, .bool false], .int .i64 33]) (by simp [results, Tryd.results48, go_sem, r1, r2, r3, r4, r5]) rfl (RetP.of ⟨none, 0, rfl, RT.nil _ _ _ (by omega), ?_⟩ (H33.out HBO.out).2.1 (H33.out HBO.out).2.2 (H33.out HBO.out).1)
              exact below_al (below_box (PS.b HQ) (by omega) _ _) _
            | true =>
              have HB1 := Lib.hid (HNX.out (bind_one.trans hpy))
              rw [hpy] at HRP
              clear hpy
              go_wp2_with (first
                | (go_at_call 51; refine (HRS.out _).mono ?_; rintro e w' ⟨rfl, rfl⟩)
                | (go_at_call 64; refine (HRP.out _).mono ?_; rintro e w' ⟨rfl, rfl⟩)
                | (at_builtin; refine wpList_append_texts rfl _ _ rfl (w2.heap.size + 1) _ _ [y ++ sufB x] _ 1 rfl rfl (HO.out.below (by repeat (first | exact Below.refl _ _ | apply Below.drew | apply below_drewN | apply below_al))) (RT.one1 (by simp)) (by have := HDN.out; simp only [List.length_singleton]; omega) (by simp; omega) ?_; intro v1 w3 hown hg _; have HX3 := Lib.hid ((HPX.out.below (by repeat (first | exact Below.refl _ _ | apply Below.drew | apply below_drewN | apply below_al))).grown hg (fun h => by have := HO.out.own _ h.symm; omega)); obtain ⟨x1, x2, x3, x4, x5⟩ := HX3.out; have HBL3 := Lib.hid ((HBL.out.trans (Below.mono (by repeat (first | exact Below.refl _ _ | apply Below.drew | apply below_drewN | apply below_al)) HBL.out.size)).grown hg (by simp; omega) (fun k hk => by have := HO.out.own k hk; omega)); obtain ⟨g1, cap1, hv, -, -, -, hcp⟩ := hown.block (by simp); rw [List.length_append, List.length_singleton] at hv; subst hv; have HOW := Lib.hid hown; clear hown hg))
              go_roundw
              case rel => exact ⟨k + 1, _, ls', done ++ [y ++ sufB x], by omega, by go_num, by rw [HCT.out]; go_num, Lib.hid (by rw [HCT.out]; exact HB1.out), HN, Lib.hid (HX3.out.set_fst _), Lib.hid (HOW.out.other (p := ⟨w2.heap.size, 0, none⟩) (Nat.lt_succ_self _) _), Lib.hid (HBL3.out.setCell (p := ⟨w2.heap.size, 0, none⟩) (Nat.le_refl _) _)⟩
              case measure => simp [intOf]; omega
        · have HBO := Lib.hid (HNB.out (bind_len hz1))
          have hz1B : ((zs.length : Int) != 1) = true := by rw [bne_iff_ne]; omega
          clear hc3 x1 x2 x3 hp hz1
          go_wp2_with (go_at_call 51; refine (HRS.out _).mono ?_; rintro e w' ⟨rfl, rfl⟩)
          refine bodyPost_ret (v := .tuple #[.agg #[.slice none 0 0, .bool false], .int .i64 33]) (by simp [results, Tryd.results48, go_sem, r1, r2, r3, r4, r5]) rfl (RetP.of ⟨none, 0, rfl, RT.nil _ _ _ (by omega), ?_⟩ (H33.out HBO.out).2.1 (H33.out HBO.out).2.2 (H33.out HBO.out).1)
          exact below_al (below_box (PS.b HQ) (by omega) _ _) _
    · obtain rfl : k = xs.length := by omega
      have hd : done = flC stB tlB xs (bs.map hdP) := (HS.out.done (Nat.le_refl _)).1.trans HFA.out
      subst hd
      have hfl := flC_len stB tlB xs (bs.map hdP)
      have HB9 : Hid (BO (countB stB xs) bs (countB stB xs)) := Lib.hid (by
        have := HBOK.out
        rw [List.take_length, HCA.out] at this
        exact this)
      rw [List.take_length, HCA.out]
      clear HBOK HS
      obtain ⟨A', c', rfl, hrt⟩ := HO.out.read
      have HRT := Lib.hid hrt
      have HGD := Lib.hid (sub_good0 HN0.out HLW.out (by
        have e : bs.length = countB stB xs := by rw [HLW.out]; unfold wildB; simp
        rw [e]
        exact HB9.out))
      generalize flC stB tlB xs (bs.map hdP) = fl at *
      clear hrt
      go_wp2_with fail
      refine bodyPost_ret (v := .tuple #[.agg #[.slice A' fl.length c', .bool false], .int .i64 0]) (by simp [results, Tryd.results48, go_sem, r1, r2, r3, r4, hfl]) rfl (RetP.of ⟨A', c', rfl, ?_, ?_⟩ HGD.out.2.1 HGD.out.2.2 HGD.out.1)
      · exact HRT.out.box ⟨r1, r2, r3, r4, r5⟩ (slice_ns _ _ _) (bool_ns _) _ _
      · exact below_box (PS.b HQ) (by omega) _ _
end Go.Proofs.YtidjmbmnfnnleaaDoor

