/-
  The walk of the reference's Substitute: its work with a rest, and what it answers.
-/
import Derived.Test.YtidjmbmnfnnleaaDoorQ36
namespace Go.Proofs.YtidjmbmnfnnleaaDoor
set_option linter.unusedSimpArgs false
set_option linter.unusedVariables false
open Go.RowKit
open Pm

theorem bind_last {zs : List ByteArray} {q : Bool} : bindOk zs q true = if zs.length = 0 ∧ q = false then false else zs.all partB := by
  unfold bindOk
  by_cases h : zs.length = 0 ∧ q = false
  · rw [if_pos (.inr h), if_pos h]
  · rw [if_neg (by rintro (⟨h1, _⟩ | h1); cases h1; exact h h1), if_neg h]
theorem last_of {xs : List ByteArray} {bs : List (List ByteArray × Bool)} {p : List ByteArray × Bool} (h : bs[countB stB xs]? = some p) : lastP xs bs = p := by
  unfold lastP
  rw [List.getD, h]
  rfl
theorem sub_good1 {xs : List ByteArray} {bs : List (List ByteArray × Bool)} {p : List ByteArray × Bool} (hn : checkP xs true = 0) (hl : bs.length = wildB stB xs true) (hp : bs[countB stB xs]? = some p) (hb : BO (countB stB xs) bs bs.length) :
    (12 < xs.length + p.1.length → subE xs true bs = 31 ∧ subL xs true bs = [] ∧ subR xs true bs = false) ∧ (¬ 12 < xs.length + p.1.length → subE xs true bs = 0 ∧ subL xs true bs = flC stB tlB xs (bs.map hdP) ++ p.1 ∧ subR xs true bs = p.2) := by
  have hlp := last_of hp
  constructor
  · intro h12
    have e : subE xs true bs = 31 := by
      unfold subE
      rw [if_neg (by simp [hn]), if_neg (by simp [hl]), if_neg (by simp [bsOk_iff.2 hb]), if_pos ⟨rfl, by rw [hlp]; exact h12⟩]
    exact ⟨e, sub_err e (by decide)⟩
  · intro h12
    have e : subE xs true bs = 0 := by
      unfold subE
      rw [if_neg (by simp [hn]), if_neg (by simp [hl]), if_neg (by simp [bsOk_iff.2 hb]), if_neg (by rw [hlp]; exact fun h => h12 h.2)]
    exact ⟨e, by unfold subL; rw [if_pos e, if_pos rfl, hlp], by unfold subR; rw [if_pos e, hlp]; rfl⟩
theorem take_all {zs : List ByteArray} {m : Nat} {z : ByteArray} (h : zs[m]? = some z) (ha : (zs.take m).all partB = true) (hz : partB z = true) : (zs.take (m + 1)).all partB = true := by
  rw [List.take_add_one, h, List.all_append, ha]
  simp [hz]
theorem all_bad {zs : List ByteArray} {m : Nat} {z : ByteArray} (h : zs[m]? = some z) (hz : partB z = false) : zs.all partB = false :=
  List.all_eq_false.2 ⟨z, List.mem_of_getElem? h, by rw [hz]; simp⟩

set_option maxHeartbeats 8000000 in
set_option maxRecDepth 100000 in
theorem rsub_rest (A B : Option Addr) (c d : Nat) (xs : List ByteArray) (bs : List (List ByteArray × Bool)) (w : World) (h : RT w A c xs) (k : BT w B d bs)
    (hsx : ∀ x ∈ xs, x.size ≤ 5000) (hbz : ∀ b ∈ bs, ∀ x ∈ b.1, x.size ≤ 5000) (hbl : ∀ b ∈ bs, b.1.length ≤ 5000) (hn : checkP xs true = 0) (hl : bs.length = wildB stB xs true) :
    Calls Tryd.prog 48 #[.agg #[.slice A xs.length c, .bool true], .slice B bs.length d] w (RetP w (subL xs true bs) (subR xs true bs) (subE xs true bs)) := by
  have HS5 := Lib.hid hsx
  have HN0 := Lib.hid hn
  have HBN : Hid (∀ b : List ByteArray × Bool, b ∈ bs → b.1.length ≤ 5000) := Lib.hid hbl
  replace hsx : ∀ x ∈ xs, x.size ≤ 9223372036854775807 := fun x hx => by have := HS5.out x hx; omega
  have HI := PS.enter h k true 24
  have hx12 := (check_zero hn).2.1
  have hx0 := (check_zero hn).1
  have HK := Lib.hid (fun W (h : RT W A c xs) => rcheck_any A c xs true W h hsx)
  have HWC := Lib.hid (fun W (h : RT W A c xs) => rwild_any A c xs true W h hsx (by omega))
  rw [wild_agree (parts_all (check_zero hn).2.2)] at HWC
  rw [hn] at HK
  have HCA := Lib.hid (count_agree (parts_all (check_zero hn).2.2))
  have HFA := Lib.hid (flC_agree (parts_all (check_zero hn).2.2) (bs.map hdP))
  have HSX := Lib.hid hsx
  have HBZ := Lib.hid hbz
  have H33 := Lib.hid (sub_33 hn hl)
  have HLE : Hid (countB stB xs ≤ bs.length) := Lib.hid (by rw [hl]; unfold wildB; omega)
  have HLW := Lib.hid hl
  have hx1 := h.1
  have hx2 := h.2.1
  have hy1 := k.1
  have hy2 := k.2.1
  have hl3 : ((bs.length : Int) != (wildB stB xs true : Nat)) = false := by rw [hl]; simp
  have hl4 : ((bs.length : Int) == (wildB stB xs true : Nat)) = true := by rw [hl]; simp
  generalize wildB stB xs true = st at hl3 hl4 HWC
  clear h k hsx hn hl hbz hbl
  go_enter Tryd.func48, Tryd.ntmps48
  go_wp2_with (first
    | (go_at_call 41; refine (HK.out _ (PS.x (HI.go (by repeat (first | exact Below.refl _ _ | apply Below.drew | apply below_drewN | apply below_al))))).mono ?_; rintro e w1 ⟨rfl, hb⟩; replace HI := HI.go2 (by repeat (first | exact Below.refl _ _ | apply Below.drew | apply below_drewN | apply below_al)) hb; clear hb; obtain ⟨⟨p1, p2, p3, p4, p5⟩, ⟨r1, r2, r3, r4, r5⟩⟩ := PS.cells HI)
    | (go_at_call 58; refine (HWC.out _ (PS.x (HI.go (by repeat (first | exact Below.refl _ _ | apply Below.drew | apply below_drewN | apply below_al))))).mono ?_; rintro e w2 ⟨rfl, hb⟩; replace HI := HI.go2 (by repeat (first | exact Below.refl _ _ | apply Below.drew | apply below_drewN | apply below_al)) hb; clear hb; obtain ⟨⟨p1, p2, p3, p4, p5⟩, ⟨r1, r2, r3, r4, r5⟩⟩ := PS.cells HI))
  go_loopw [8, 32] (fun j i wr => ∃ (k : Nat) (v : Value) (ls : List (List ByteArray × Bool)) (done : List ByteArray), k ≤ xs.length ∧ i = .int .i64 k ∧ j = .int .i64 (countB starOk (xs.take k) : Nat) ∧ Hid (BO (countB stB xs) bs (countB starOk (xs.take k))) ∧ Hid (SI starOk sufB xs bs k ls done) ∧ Hid (PX wr w2.heap.size v (.bool false)) ∧ Hid (OT wr (w2.heap.size + 1) v done) ∧ Hid (Below w2.heap.size w2 wr)) (fun _ i _ => xs.length - (intOf i).toNat)
  case atStart => exact ⟨0, .slice none 0 0, bs, [], Nat.zero_le _, rfl, rfl, Lib.hid (BO.zero _ _), Lib.hid (SI.start _ _ _ _), Lib.hid (PX.new _ _ _ _), Lib.hid (OT.nil _ _), Lib.hid (below_alloc _ _)⟩
  case round =>
    obtain ⟨k, v, ls, done, hk, rfl, rfl, HBOK, HS, HPX, HO, HBL⟩ := hrel
    clear p1 p2 p3 p4 p5 r1 r2 r3 r4 r5
    have HQ := HI.go HBL.out
    have hsz := HBL.out.size
    obtain ⟨⟨p1, p2, p3, p4, p5⟩, ⟨r1, r2, r3, r4, r5⟩⟩ := PS.cells HQ
    obtain ⟨t1, t2, t3, t4, t5⟩ := HPX.out
    have HDN := Lib.hid HS.out.1
    by_cases hlt : k < xs.length
    · obtain ⟨x, hx⟩ : ∃ x, xs[k]? = some x := ⟨_, List.getElem?_eq_getElem hlt⟩
      obtain ⟨b1, o1, rfl, hb1, hc1⟩ := (PS.x HQ).2.2 (by omega)
      have hcx := hc1 k x hx
      have hxz := HSX.out x (List.mem_of_getElem? hx)
      have HX := Lib.hid hx
      have HCT := Lib.hid (count_step (st := starOk) hx)
      clear hc1 hx hb1
      cases hs : starOk x with
      | false =>
        have HN := Lib.hid (HS.out.part HX.out hs)
        rw [hs, if_neg (by decide), Nat.add_zero] at HCT
        have HRS := Lib.hid (fun w => rstar_any x w hxz)
        rw [hs] at HRS
        clear hs
        go_wp2_with (first
          | (go_at_call 51; refine (HRS.out _).mono ?_; rintro e w' ⟨rfl, rfl⟩)
          | (at_builtin; refine wpList_append_texts rfl _ _ rfl (w2.heap.size + 1) _ _ [x] _ 1 rfl rfl (HO.out.below (below_alloc _ _)) (RT.one _ _ _) (by have := HDN.out; simp only [List.length_singleton]; omega) (by simp; omega) ?_; intro v1 w3 hown hg _; have HX3 := Lib.hid ((HPX.out.below (below_alloc _ _)).grown hg (fun h => by have := HO.out.own _ h.symm; omega)); obtain ⟨x1, x2, x3, x4, x5⟩ := HX3.out; have HBL3 := Lib.hid ((HBL.out.alloc (by omega) _).grown hg (by simp; omega) (fun k hk => by have := HO.out.own k hk; omega)); obtain ⟨g1, cap1, hv, -, -, -, hcp⟩ := hown.block (by simp); rw [List.length_append, List.length_singleton] at hv; subst hv; have HOW := Lib.hid hown; clear hown hg))
        go_roundw
        case rel => exact ⟨k + 1, _, ls, done ++ [x], by omega, by go_num, by rw [HCT.out]; rfl, Lib.hid (by rw [HCT.out]; exact HBOK.out), HN, Lib.hid (HX3.out.set_fst _), Lib.hid (HOW.out.other (p := ⟨w2.heap.size, 0, none⟩) (Nat.lt_succ_self _) _), Lib.hid (HBL3.out.setCell (p := ⟨w2.heap.size, 0, none⟩) (Nat.le_refl _) _)⟩
        case measure => simp [intOf]; omega
      | true =>
        rw [hs, if_pos rfl] at HCT
        obtain ⟨⟨zs, q⟩, ls', rfl, hcnt, hp⟩ := HS.out.next HX.out hs (by rw [HCA.out]; exact HLE.out)
        have HN := Lib.hid (HS.out.star HX.out hs)
        have HZZ := Lib.hid (fun y (hy : y ∈ zs) => HBZ.out _ (List.mem_of_getElem? hp) y hy)
        have hx5 := HS5.out x (List.mem_of_getElem? HX.out)
        have hjl := (List.getElem?_eq_some_iff.1 hp).1
        have hsz2 : (sufB x).size ≤ 5000 := by
          unfold sufB
          rw [if_pos hs]
          have := tlB_size x
          omega
        have HRS := Lib.hid (fun w => rstar_any x w hxz)
        rw [hs] at HRS
        have hcnt2 : countB starOk (xs.take k) < countB stB xs := by rw [← HCA.out]; exact hcnt
        have HNX := Lib.hid (HBOK.out.next hcnt2 hp)
        have HNB := Lib.hid (BO.bad (bs := bs) hcnt2 hp)
        clear hs hcnt hcnt2
        generalize countB starOk (xs.take k) = j at *
        have hjI : (j : Int) < (bs.length : Int) := by omega
        obtain ⟨b3, o3, rfl, hb3, hc3⟩ := (PS.y HQ).2.2 (by omega)
        obtain ⟨C, n, x1, x2, x3⟩ := hc3 j _ hp
        have y1 : wr.cell? ⟨b3, o3 + j * 2, none⟩ = some (.slice C zs.length n) := x1
        have y2 : wr.cell? ⟨b3, o3 + j * 2 + 1, none⟩ = some (.bool q) := x2
        have n1 : zs.length ≤ n := x3.1
        have n2 := x3.2.1
        by_cases hz1 : zs.length = 1
        · cases q with
          | true =>
            have HBO := Lib.hid (HNB.out bind_rest1)
            have hz1B : ((zs.length : Int) != 1) = false := by rw [hz1]; rfl
            clear hc3 x1 x2 x3 hp
            go_wp2_with (go_at_call 51; refine (HRS.out _).mono ?_; rintro e w' ⟨rfl, rfl⟩)
            refine bodyPost_ret (v := .tuple #[.agg #[.slice none 0 0, .bool false], .int .i64 33]) (by simp [results, Tryd.results48, go_sem, r1, r2, r3, r4, r5]) rfl (RetP.of ⟨none, 0, rfl, RT.nil _ _ _ (by omega), ?_⟩ (H33.out HBO.out).2.1 (H33.out HBO.out).2.2 (H33.out HBO.out).1)
            exact below_al (below_box (PS.b HQ) (by omega) _ _) _
          | false =>
            obtain ⟨y, rfl⟩ : ∃ y, zs = [y] := by
              match zs, hz1 with
              | [y], _ => exact ⟨y, rfl⟩
            obtain ⟨b4, o4, rfl, hb4, hc4⟩ := x3.2.2 (by simp)
            have hcy : wr.cell? ⟨b4, o4, none⟩ = some (.string y) := hc4 0 y rfl
            have hyz := HZZ.out y (by simp)
            have HRP := Lib.hid (fun w => rpart_any y w (by omega))
            simp only [List.length_singleton] at y1
            clear hc3 hc4 x1 x2 x3 hp hz1
            cases hpy : partB y with
            | false =>
              have HBO := Lib.hid (HNB.out (bind_one.trans hpy))
              rw [hpy] at HRP
              clear hpy
              go_wp2_with (first
                | (go_at_call 51; refine (HRS.out _).mono ?_; rintro e w' ⟨rfl, rfl⟩)
                | (go_at_call 64; refine (HRP.out _).mono ?_; rintro e w' ⟨rfl, rfl⟩))
              refine bodyPost_ret (v := .tuple #[.agg #[.slice none 0 0, .bool false], .int .i64 33]) (by simp [results, Tryd.results48, go_sem, r1, r2, r3, r4, r5]) rfl (RetP.of ⟨none, 0, rfl, RT.nil _ _ _ (by omega), ?_⟩ (H33.out HBO.out).2.1 (H33.out HBO.out).2.2 (H33.out HBO.out).1)
              exact below_al (below_box (PS.b HQ) (by omega) _ _) _
            | true =>
              have HB1 := Lib.hid (HNX.out (bind_one.trans hpy))
              rw [hpy] at HRP
              clear hpy
              go_wp2_with (first
                | (go_at_call 51; refine (HRS.out _).mono ?_; rintro e w' ⟨rfl, rfl⟩)
                | (go_at_call 64; refine (HRP.out _).mono ?_; rintro e w' ⟨rfl, rfl⟩)
                | (at_builtin; refine wpList_append_texts rfl _ _ rfl (w2.heap.size + 1) _ _ [y ++ sufB x] _ 1 rfl rfl (HO.out.below (by repeat (first | exact Below.refl _ _ | apply Below.drew | apply below_drewN | apply below_al))) (RT.one1 (by simp)) (by have := HDN.out; simp only [List.length_singleton]; omega) (by simp; omega) ?_; intro v1 w3 hown hg _; have HX3 := Lib.hid ((HPX.out.below (by repeat (first | exact Below.refl _ _ | apply Below.drew | apply below_drewN | apply below_al))).grown hg (fun h => by have := HO.out.own _ h.symm; omega)); obtain ⟨x1, x2, x3, x4, x5⟩ := HX3.out; have HBL3 := Lib.hid ((HBL.out.trans (Below.mono (by repeat (first | exact Below.refl _ _ | apply Below.drew | apply below_drewN | apply below_al)) HBL.out.size)).grown hg (by simp; omega) (fun k hk => by have := HO.out.own k hk; omega)); obtain ⟨g1, cap1, hv, -, -, -, hcp⟩ := hown.block (by simp); rw [List.length_append, List.length_singleton] at hv; subst hv; have HOW := Lib.hid hown; clear hown hg))
              go_roundw
              case rel => exact ⟨k + 1, _, ls', done ++ [y ++ sufB x], by omega, by go_num, by rw [HCT.out]; go_num, Lib.hid (by rw [HCT.out]; exact HB1.out), HN, Lib.hid (HX3.out.set_fst _), Lib.hid (HOW.out.other (p := ⟨w2.heap.size, 0, none⟩) (Nat.lt_succ_self _) _), Lib.hid (HBL3.out.setCell (p := ⟨w2.heap.size, 0, none⟩) (Nat.le_refl _) _)⟩
              case measure => simp [intOf]; omega
        · have HBO := Lib.hid (HNB.out (bind_len hz1))
          have hz1B : ((zs.length : Int) != 1) = true := by rw [bne_iff_ne]; omega
          clear hc3 x1 x2 x3 hp hz1
          go_wp2_with (go_at_call 51; refine (HRS.out _).mono ?_; rintro e w' ⟨rfl, rfl⟩)
          refine bodyPost_ret (v := .tuple #[.agg #[.slice none 0 0, .bool false], .int .i64 33]) (by simp [results, Tryd.results48, go_sem, r1, r2, r3, r4, r5]) rfl (RetP.of ⟨none, 0, rfl, RT.nil _ _ _ (by omega), ?_⟩ (H33.out HBO.out).2.1 (H33.out HBO.out).2.2 (H33.out HBO.out).1)
          exact below_al (below_box (PS.b HQ) (by omega) _ _) _
    · obtain rfl : k = xs.length := by omega
      have hd : done = flC stB tlB xs (bs.map hdP) := (HS.out.done (Nat.le_refl _)).1.trans HFA.out
      subst hd
      have hfl := flC_len stB tlB xs (bs.map hdP)
      have HB9 : Hid (BO (countB stB xs) bs (countB stB xs)) := Lib.hid (by
        have := HBOK.out
        rw [List.take_length, HCA.out] at this
        exact this)
      rw [List.take_length, HCA.out]
      clear HBOK HS
      obtain ⟨g1, cap1, rfl, hg1a, hg1b, hcap1, hcap2⟩ := HO.out.block (by rw [hfl]; exact hx0)
      rw [hfl] at HO t1 HPX hcap1
      have HFL := Lib.hid hfl
      clear hfl
      have hw2 := (PS.cells HI).2.2.2.2.2
      have hne5 : ¬ w2.heap.size = w.heap.size + 1 := by omega
      have hne6 : ¬ w.heap.size + 1 = w2.heap.size := by omega
      have hct : bs.length = countB stB xs + 1 := by rw [HLW.out]; unfold wildB; simp
      obtain ⟨⟨zs, q⟩, hp⟩ : ∃ p, bs[countB stB xs]? = some p := ⟨_, List.getElem?_eq_getElem (by omega)⟩
      obtain ⟨b3, o3, rfl, hb3, hc3⟩ := (PS.y HQ).2.2 (by omega)
      obtain ⟨C, n, x1, x2, x3⟩ := hc3 _ _ hp
      have y1 : wr.cell? ⟨b3, o3 + countB stB xs * 2, none⟩ = some (.slice C zs.length n) := x1
      have y2 : wr.cell? ⟨b3, o3 + countB stB xs * 2 + 1, none⟩ = some (.bool q) := x2
      have n1 : zs.length ≤ n := x3.1
      have n2 := x3.2.1
      have HRZ := Lib.hid x3
      have HZZ := Lib.hid (fun y (hy : y ∈ zs) => HBZ.out _ (List.mem_of_getElem? hp) y hy)
      have hzl : zs.length ≤ 5000 := HBN.out _ (List.mem_of_getElem? hp)
      have hctI : (countB stB xs : Int) < (bs.length : Int) := by omega
      have HGOOD := Lib.hid (sub_good1 HN0.out HLW.out hp)
      have HNB : Hid (zs.all partB = false → ¬ BO (countB stB xs) bs bs.length) := Lib.hid (fun ha => BO.no hp (by
        rw [decide_eq_true rfl, bind_last]
        split
        · rfl
        · exact ha))
      by_cases hzq : zs.length = 0 ∧ q = false
      · have HBO : Hid (¬ BO (countB stB xs) bs bs.length) := Lib.hid (BO.no hp (by rw [decide_eq_true rfl, bind_last, if_pos hzq]))
        obtain ⟨hz0, rfl⟩ := hzq
        have hzB : ((zs.length : Int) == 0) = true := by rw [hz0]; rfl
        clear hc3 x1 x2 x3 hp hz0
        generalize countB stB xs = ct at *
        generalize flC stB tlB xs (bs.map hdP) = fl at *
        go_wp2_with fail
        refine bodyPost_ret (v := .tuple #[.agg #[.slice none 0 0, .bool false], .int .i64 33]) (by simp [results, Tryd.results48, go_sem, r1, r2, r3, r4, r5]) rfl (RetP.of ⟨none, 0, rfl, RT.nil _ _ _ (by omega), ?_⟩ (H33.out HBO.out).2.1 (H33.out HBO.out).2.2 (H33.out HBO.out).1)
        exact below_al (below_box (PS.b HQ) (by omega) _ _) _
      · have HNX : Hid (zs.all partB = true → BO (countB stB xs) bs bs.length) := Lib.hid (fun ha => by
          have := HB9.out.step hp (by
            rw [decide_eq_true rfl, bind_last, if_neg hzq]
            exact ha)
          rwa [← hct] at this)
        clear hc3 x1 x2 x3 hp
        generalize countB stB xs = ct at *
        generalize flC stB tlB xs (bs.map hdP) = fl at *
        by_cases h12 : 12 < xs.length + zs.length
        · have H12 := Lib.hid h12
          have h12I : (12 : Int) < (xs.length : Int) + (zs.length : Int) := by omega
          by_cases hz0 : zs.length = 0
          · have hzB : ((zs.length : Int) == 0) = true := by rw [hz0]; rfl
            obtain rfl : q = true := by
              cases q with
              | true => rfl
              | false => exact absurd ⟨hz0, rfl⟩ hzq
            clear hz0 hzq
            go_wp2_with fail
            go_loop [97] (fun i => ∃ m : Nat, m ≤ zs.length ∧ i = .int .i64 m ∧ Hid ((zs.take m).all partB = true)) (fun i => zs.length - (intOf i).toNat)
            case atStart => exact ⟨0, Nat.zero_le _, rfl, Lib.hid (by simp)⟩
            case round =>
              obtain ⟨m, hm, rfl, HTA⟩ := hrel
              by_cases hlt2 : m < zs.length
              · obtain ⟨z, hz⟩ : ∃ z, zs[m]? = some z := ⟨_, List.getElem?_eq_getElem hlt2⟩
                obtain ⟨b5, o5, rfl, hb5, hc5⟩ := HRZ.out.2.2 (by omega)
                have hcz := hc5 m z hz
                have hzz := HZZ.out z (List.mem_of_getElem? hz)
                have HRP := Lib.hid (fun w => rpart_any z w (by omega))
                have HZ := Lib.hid hz
                clear hc5 hz
                cases hpz : partB z with
                | false =>
                  have HBO := Lib.hid (HNB.out (all_bad HZ.out hpz))
                  rw [hpz] at HRP
                  clear hpz
                  go_wp2_with (go_at_call 64; refine (HRP.out _).mono ?_; rintro e w' ⟨rfl, rfl⟩)
                  refine bodyPost_ret (v := .tuple #[.agg #[.slice none 0 0, .bool false], .int .i64 33]) (by simp [results, Tryd.results48, go_sem, r1, r2, r3, r4, r5]) rfl (RetP.of ⟨none, 0, rfl, RT.nil _ _ _ (by omega), ?_⟩ (H33.out HBO.out).2.1 (H33.out HBO.out).2.2 (H33.out HBO.out).1)
                  exact below_al (below_box (PS.b HQ) (by omega) _ _) _
                | true =>
                  have HN := Lib.hid (take_all HZ.out HTA.out hpz)
                  rw [hpz] at HRP
                  clear hpz
                  go_wp2_with (go_at_call 64; refine (HRP.out _).mono ?_; rintro e w' ⟨rfl, rfl⟩)
                  go_round
                  case rel => exact ⟨m + 1, by omega, by go_num, HN⟩
                  case measure => simp [intOf]; omega
              · have HALL : Hid (zs.all partB = true) := Lib.hid (by
                  have := HTA.out
                  rwa [List.take_of_length_le (by omega)] at this)
                have HGD := Lib.hid (HGOOD.out (HNX.out HALL.out))
                have hown := HO.out.own g1 rfl
                go_wp2_with fail
                go_region_law (refine step_append_textsN rfl _ _ rfl (w2.heap.size + 1) _ fl zs C n zs.length rfl rfl rfl (HO.out.below (by repeat (first | exact Below.refl _ _ | apply Below.drew | apply below_drewN | apply below_al))) (HRZ.out.below (by repeat (first | exact Below.refl _ _ | apply Below.drew | apply below_drewN | apply below_al))) (by rw [HFL.out]; omega) (by simp; omega) ?_; intro v2 w4 hown2 hg2 hor2; have HBW := Lib.hid ((HBL.out.trans (Below.mono (by repeat (first | exact Below.refl _ _ | apply Below.drew | apply below_drewN | apply below_al)) HBL.out.size)).grown hg2 (by simp; omega) (fun k hk => by have := HO.out.own k hk; omega)); have HX3 := Lib.hid ((HPX.out.below (by repeat (first | exact Below.refl _ _ | apply Below.drew | apply below_drewN | apply below_al))).grown hg2 (fun h => by have h2 : some w2.heap.size = some g1 := h; have := Option.some.inj h2; omega)); have HRW := Lib.hid hown2.read; obtain ⟨g2, cap2, hv, h2a, h2b, h2c, h2d⟩ := hown2.block (by rw [List.length_append, HFL.out]; omega); rw [List.length_append, HFL.out] at hv h2c; subst hv; have y3 := hg2.cell (a := ⟨wr.heap.size, 1, none⟩) (v := .bool true) (by simp [World.cell?_alloc_new]) (fun h => by have h2 : some wr.heap.size = some g1 := h; have := Option.some.inj h2; omega); have HQ2 := HI.go HBW.out; clear hown2 hg2 hor2 p1 p2 p3 p4 p5 r1 r2 r3 r4 r5 t1 t2 t3 t4 t5; obtain ⟨⟨p1, p2, p3, p4, p5⟩, ⟨r1, r2, r3, r4, r5⟩⟩ := PS.cells HQ2; obtain ⟨t1, t2, t3, t4, t5⟩ := HX3.out)
                all_goals (go_wp2_with fail)
                all_goals
                  refine bodyPost_ret (v := .tuple #[.agg #[.slice none 0 0, .bool false], .int .i64 31]) (by simp [results, Tryd.results48, go_sem, r1, r2, r3, r4, r5, hne5, hne6]) rfl (RetP.of ⟨none, 0, rfl, RT.nil _ _ _ (by omega), ?_⟩ (HGD.out.1 H12.out).2.1 (HGD.out.1 H12.out).2.2 (HGD.out.1 H12.out).1)
                  exact below_box (below_box (PS.b HQ2) (by omega) _ _) (by omega) _ _
          · have hzB : ((zs.length : Int) == 0) = false := by rw [beq_eq_false_iff_ne]; omega
            clear hz0 hzq
            go_wp2_with fail
            go_loop [97] (fun i => ∃ m : Nat, m ≤ zs.length ∧ i = .int .i64 m ∧ Hid ((zs.take m).all partB = true)) (fun i => zs.length - (intOf i).toNat)
            case atStart => exact ⟨0, Nat.zero_le _, rfl, Lib.hid (by simp)⟩
            case round =>
              obtain ⟨m, hm, rfl, HTA⟩ := hrel
              by_cases hlt2 : m < zs.length
              · obtain ⟨z, hz⟩ : ∃ z, zs[m]? = some z := ⟨_, List.getElem?_eq_getElem hlt2⟩
                obtain ⟨b5, o5, rfl, hb5, hc5⟩ := HRZ.out.2.2 (by omega)
                have hcz := hc5 m z hz
                have hzz := HZZ.out z (List.mem_of_getElem? hz)
                have HRP := Lib.hid (fun w => rpart_any z w (by omega))
                have HZ := Lib.hid hz
                clear hc5 hz
                cases hpz : partB z with
                | false =>
                  have HBO := Lib.hid (HNB.out (all_bad HZ.out hpz))
                  rw [hpz] at HRP
                  clear hpz
                  go_wp2_with (go_at_call 64; refine (HRP.out _).mono ?_; rintro e w' ⟨rfl, rfl⟩)
                  refine bodyPost_ret (v := .tuple #[.agg #[.slice none 0 0, .bool false], .int .i64 33]) (by simp [results, Tryd.results48, go_sem, r1, r2, r3, r4, r5]) rfl (RetP.of ⟨none, 0, rfl, RT.nil _ _ _ (by omega), ?_⟩ (H33.out HBO.out).2.1 (H33.out HBO.out).2.2 (H33.out HBO.out).1)
                  exact below_al (below_box (PS.b HQ) (by omega) _ _) _
                | true =>
                  have HN := Lib.hid (take_all HZ.out HTA.out hpz)
                  rw [hpz] at HRP
                  clear hpz
                  go_wp2_with (go_at_call 64; refine (HRP.out _).mono ?_; rintro e w' ⟨rfl, rfl⟩)
                  go_round
                  case rel => exact ⟨m + 1, by omega, by go_num, HN⟩
                  case measure => simp [intOf]; omega
              · have HALL : Hid (zs.all partB = true) := Lib.hid (by
                  have := HTA.out
                  rwa [List.take_of_length_le (by omega)] at this)
                have HGD := Lib.hid (HGOOD.out (HNX.out HALL.out))
                have hown := HO.out.own g1 rfl
                go_wp2_with fail
                go_region_law (refine step_append_textsN rfl _ _ rfl (w2.heap.size + 1) _ fl zs C n zs.length rfl rfl rfl (HO.out.below (by repeat (first | exact Below.refl _ _ | apply Below.drew | apply below_drewN | apply below_al))) (HRZ.out.below (by repeat (first | exact Below.refl _ _ | apply Below.drew | apply below_drewN | apply below_al))) (by rw [HFL.out]; omega) (by simp; omega) ?_; intro v2 w4 hown2 hg2 hor2; have HBW := Lib.hid ((HBL.out.trans (Below.mono (by repeat (first | exact Below.refl _ _ | apply Below.drew | apply below_drewN | apply below_al)) HBL.out.size)).grown hg2 (by simp; omega) (fun k hk => by have := HO.out.own k hk; omega)); have HX3 := Lib.hid ((HPX.out.below (by repeat (first | exact Below.refl _ _ | apply Below.drew | apply below_drewN | apply below_al))).grown hg2 (fun h => by have h2 : some w2.heap.size = some g1 := h; have := Option.some.inj h2; omega)); have HRW := Lib.hid hown2.read; obtain ⟨g2, cap2, hv, h2a, h2b, h2c, h2d⟩ := hown2.block (by rw [List.length_append, HFL.out]; omega); rw [List.length_append, HFL.out] at hv h2c; subst hv; have y3 := hg2.cell (a := ⟨wr.heap.size, 1, none⟩) (v := .bool q) (by simp [World.cell?_alloc_new]) (fun h => by have h2 : some wr.heap.size = some g1 := h; have := Option.some.inj h2; omega); have HQ2 := HI.go HBW.out; clear hown2 hg2 hor2 p1 p2 p3 p4 p5 r1 r2 r3 r4 r5 t1 t2 t3 t4 t5; obtain ⟨⟨p1, p2, p3, p4, p5⟩, ⟨r1, r2, r3, r4, r5⟩⟩ := PS.cells HQ2; obtain ⟨t1, t2, t3, t4, t5⟩ := HX3.out)
                all_goals (go_wp2_with fail)
                all_goals
                  refine bodyPost_ret (v := .tuple #[.agg #[.slice none 0 0, .bool false], .int .i64 31]) (by simp [results, Tryd.results48, go_sem, r1, r2, r3, r4, r5, hne5, hne6]) rfl (RetP.of ⟨none, 0, rfl, RT.nil _ _ _ (by omega), ?_⟩ (HGD.out.1 H12.out).2.1 (HGD.out.1 H12.out).2.2 (HGD.out.1 H12.out).1)
                  exact below_box (below_box (PS.b HQ2) (by omega) _ _) (by omega) _ _
        · have H12 := Lib.hid h12
          have h12I : ¬ (12 : Int) < (xs.length : Int) + (zs.length : Int) := by omega
          by_cases hz0 : zs.length = 0
          · have hzB : ((zs.length : Int) == 0) = true := by rw [hz0]; rfl
            obtain rfl : q = true := by
              cases q with
              | true => rfl
              | false => exact absurd ⟨hz0, rfl⟩ hzq
            clear hz0 hzq
            go_wp2_with fail
            go_loop [97] (fun i => ∃ m : Nat, m ≤ zs.length ∧ i = .int .i64 m ∧ Hid ((zs.take m).all partB = true)) (fun i => zs.length - (intOf i).toNat)
            case atStart => exact ⟨0, Nat.zero_le _, rfl, Lib.hid (by simp)⟩
            case round =>
              obtain ⟨m, hm, rfl, HTA⟩ := hrel
              by_cases hlt2 : m < zs.length
              · obtain ⟨z, hz⟩ : ∃ z, zs[m]? = some z := ⟨_, List.getElem?_eq_getElem hlt2⟩
                obtain ⟨b5, o5, rfl, hb5, hc5⟩ := HRZ.out.2.2 (by omega)
                have hcz := hc5 m z hz
                have hzz := HZZ.out z (List.mem_of_getElem? hz)
                have HRP := Lib.hid (fun w => rpart_any z w (by omega))
                have HZ := Lib.hid hz
                clear hc5 hz
                cases hpz : partB z with
                | false =>
                  have HBO := Lib.hid (HNB.out (all_bad HZ.out hpz))
                  rw [hpz] at HRP
                  clear hpz
                  go_wp2_with (go_at_call 64; refine (HRP.out _).mono ?_; rintro e w' ⟨rfl, rfl⟩)
                  refine bodyPost_ret (v := .tuple #[.agg #[.slice none 0 0, .bool false], .int .i64 33]) (by simp [results, Tryd.results48, go_sem, r1, r2, r3, r4, r5]) rfl (RetP.of ⟨none, 0, rfl, RT.nil _ _ _ (by omega), ?_⟩ (H33.out HBO.out).2.1 (H33.out HBO.out).2.2 (H33.out HBO.out).1)
                  exact below_al (below_box (PS.b HQ) (by omega) _ _) _
                | true =>
                  have HN := Lib.hid (take_all HZ.out HTA.out hpz)
                  rw [hpz] at HRP
                  clear hpz
                  go_wp2_with (go_at_call 64; refine (HRP.out _).mono ?_; rintro e w' ⟨rfl, rfl⟩)
                  go_round
                  case rel => exact ⟨m + 1, by omega, by go_num, HN⟩
                  case measure => simp [intOf]; omega
              · have HALL : Hid (zs.all partB = true) := Lib.hid (by
                  have := HTA.out
                  rwa [List.take_of_length_le (by omega)] at this)
                have HGD := Lib.hid (HGOOD.out (HNX.out HALL.out))
                have hown := HO.out.own g1 rfl
                go_wp2_with fail
                go_region_law (refine step_append_textsN rfl _ _ rfl (w2.heap.size + 1) _ fl zs C n zs.length rfl rfl rfl (HO.out.below (by repeat (first | exact Below.refl _ _ | apply Below.drew | apply below_drewN | apply below_al))) (HRZ.out.below (by repeat (first | exact Below.refl _ _ | apply Below.drew | apply below_drewN | apply below_al))) (by rw [HFL.out]; omega) (by simp; omega) ?_; intro v2 w4 hown2 hg2 hor2; have HBW := Lib.hid ((HBL.out.trans (Below.mono (by repeat (first | exact Below.refl _ _ | apply Below.drew | apply below_drewN | apply below_al)) HBL.out.size)).grown hg2 (by simp; omega) (fun k hk => by have := HO.out.own k hk; omega)); have HX3 := Lib.hid ((HPX.out.below (by repeat (first | exact Below.refl _ _ | apply Below.drew | apply below_drewN | apply below_al))).grown hg2 (fun h => by have h2 : some w2.heap.size = some g1 := h; have := Option.some.inj h2; omega)); have HRW := Lib.hid hown2.read; obtain ⟨g2, cap2, hv, h2a, h2b, h2c, h2d⟩ := hown2.block (by rw [List.length_append, HFL.out]; omega); rw [List.length_append, HFL.out] at hv h2c; subst hv; have y3 := hg2.cell (a := ⟨wr.heap.size, 1, none⟩) (v := .bool true) (by simp [World.cell?_alloc_new]) (fun h => by have h2 : some wr.heap.size = some g1 := h; have := Option.some.inj h2; omega); have HQ2 := HI.go HBW.out; clear hown2 hg2 hor2 p1 p2 p3 p4 p5 r1 r2 r3 r4 r5 t1 t2 t3 t4 t5; obtain ⟨⟨p1, p2, p3, p4, p5⟩, ⟨r1, r2, r3, r4, r5⟩⟩ := PS.cells HQ2; obtain ⟨t1, t2, t3, t4, t5⟩ := HX3.out)
                all_goals (go_wp2_with fail)
                all_goals
                  refine bodyPost_ret (v := .tuple #[.agg #[.slice (some ⟨g2, 0, none⟩) (xs.length + zs.length) cap2, .bool true], .int .i64 0]) (by simp [results, Tryd.results48, go_sem, r1, r2, r3, r4, r5, hne5, hne6]) rfl (RetP.of ⟨some ⟨g2, 0, none⟩, cap2, by rw [List.length_append, HFL.out], ?_, ?_⟩ (HGD.out.2 H12.out).2.1 (HGD.out.2 H12.out).2.2 (HGD.out.2 H12.out).1)
                  · obtain ⟨A', c', e, hrt⟩ := HRW.out
                    obtain ⟨e1, _, e2⟩ := Value.slice.inj e
                    subst e1 e2
                    exact (hrt.box HX3.out (slice_ns _ _ _) (bool_ns _) _ _).box ((PX.set_cell (PX.set_cell (PS.cells HQ2).2 _ hne5 _) _ hne5 _)) (slice_ns _ _ _) (bool_ns _) _ _
                  · exact below_box (below_box (PS.b HQ2) (by omega) _ _) (by omega) _ _
          · have hzB : ((zs.length : Int) == 0) = false := by rw [beq_eq_false_iff_ne]; omega
            clear hz0 hzq
            go_wp2_with fail
            go_loop [97] (fun i => ∃ m : Nat, m ≤ zs.length ∧ i = .int .i64 m ∧ Hid ((zs.take m).all partB = true)) (fun i => zs.length - (intOf i).toNat)
            case atStart => exact ⟨0, Nat.zero_le _, rfl, Lib.hid (by simp)⟩
            case round =>
              obtain ⟨m, hm, rfl, HTA⟩ := hrel
              by_cases hlt2 : m < zs.length
              · obtain ⟨z, hz⟩ : ∃ z, zs[m]? = some z := ⟨_, List.getElem?_eq_getElem hlt2⟩
                obtain ⟨b5, o5, rfl, hb5, hc5⟩ := HRZ.out.2.2 (by omega)
                have hcz := hc5 m z hz
                have hzz := HZZ.out z (List.mem_of_getElem? hz)
                have HRP := Lib.hid (fun w => rpart_any z w (by omega))
                have HZ := Lib.hid hz
                clear hc5 hz
                cases hpz : partB z with
                | false =>
                  have HBO := Lib.hid (HNB.out (all_bad HZ.out hpz))
                  rw [hpz] at HRP
                  clear hpz
                  go_wp2_with (go_at_call 64; refine (HRP.out _).mono ?_; rintro e w' ⟨rfl, rfl⟩)
                  refine bodyPost_ret (v := .tuple #[.agg #[.slice none 0 0, .bool false], .int .i64 33]) (by simp [results, Tryd.results48, go_sem, r1, r2, r3, r4, r5]) rfl (RetP.of ⟨none, 0, rfl, RT.nil _ _ _ (by omega), ?_⟩ (H33.out HBO.out).2.1 (H33.out HBO.out).2.2 (H33.out HBO.out).1)
                  exact below_al (below_box (PS.b HQ) (by omega) _ _) _
                | true =>
                  have HN := Lib.hid (take_all HZ.out HTA.out hpz)
                  rw [hpz] at HRP
                  clear hpz
                  go_wp2_with (go_at_call 64; refine (HRP.out _).mono ?_; rintro e w' ⟨rfl, rfl⟩)
                  go_round
                  case rel => exact ⟨m + 1, by omega, by go_num, HN⟩
                  case measure => simp [intOf]; omega
              · have HALL : Hid (zs.all partB = true) := Lib.hid (by
                  have := HTA.out
                  rwa [List.take_of_length_le (by omega)] at this)
                have HGD := Lib.hid (HGOOD.out (HNX.out HALL.out))
                have hown := HO.out.own g1 rfl
                go_wp2_with fail
                go_region_law (refine step_append_textsN rfl _ _ rfl (w2.heap.size + 1) _ fl zs C n zs.length rfl rfl rfl (HO.out.below (by repeat (first | exact Below.refl _ _ | apply Below.drew | apply below_drewN | apply below_al))) (HRZ.out.below (by repeat (first | exact Below.refl _ _ | apply Below.drew | apply below_drewN | apply below_al))) (by rw [HFL.out]; omega) (by simp; omega) ?_; intro v2 w4 hown2 hg2 hor2; have HBW := Lib.hid ((HBL.out.trans (Below.mono (by repeat (first | exact Below.refl _ _ | apply Below.drew | apply below_drewN | apply below_al)) HBL.out.size)).grown hg2 (by simp; omega) (fun k hk => by have := HO.out.own k hk; omega)); have HX3 := Lib.hid ((HPX.out.below (by repeat (first | exact Below.refl _ _ | apply Below.drew | apply below_drewN | apply below_al))).grown hg2 (fun h => by have h2 : some w2.heap.size = some g1 := h; have := Option.some.inj h2; omega)); have HRW := Lib.hid hown2.read; obtain ⟨g2, cap2, hv, h2a, h2b, h2c, h2d⟩ := hown2.block (by rw [List.length_append, HFL.out]; omega); rw [List.length_append, HFL.out] at hv h2c; subst hv; have y3 := hg2.cell (a := ⟨wr.heap.size, 1, none⟩) (v := .bool q) (by simp [World.cell?_alloc_new]) (fun h => by have h2 : some wr.heap.size = some g1 := h; have := Option.some.inj h2; omega); have HQ2 := HI.go HBW.out; clear hown2 hg2 hor2 p1 p2 p3 p4 p5 r1 r2 r3 r4 r5 t1 t2 t3 t4 t5; obtain ⟨⟨p1, p2, p3, p4, p5⟩, ⟨r1, r2, r3, r4, r5⟩⟩ := PS.cells HQ2; obtain ⟨t1, t2, t3, t4, t5⟩ := HX3.out)
                all_goals (go_wp2_with fail)
                all_goals
                  refine bodyPost_ret (v := .tuple #[.agg #[.slice (some ⟨g2, 0, none⟩) (xs.length + zs.length) cap2, .bool q], .int .i64 0]) (by simp [results, Tryd.results48, go_sem, r1, r2, r3, r4, r5, hne5, hne6]) rfl (RetP.of ⟨some ⟨g2, 0, none⟩, cap2, by rw [List.length_append, HFL.out], ?_, ?_⟩ (HGD.out.2 H12.out).2.1 (HGD.out.2 H12.out).2.2 (HGD.out.2 H12.out).1)
                  · obtain ⟨A', c', e, hrt⟩ := HRW.out
                    obtain ⟨e1, _, e2⟩ := Value.slice.inj e
                    subst e1 e2
                    exact (hrt.box HX3.out (slice_ns _ _ _) (bool_ns _) _ _).box ((PX.set_cell (PX.set_cell (PS.cells HQ2).2 _ hne5 _) _ hne5 _)) (slice_ns _ _ _) (bool_ns _) _ _
                  · exact below_box (below_box (PS.b HQ2) (by omega) _ _) (by omega) _ _

theorem rsub_any (A B : Option Addr) (c d : Nat) (xs : List ByteArray) (r : Bool) (bs : List (List ByteArray × Bool)) (w : World) (h : RT w A c xs) (k : BT w B d bs)
    (hsx : ∀ x ∈ xs, x.size ≤ 5000) (hbz : ∀ b ∈ bs, ∀ x ∈ b.1, x.size ≤ 5000) (hbl : ∀ b ∈ bs, b.1.length ≤ 5000) :
    Calls Tryd.prog 48 #[.agg #[.slice A xs.length c, .bool r], .slice B bs.length d] w (RetP w (subL xs r bs) (subR xs r bs) (subE xs r bs)) := by
  have hsx9 : ∀ x ∈ xs, x.size ≤ 9223372036854775807 := fun x hx => by have := hsx x hx; omega
  by_cases hn : checkP xs r = 0
  · by_cases hl : bs.length = wildB stB xs r
    · cases r with
      | false => exact rsub_plain A B c d xs bs w h k hsx hbz hn hl
      | true => exact rsub_rest A B c d xs bs w h k hsx hbz hbl hn hl
    · have e : subE xs r bs = 33 := by
        unfold subE
        rw [if_neg (by simp [hn]), if_pos hl]
      rw [e, (sub_err e (by decide)).1, (sub_err e (by decide)).2]
      exact rsub_len A B c d xs bs r w h k hsx9 hn hl
  · have e : subE xs r bs = checkP xs r := by
      unfold subE
      rw [if_pos hn]
    rw [e, (sub_err e hn).1, (sub_err e hn).2]
    exact rsub_chk A B c d xs bs r w h k hsx9 hn
end Go.Proofs.YtidjmbmnfnnleaaDoor

