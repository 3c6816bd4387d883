/-
  The walk of the reference's Pairs.
-/
import Derived.Test.YtfhkmmicdbblnaaDoorE4
namespace Go.Proofs.YtfhkmmicdbblnaaDoor
set_option linter.unusedSimpArgs false
set_option linter.unusedVariables false
open Go.RowKit

theorem make_ints1 (n : Nat) (hn : n ≤ 900) (w : World) : (Instr.makeSlice 53 (.int .i64 ((n : Int) + 1)) (.int .i64 ((n : Int) + 1))).run Tryd.prog w = .ok (.slice (some ⟨w.heap.size, 0, none⟩) (n + 1) (n + 1)) (w.alloc (.cells (madeCells #[.int .i64 0] (n + 1)) 3)) :=
  Go.run_make_row' 53 3 (.int .i64 0) 8 Tryd.underlying53 intInfo rfl .i64 .i64 (n + 1) (by omega) (by omega) w
theorem pairInfo : (Tryd.prog.info? 78).map (fun i => (i.zero, i.size, i.bytes)) = some (some (.agg #[.int .i64 0, .int .i64 0]), 2, 16) := by kernel_rfl
/-- a pair's cells -/
def pairV (p : Nat × Nat) : List Value := [.int .i64 (p.1 : Int), .int .i64 (p.2 : Int)]
theorem wpList_append_pair {w : World} {ops : Array Oper} {rest : List Oper} {o : Oper} {a : Act} {Q : Exit → Act → World → Prop} (hgd : o.guard = none) (s x : Operand)
    (ho : o.op = .call { callee := .builtin .append, args := #[s, x], argTypes := #[57, 57] })
    (base : Nat) (v : Value) (ps : List (Nat × Nat)) (p : Nat × Nat) (b c : Nat) (hs' : a.eval s = v) (hx : a.eval x = .slice (some ⟨b, 0, none⟩) 1 c) (hown : OR w base 78 2 v (ps.map pairV))
    (hcells : ∀ (k : Nat) (u : Value), (pairV p)[k]? = some u → w.cell? ⟨b, k, none⟩ = some u) (hlen : ps.length + 1 ≤ 1000000) (hbase : base ≤ w.heap.size)
    (h : ∀ v' w', OR w' base 78 2 v' ((ps ++ [p]).map pairV) → w.grownBy w' v.ownBlock → (v'.ownBlock = v.ownBlock ∨ v'.ownBlock = some w.heap.size) → wpList Tryd.prog ops Q rest (a.put o.dst v') w') : wpList Tryd.prog ops Q (o :: rest) a w := by
  obtain ⟨i, hi, hz0, hz1, hz2⟩ := info_parts pairInfo
  refine wpList_append_row Tryd.underlying57 hi hz0 hz1 hz2 rfl (by decide) (by decide) hgd s x ho base v (ps.map pairV) (pairV p) b c hs' hx hown rfl hcells ?_ (by rw [List.length_map]; exact hlen) hbase ?_
  · intro u hu
    unfold pairV at hu
    simp only [List.mem_cons, List.not_mem_nil, or_false] at hu
    rcases hu with rfl | rfl <;> rfl
  · intro v' w' h1 h2 h3
    exact h v' w' (by rw [List.map_append]; exact h1) h2 h3
/-- pairs that lie in the world -/
def RPr (w : World) (A : Option Addr) (c : Nat) (ps : List (Nat × Nat)) : Prop := RR w A c 2 (ps.map pairV)
theorem RPr.at_ {w : World} {A : Option Addr} {c : Nat} {ps : List (Nat × Nat)} (h : RPr w A c ps) {j : Nat} {x y : Nat} (hj : ps[j]? = some (x, y)) : ∃ b o, A = some ⟨b, o, none⟩ ∧ b < w.heap.size ∧ w.cell? ⟨b, o + j * 2, none⟩ = some (.int .i64 (x : Int)) ∧ w.cell? ⟨b, o + j * 2 + 1, none⟩ = some (.int .i64 (y : Int)) := by
  obtain ⟨b, o, e, hb, hc⟩ := h.2.2 (by rw [List.length_map]; have := (List.getElem?_eq_some_iff.1 hj).1; omega)
  have hm : (ps.map pairV)[j]? = some (pairV (x, y)) := by rw [List.getElem?_map, hj]; rfl
  exact ⟨b, o, e, hb, hc j _ hm 0 _ rfl, hc j _ hm 1 _ rfl⟩
theorem RPr.below {w w' : World} {A : Option Addr} {c : Nat} {ps : List (Nat × Nat)} (h : RPr w A c ps) (hb : Below w.heap.size w w') : RPr w' A c ps := RR.below h hb
/-- pairs of the call's own -/
def OPr (w : World) (base : Nat) (v : Value) (ps : List (Nat × Nat)) : Prop := OR w base 78 2 v (ps.map pairV)
/-- pairs come back -/
def RetPr (w : World) (ps : List (Nat × Nat)) (e : Ending) (w' : World) : Prop := ∃ A c, e = .returned (.slice A ps.length c) ∧ RPr w' A c ps ∧ Below w.heap.size w w'

theorem ROW.putD {w : World} {g h : Nat} {a b : List ByteArray} {k l : Nat} (t : ROW w g h a b k (l + 1)) (hl : l ≤ b.length) (v : Int) : ROW (w.setCell ⟨h, l, none⟩ (.int .i64 v)).drew g h a b k (l + 1) ∧ (w.setCell ⟨h, l, none⟩ (.int .i64 v)).drew.cell? ⟨h, l, none⟩ = some (.int .i64 v) :=
  ⟨(t.put hl v).1.below (Below.drew (Below.refl _ _)), (t.put hl v).2⟩
set_option maxHeartbeats 4000000 in
set_option maxRecDepth 100000 in
theorem pairs_any (A B : Option Addr) (c d : Nat) (xs ys : List ByteArray) (w : World) (h : RT w A c xs) (hb : RT w B d ys) (ha : xs.length ≤ 900) (hl : ys.length ≤ 900) :
    Calls Tryd.prog 29 #[.slice A xs.length c, .slice B ys.length d] w (RetPr w (pairs xs ys 0 0)) := by
  have h1 := h.1
  have h2 := h.2.1
  have k1 := hb.1
  have k2 := hb.2.1
  have HA := Lib.hid h
  have HB := Lib.hid hb
  have hmk := make_rows xs.length ha
  have hmi := make_ints1 ys.length hl
  have HST := Lib.hid (TAB.start w xs ys 53 ha rfl)
  clear h hb
  go_enter Tryd.func29, Tryd.ntmps29
  go_wp2_with fail
  clear hmk
  go_loopw [6] (fun i wr => ∃ k : Nat, k ≤ xs.length + 1 ∧ i = .int .i64 ((k : Int) - 1) ∧ Hid (TAB wr w.heap.size xs ys k) ∧ Hid (Below w.heap.size w wr)) (fun i _ => (intOf i + 1).toNat)
  case atStart => exact ⟨xs.length + 1, Nat.le_refl _, by go_num, HST, Lib.hid (below_alloc _ _)⟩
  case round =>
    clear HST
    obtain ⟨k, hk, rfl, HT, HBL⟩ := hrel
    rcases k with _ | k
    · have hsz := HT.out.2.2.2
      have HPG := Lib.hid (PG.start xs ys)
      clear hmi
      rw [show (((0 : Nat) : Int) - 1) = -1 from rfl]
      obtain ⟨wt, rfl⟩ : ∃ wt, wt = wr := ⟨wr, rfl⟩
      go_wp2_with fail
      go_loopw [8, 9, 10] (fun o i j w2 => ∃ (ii jj : Nat) (done : List (Nat × Nat)), i = .int .i64 ii ∧ j = .int .i64 jj ∧ Hid (PG xs ys ii jj done) ∧ Hid (OPr w2 wt.heap.size o done) ∧ Hid (Below wt.heap.size wt w2)) (fun _ i _ _ => xs.length + 1 - (intOf i).toNat)
      case atStart => exact ⟨0, 0, [], rfl, rfl, HPG, Lib.hid (OR.nil _ _ _ _), Lib.hid (Below.refl _ _)⟩
      case round =>
        clear HPG hsz
        obtain ⟨ii, jj, done, rfl, rfl, HG, HO, HBX⟩ := hrel
        have HTX := Lib.hid (HT.out.below HBX.out)
        have HBW := Lib.hid (go3 HBL.out HBX.out)
        have hsx := HBX.out.size
        have hi := HG.out.2.1
        have hj := HG.out.2.2.1
        have hdl := HG.out.2.2.2
        have hsz := HTX.out.2.2.2
        obtain ⟨r1, t1, t2⟩ := HTX.out.at_ hi hj
        by_cases hz : 0 < lcs (xs.drop ii) (ys.drop jj)
        · obtain ⟨x, y, hf, hp⟩ := first_at xs ys ii jj hz
          have HN := Lib.hid (HG.out.step hf hp)
          have HFS := Lib.hid (fun W a b t => first_any A B c d xs ys w.heap.size ii jj x y W a b t hf ha hl)
          have hxi : ii ≤ x := hf.1
          have hxl := hf.2.2.1
          have hyl := hf.2.2.2.1
          have hzI : (0 : Int) < (lcs (xs.drop ii) (ys.drop jj) : Nat) := by omega
          clear hf hp
          generalize lcs (xs.drop ii) (ys.drop jj) = z at *
          go_wp2_with (first
            | (go_at_call 45; refine (HFS.out _ (HA.out.below HBW.out) (HB.out.below HBW.out) HTX.out).mono ?_; rintro e w3 ⟨rfl, hb⟩; have HB2 := Lib.hid (go3 HBX.out hb); have HO2 := Lib.hid (OR.below HO.out hb); have hs2 := hb.size; clear hb)
            | (at_builtin; refine wpList_append_pair rfl _ _ rfl wt.heap.size _ done (x, y) w3.heap.size 1 rfl rfl (OR.below HO2.out (below_alloc _ _)) (cells_new _ [_, _] _ rfl) (by omega) (by simp; omega) ?_; intro v1 w4 hown hg _; have HB3 := Lib.hid ((HB2.out.alloc (by omega) _).grown hg (by simp; omega) (fun k hk => (OR.own HO2.out k hk).1)); have HOW := Lib.hid hown; clear hown hg))
          go_roundw
          case rel => exact ⟨x + 1, y + 1, _, by go_num, by go_num, HN, HOW, HB3⟩
          case measure => simp [intOf]; omega
        · have hz0 : lcs (xs.drop ii) (ys.drop jj) = 0 := by omega
          have HD := Lib.hid (HG.out.done hz0)
          rw [hz0] at t2
          clear hz hz0
          obtain ⟨A', c', hv, hr⟩ := OR.read HO.out
          subst hv
          rw [List.length_map] at *
          go_wp2_with fail
          go_ret
          exact ⟨A', c', (by rw [← HD.out]; rfl), (by rw [← HD.out]; exact hr), HBW.out⟩
    · have hk2 : k ≤ xs.length := by omega
      rw [show (((k + 1 : Nat) : Int) - 1) = (k : Int) by omega]
      have hsz := HT.out.2.2.2
      have hcell := HT.out.2.1 k (Nat.lt_succ_self _) hk2
      have hfz := HT.out.2.2.1 k
      have hbs := HBL.out.size
      obtain ⟨hrow, hzero⟩ := HT.out.row hk2 hl 3 (h := wr.heap.size) rfl
      have HR := Lib.hid hrow
      have HZ := Lib.hid hzero
      obtain ⟨wt, rfl⟩ : ∃ wt, wt = wr := ⟨wr, rfl⟩
      have HB1 : Hid (Below w.heap.size w ((wt.setCell ⟨w.heap.size, k, none⟩ (.slice (some ⟨wt.heap.size, 0, none⟩) (ys.length + 1) (ys.length + 1))).alloc (.cells (madeCells #[.int .i64 0] (ys.length + 1)) 3))) := Lib.hid ((HBL.out.setCell (p := ⟨w.heap.size, k, none⟩) (Nat.le_refl _) _).alloc (by simpa [World.setCell] using hbs) _)
      clear hrow hzero
      by_cases hlt : k < xs.length
      · go_wp2_with fail
        clear hcell hfz hmi
        go_loopw [7] (fun j w2 => ∃ l : Nat, l ≤ ys.length + 1 ∧ j = .int .i64 ((l : Int) - 1) ∧ Hid (ROW w2 w.heap.size wt.heap.size xs ys k l) ∧ Hid (Below w.heap.size w w2)) (fun j _ => (intOf j + 1).toNat)
        case atStart => exact ⟨ys.length + 1, Nat.le_refl _, by go_num, HR, HB1⟩
        case round =>
          clear HR HB1 HZ HT HBL
          obtain ⟨l, hl2, rfl, HR, HB1⟩ := hrel
          rcases l with _ | l
          · have HN := Lib.hid HR.out.done
            go_wp2_with fail
            go_roundw
            case rel => exact ⟨k, by omega, rfl, HN, HB1⟩
            case measure => simp [intOf]
          · have hl3 : l ≤ ys.length := by omega
            rw [show (((l + 1 : Nat) : Int) - 1) = (l : Int) by omega]
            obtain ⟨h', q1, q2, q3, q4, q5, ⟨q6v, q6⟩, q7, q8, q9, q10⟩ := HR.out.reads hl3 hlt
            have HP1 := Lib.hid (HR.out.putD hl3 (lcs (xs.drop (k + 1)) (ys.drop l) : Nat))
            have HQ1 := Lib.hid (Below.drew (HB1.out.setCell (p := ⟨wt.heap.size, l, none⟩) hbs (.int .i64 (lcs (xs.drop (k + 1)) (ys.drop l) : Nat))))
            have b4 := lcs_le_len (xs.drop (k + 1)) (ys.drop l)
            rw [List.length_drop] at b4
            by_cases hly : l < ys.length
            · obtain ⟨u, hu⟩ : ∃ u, xs[k]? = some u := ⟨_, List.getElem?_eq_getElem hlt⟩
              obtain ⟨v, hv⟩ : ∃ v, ys[l]? = some v := ⟨_, List.getElem?_eq_getElem hly⟩
              have HLC := Lib.hid (lcs_step hu hv)
              replace q4 := q4 hly
              replace q5 := q5 hly
              have b3 := lcs_le_len (xs.drop (k + 1)) (ys.drop (l + 1))
              have b5 := lcs_le_len (xs.drop k) (ys.drop (l + 1))
              rw [List.length_drop] at b3 b5
              have HU := Lib.hid hu
              have HV := Lib.hid hv
              clear hu hv
              obtain ⟨z1, hz1⟩ : ∃ z, lcs (xs.drop (k + 1)) (ys.drop (l + 1)) = z := ⟨_, rfl⟩
              obtain ⟨z2, hz2⟩ : ∃ z, lcs (xs.drop (k + 1)) (ys.drop l) = z := ⟨_, rfl⟩
              obtain ⟨z3, hz3⟩ : ∃ z, lcs (xs.drop k) (ys.drop (l + 1)) = z := ⟨_, rfl⟩
              rw [hz1] at q4 b3
              rw [hz2] at q3 b4 HP1 HQ1
              rw [hz3] at q5 b5
              rw [hz1, hz2, hz3] at HLC
              have HZ1 := Lib.hid hz1
              have HZ2 := Lib.hid hz2
              have HZ3 := Lib.hid hz3
              clear hz1 hz2 hz3 q4 q5
              go_wp2_with fail
              go_region
              have HR2 := Lib.hid (HP1.out).1
              have hc2 := HP1.out.2
              have HB2 := Lib.hid HQ1.out
              clear HP1 HQ1 q1 q2 q3 q6 q7 q8 q9 q10
              generalize (wr.setCell ⟨wt.heap.size, l, none⟩ (.int .i64 (z2 : Int))).drew = wa at *
              obtain ⟨h2, p1, p2, p3, p4, p5, _, p7, p8, p9, p10⟩ := HR2.out.reads hl3 hlt
              replace p4 := p4 hly
              replace p5 := p5 hly
              rw [HZ1.out] at p4
              rw [HZ2.out] at p3
              rw [HZ3.out] at p5
              have HP3 := Lib.hid (HR2.out.putD hl3 (max (z2 : Int) (z3 : Int)))
              have HQ3 := Lib.hid (Below.drew (HB2.out.setCell (p := ⟨wt.heap.size, l, none⟩) hbs (.int .i64 (max (z2 : Int) (z3 : Int)))))
              go_wp2_with fail
              go_region
              have HR3 := Lib.hid HP3.out.1
              have hc3 := HP3.out.2
              have HB3 := Lib.hid HQ3.out
              clear HP3 HQ3 HR2 HB2 hc2 p1 p2 p3 p4 p5 p7 p8 p9 p10
              generalize (wa.setCell ⟨wt.heap.size, l, none⟩ (.int .i64 (max (z2 : Int) (z3 : Int)))).drew = wb at *
              obtain ⟨h3, p1, p2, p3, p4, p5, _, p7, p8, p9, p10⟩ := HR3.out.reads hl3 hlt
              replace p4 := p4 hly
              rw [HZ1.out] at p4
              have hm1 : (0 : Int) ≤ max (z2 : Int) (z3 : Int) := by omega
              have hm2 : max (z2 : Int) (z3 : Int) ≤ 900 := by omega
              obtain ⟨b1, o1, rfl, hb1, hc1⟩ := (HA.out.below HB3.out).2.2 (by omega)
              obtain ⟨b2, o2, rfl, hb2, hc2⟩ := (HB.out.below HB3.out).2.2 (by omega)
              have x1 := hc1 k u HU.out
              have x2 := hc2 l v HV.out
              clear hc1 hc2 hb1 hb2 p5 p3
              by_cases e : u = v
              · subst e
                have he := str_eqt u
                rw [if_pos rfl] at HLC
                generalize hz : max (z2 : Int) (z3 : Int) = m at *
                have HZM := Lib.hid hz
                clear hz
                have HP4 := Lib.hid (fun q => (HR3.out.below (below_drewN' wb q)).put hl3 (max m ((z1 : Int) + 1)))
                have HQ4 := Lib.hid (fun q => (below_drewN HB3.out q).setCell (p := ⟨wt.heap.size, l, none⟩) hbs (.int .i64 (max m ((z1 : Int) + 1))))
                go_wp2_with fail
                go_quiet (fail)
                go_wp2_with fail
                go_region
                go_wp2_with fail
                go_roundw
                case rel => exact ⟨l, by omega, rfl, Lib.hid ((HP4.out _).1.fix (HP4.out _).2 (by rw [HLC.out]; have := HZM.out; omega)), Lib.hid (HQ4.out _)⟩
                case measure => simp [intOf]
              · have he := str_eqb e
                rw [if_neg e] at HLC
                clear e
                have HN := Lib.hid (fun q => (HR3.out.fix hc3 (by rw [HLC.out]; omega)).below (below_drewN' wb q))
                go_wp2_with fail
                go_quiet (fail)
                go_wp2_with fail
                go_roundw
                case rel => exact ⟨l, by omega, rfl, Lib.hid (HN.out _), Lib.hid (below_drewN HB3.out _)⟩
                case measure => simp [intOf]
            · obtain rfl : l = ys.length := by omega
              have HE := Lib.hid (lcs_edge xs ys k)
              have HE2 := Lib.hid (lcs_edge xs ys (k + 1))
              clear q4 q5
              generalize lcs (xs.drop (k + 1)) (ys.drop ys.length) = z2 at *
              go_wp2_with fail
              go_region
              go_wp2_with fail
              go_roundw
              case rel => exact ⟨ys.length, by omega, rfl, Lib.hid (HP1.out.1.fix HP1.out.2 (by rw [HE.out, HE2.out])), HQ1⟩
              case measure => simp [intOf]
      · obtain rfl : k = xs.length := by omega
        have HN := Lib.hid (HR.out.last HZ.out)
        go_wp2_with fail
        go_loopw [7] (fun j w2 => j = .int .i64 (ys.length : Int) ∧ Hid (TAB w2 w.heap.size xs ys xs.length) ∧ Hid (Below w.heap.size w w2)) (fun _ _ => 0)
        case atStart => exact ⟨rfl, HN, HB1⟩
        case round =>
          clear HR HB1 HZ HT HBL HN
          obtain ⟨rfl, HN, HB1⟩ := hrel
          go_wp2_with fail
          go_roundw
          case rel => exact ⟨xs.length, by omega, rfl, HN, HB1⟩
          case measure => simp [intOf]
end Go.Proofs.YtfhkmmicdbblnaaDoor

