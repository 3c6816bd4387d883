/-
  The walk of the reference's Script.
-/
import Derived.Test.YtfhkmmicdbblnaaDoorE5
import Derived.Test.YtfhkmmicdbblnaaDoorL6
import Derived.IntWalk
namespace Go.Proofs.YtfhkmmicdbblnaaDoor
set_option linter.unusedSimpArgs false
set_option linter.unusedVariables false
open Go.RowKit

theorem run_append_pairs (w : World) (base : Nat) (v : Value) (ps qs : List (Nat × Nat)) (A : Option Addr) (c : Nat) (ty : TypeId) (hown : OPr w base v ps) (hr : RPr w A c qs)
    (hlen : ps.length + qs.length ≤ 1000000) (hbase : base ≤ w.heap.size) :
    ∃ v' w', (Builtin.append_ #[57, 57] ty #[v, .slice A qs.length c]).run Tryd.prog w = .ok v' w' ∧ OPr w' base v' (ps ++ qs) ∧ w.grownBy w' v.ownBlock ∧
      (v'.ownBlock = v.ownBlock ∨ v'.ownBlock = some w.heap.size) := by
  obtain ⟨i, hi, hz, h1, h2⟩ := info_parts pairInfo
  have hone : ∀ (ls : List (Nat × Nat)), ∀ u ∈ (ls.map pairV).flatten, u.oneCell' = true := by
    intro ls u hu
    obtain ⟨r, hr, hur⟩ := List.mem_flatten.1 hu
    obtain ⟨p, _, rfl⟩ := List.mem_map.1 hr
    unfold pairV at hur
    simp only [List.mem_cons, List.not_mem_nil, or_false] at hur
    rcases hur with rfl | rfl <;> rfl
  rcases A with _ | ad
  · have hy : qs = [] := by
      cases qs with
      | nil => rfl
      | cons y ys =>
        obtain ⟨b, o, e, _⟩ := hr.2.2 (by simp)
        cases e
    subst hy
    refine ⟨v, w, ?_, by simpa using hown, World.grownBy.refl w _, .inl rfl⟩
    rcases hown.1.2 with ⟨rfl, _⟩ | ⟨g, cap, cur, rfl, _, _, hnc, _⟩
    · simp [Builtin.append_, run_underlying Tryd.underlying57, sizeOf, typeInfo, hi, Builtin.lenOf, Builtin.firstCells]
    · simp only [List.length_map] at hnc
      simp [Builtin.append_, run_underlying Tryd.underlying57, sizeOf, typeInfo, hi, Builtin.lenOf, Builtin.firstCells, hnc, storeCells]
  · have hfl : (qs.map pairV).flatten.length = qs.length * 2 := by
      rw [flat_len (size := 2) (fun r hr => by obtain ⟨p, _, rfl⟩ := List.mem_map.1 hr; rfl), List.length_map]
    have hcells : ∀ (j : Nat) (u : Value), ((qs.map pairV).flatten)[j]? = some u → w.cell? (ad.add j) = some u := by
      intro j u hu
      have hj : j < qs.length * 2 := by rw [← hfl]; exact (List.getElem?_eq_some_iff.1 hu).1
      obtain ⟨b, o, e, _, hc⟩ := hr.2.2 (by rw [List.length_map]; omega)
      cases e
      rw [Go.WideShapes.add_plain]
      obtain ⟨p, hp⟩ : ∃ p, qs[j / 2]? = some p := ⟨_, List.getElem?_eq_getElem (by omega)⟩
      have hm : (qs.map pairV)[j / 2]? = some (pairV p) := by rw [List.getElem?_map, hp]; rfl
      have hi2 : ∃ u', (pairV p)[j % 2]? = some u' := ⟨_, List.getElem?_eq_getElem (by show j % 2 < 2; omega)⟩
      obtain ⟨u', hu'⟩ := hi2
      have hf := flat_at (size := 2) (fun r hr => by obtain ⟨p, _, rfl⟩ := List.mem_map.1 hr; rfl) (j / 2) _ hm (j % 2) u' hu'
      rw [show j / 2 * 2 + j % 2 = j by omega, hu] at hf
      cases hf
      have := hc (j / 2) _ hm (j % 2) u hu'
      rw [show o + j / 2 * 2 + j % 2 = o + j by omega] at this
      exact this
    obtain ⟨v', w', hrun, h3, h4, _, h5⟩ := run_append_own_at (P := Tryd.prog) w base 57 ty 78 i (.agg #[.int .i64 0, .int .i64 0]) 2 16 Tryd.underlying57 hi hz h1 h2 rfl (by omega) v (ps.map pairV).length (ps.map pairV).flatten hown.1 ad qs.length c (qs.map pairV).flatten
      hfl hcells (hone qs) (by rw [List.length_map]; simp only [maxLen]; omega) (by rw [List.length_map]; omega) hbase
    refine ⟨v', w', hrun, ⟨?_, ?_⟩, h4, h5⟩
    · rw [List.map_append, List.length_append, List.flatten_append, List.length_map, List.length_map]
      rw [List.length_map] at h3
      exact h3
    · intro r hr
      obtain ⟨p, _, rfl⟩ := List.mem_map.1 hr
      rfl
theorem wpList_append_pairs {w : World} {ops : Array Oper} {rest : List Oper} {o : Oper} {a : Act} {Q : Exit → Act → World → Prop} (hgd : o.guard = none) (s x : Operand)
    (ho : o.op = .call { callee := .builtin .append, args := #[s, x], argTypes := #[57, 57] })
    (base : Nat) (v : Value) (ps qs : List (Nat × Nat)) (A : Option Addr) (c : Nat) (hs : a.eval s = v) (hx : a.eval x = .slice A qs.length c) (hown : OPr w base v ps) (hr : RPr w A c qs)
    (hlen : ps.length + qs.length ≤ 1000000) (hbase : base ≤ w.heap.size)
    (h : ∀ v' w', OPr w' base v' (ps ++ qs) → w.grownBy w' v.ownBlock → (v'.ownBlock = v.ownBlock ∨ v'.ownBlock = some w.heap.size) → wpList Tryd.prog ops Q rest (a.put o.dst v') w') : wpList Tryd.prog ops Q (o :: rest) a w := by
  refine wpList_plain hgd fun K hK => ?_
  obtain ⟨v', w', hrun, h2, h3, h4⟩ := run_append_pairs w base v ps qs A c o.type hown hr hlen hbase
  unfold Oper.wp execOp
  simp only [ho, resolve, invoke, builtin, Sem.run_bind, Sem.run_pure, Result.andThen_ok, List.map_toArray, List.map_cons, List.map_nil, hs, hx, hrun]
  exact hK _ _ (h v' w' h2 h3 h4)
theorem step_append_hunk {w : World} {ops : Array Oper} {o : Oper} {a : Act} {K : Act → World → Prop} {Q : Exit → Act → World → Prop} {G : Prop} (hgd : o.guard = none) (s x : Operand)
    (ho : o.op = .call { callee := .builtin .append, args := #[s, x], argTypes := #[24, 24] })
    (base : Nat) (v : Value) (fs : List (List Fld)) (f : List Fld) (u0 u1 u2 : Value) (b c : Nat) (hs' : a.eval s = v) (hx : a.eval x = .slice (some ⟨b, 0, none⟩) 1 c) (hown : OF w base 36 3 v fs)
    (hcells : ∀ (k : Nat) (u : Value), [u0, u1, u2][k]? = some u → w.cell? ⟨b, k, none⟩ = some u) (h0 : u0.oneCell' = true) (h1 : u1.oneCell' = true) (h2 : u2.oneCell' = true) (hf : Rel2 (Fld.is w v.ownBlock) f [u0, u1, u2])
    (hlen : fs.length + 1 ≤ 1000000) (hbase : base ≤ w.heap.size)
    (h : ∀ v' w', OF w' base 36 3 v' (fs ++ [f]) → w.grownBy w' v.ownBlock → (v'.ownBlock = v.ownBlock ∨ v'.ownBlock = some w.heap.size) → K (a.put o.dst v') w') :
    if Region.wanted o (yielded ops a.tmps) = true then Oper.wp Tryd.prog o a w K Q else G := by
  obtain ⟨i, hi, hz0, hz1, hz2⟩ := info_parts hunkInfo
  exact step_append_fld Tryd.underlying24 hi hz0 hz1 hz2 rfl (by decide) (by decide) hgd s x ho base v fs f [u0, u1, u2] b c hs' hx hown rfl hcells (by
    intro x hx
    simp only [List.mem_cons, List.not_mem_nil, or_false] at hx
    rcases hx with rfl | rfl | rfl
    · exact h0
    · exact h1
    · exact h2) hf hlen hbase h
theorem step_append_new {w : World} {ops : Array Oper} {o : Oper} {a : Act} {K : Act → World → Prop} {Q : Exit → Act → World → Prop} {E : Prop} (hgd : o.guard = none) (s x : Operand)
    (ho : o.op = .call { callee := .builtin .append, args := #[s, x], argTypes := #[30, 30] })
    (base : Nat) (ys : List ByteArray) (A : Option Addr) (n c : Nat) (hn : n = ys.length) (hs : a.eval s = .slice none 0 0) (hx : a.eval x = .slice A n c) (hr : RT w A c ys)
    (hlen : ys.length ≤ 1000000) (hbase : base ≤ w.heap.size)
    (h : ∀ C m w', OT w' base (.slice C ys.length m) ys → Below w.heap.size w w' → K (a.put o.dst (.slice C ys.length m)) w') :
    if Region.wanted o (yielded ops a.tmps) = true then Oper.wp Tryd.prog o a w K Q else E := by
  refine step_append_texts hgd s x ho base (.slice none 0 0) [] ys A c hs (hn ▸ hx) (OT.nil _ _) hr (by simpa using hlen) hbase fun v' w' hown hg hv => ?_
  have hown' : OT w' base v' ys := hown
  obtain ⟨C, m, rfl, hot⟩ := own_text hown' rfl
  exact h C m w' hot ((Below.refl _ _).grown hg (Nat.le_refl _) (fun k hk => by cases hk))
/-- hunks come back -/
def RetHk (w : World) (hs : List (Nat × Nat × List ByteArray)) (e : Ending) (w' : World) : Prop := ∃ A c, e = .returned (.slice A hs.length c) ∧ RF w' A c 3 (hs.map hkF) ∧ Below w.heap.size w w'

theorem cells_keptS {w w' : World} {g : Nat} {k : Option Nat} (hg : w.grownBy w' k) (hlt : g < w.heap.size) (hne : k ≠ some g) : ∀ i, w'.cell? ⟨g, i, none⟩ = w.cell? ⟨g, i, none⟩ := fun i =>
  World.cell?_of_block (hg.block g hlt (fun e => hne e.symm))
theorem kept2 {w6 wc w7 : World} {k : Option Nat} {g i : Nat} {v : Value} (hb : Below w6.heap.size w6 wc) (hg : wc.grownBy w7 k) (hlt : g < w6.heap.size) (hne : k ≠ some g) (h : w6.cell? ⟨g, i, none⟩ = some v) : w7.cell? ⟨g, i, none⟩ = some v :=
  (cells_keptS hg (Nat.lt_of_lt_of_le hlt hb.size) hne i).trans ((hb.cell (p := ⟨g, i, none⟩) hlt).trans h)
theorem wrapS {x : Nat} (h : x ≤ 1000) : Value.int .i64 (IntKind.i64.wrap ((x : Int) + 1)) = Value.int .i64 ((x + 1 : Nat) : Int) := by
  have e : IntKind.i64.wrap ((x : Int) + 1) = ((x + 1 : Nat) : Int) := by rw [IntWalk.i64_in _ (by omega)]; omega
  rw [e]
set_option maxHeartbeats 4000000 in
set_option maxRecDepth 100000 in
theorem script_any (A B P : Option Addr) (c d cp : Nat) (xs ys : List ByteArray) (ps : List (Nat × Nat)) (w : World) (h : RT w A c xs) (hb : RT w B d ys) (hp : RPr w P cp ps) (hr : Rise xs.length ys.length (ps ++ [(xs.length, ys.length)]) 0 0) (ha : xs.length ≤ 900) (hl : ys.length ≤ 900) (hpl : ps.length ≤ 900) :
    Calls Tryd.prog 28 #[.slice A xs.length c, .slice B ys.length d, .slice P ps.length cp] w (RetHk w (scr ys (ps ++ [(xs.length, ys.length)]) 0 0)) := by
  have h1 := h.1
  have h2 := h.2.1
  have k1 := hb.1
  have k2 := hb.2.1
  have HB := Lib.hid hb
  have HP := Lib.hid hp
  have HST := Lib.hid (SG.start hr)
  have HLL : Hid ((ps ++ [(xs.length, ys.length)]).length = ps.length + 1) := Lib.hid (by rw [List.length_append]; rfl)
  clear h hb hp hr
  go_enter Tryd.func28, Tryd.ntmps28
  go_wp2_with (first
    | (at_builtin; refine wpList_append_pairs rfl _ _ rfl w.heap.size (.slice none 0 0) [] ps P cp rfl rfl (OR.nil _ _ _ _) HP.out (by simp; omega) (Nat.le_refl _) ?_; intro v1 w1 hown hg _; have HB1 : Hid (Below w.heap.size w w1) := Lib.hid ((Below.refl _ _).grown hg (Nat.le_refl _) (fun k hk => by cases hk)); have HO1 : Hid (OPr w1 w.heap.size v1 ps) := Lib.hid hown; clear hown hg)
    | (at_builtin; refine wpList_append_pair rfl _ _ rfl w.heap.size _ ps (xs.length, ys.length) w1.heap.size 1 rfl rfl (OR.below HO1.out (below_alloc _ _)) (cells_new _ [_, _] _ rfl) (by omega) (by have := HB1.out.size; simp; omega) ?_; intro v2 w2 hown hg _; have HB2 := Lib.hid ((HB1.out.alloc HB1.out.size _).grown hg (by have := HB1.out.size; simp; omega) (fun k hk => (OR.own HO1.out k hk).1)); obtain ⟨A2, c2, hv, hrr⟩ := OR.read hown; rw [List.length_map, HLL.out] at hv; subst hv; have HR2 : Hid (RPr w2 A2 c2 (ps ++ [(xs.length, ys.length)])) := Lib.hid hrr; have r1 := hrr.1; rw [List.length_map, HLL.out] at r1; have r2 := hrr.2.1; clear hown hg hrr))
  clear HP HB1 HO1
  generalize ps ++ [(xs.length, ys.length)] = L at *
  go_loopw [7, 8, 9, 22] (fun o f t i wr => ∃ (k ff tt : Nat) (hs : List (Nat × Nat × List ByteArray)), k ≤ ps.length + 1 ∧ f = .int .i64 ff ∧ t = .int .i64 tt ∧ i = .int .i64 k ∧ Hid (SG xs.length ys L k ff tt hs) ∧ Hid (OF wr w2.heap.size 36 3 o (hs.map hkF)) ∧ Hid (Below w2.heap.size w2 wr)) (fun _ _ _ i _ => ps.length + 1 - (intOf i).toNat)
  case atStart => exact ⟨0, 0, 0, [], Nat.zero_le _, rfl, rfl, rfl, HST, Lib.hid (OF.nil _ _ _ _), Lib.hid (Below.refl _ _)⟩
  case round =>
    clear HST
    obtain ⟨k, ff, tt, hs, hk, rfl, rfl, rfl, HG, HO, HBW⟩ := hrel
    have hbs := HBW.out.size
    have hhl := HG.out.2.2
    by_cases hlt : k < ps.length + 1
    · obtain ⟨⟨x, y⟩, hx⟩ : ∃ p, L[k]? = some p := ⟨_, List.getElem?_eq_getElem (by rw [HLL.out]; exact hlt)⟩
      obtain ⟨b, o, rfl, hb1, x0, x1⟩ := (HR2.out.below HBW.out).at_ hx
      obtain ⟨⟨g1, g2, g3, g4⟩, hyes, hno⟩ := HG.out.step hx
      have HYES := Lib.hid hyes
      have HNO := Lib.hid hno
      have z0 : (wr.alloc (.cells #[.int .i64 (x : Int), .int .i64 (y : Int)] 78)).cell? ⟨wr.heap.size, 0, none⟩ = some (.int .i64 (x : Int)) := by simp [World.cell?_alloc_new]
      have z1 : (wr.alloc (.cells #[.int .i64 (x : Int), .int .i64 (y : Int)] 78)).cell? ⟨wr.heap.size, 1, none⟩ = some (.int .i64 (y : Int)) := by simp [World.cell?_alloc_new]
      have HBA := Lib.hid (HBW.out.alloc hbs (.cells #[.int .i64 (x : Int), .int .i64 (y : Int)] 78))
      have hltI : (k : Int) < (ps.length : Int) + 1 := by omega
      clear hx hyes hno hb1
      by_cases hc : ff < x ∨ tt < y
      · have HN := Lib.hid (HYES.out hc)
        have HYL := Lib.hid (cut_len (xs := ys) (t := tt) g4)
        have hcut := run_cut_texts B ys.length d tt y g2 (by omega) k2
        have HOC := Lib.hid (((HB.out.below (go3 HB2.out HBW.out)).cut (t := tt) y (by omega)).below (below_alloc wr (.cells #[.int .i64 (x : Int), .int .i64 (y : Int)] 78)))
        have HLL2 : Hid (((ys.drop tt).take (y - tt)).length ≤ 900) := Lib.hid (by rw [HYL.out]; omega)
        generalize (ys.drop tt).take (y - tt) = L6 at *
        generalize cutA B d tt 1 = B6 at *
        clear HYES HNO
        by_cases hc1 : ff < x
        · clear hc
          go_wp2_with fail
          go_region_law (first
            | (refine step_append_new rfl _ _ rfl (wr.heap.size + 1) L6 B6 (y - tt) (d - tt) HYL.out.symm rfl rfl (HOC.out.below (by repeat (first | exact Below.refl _ _ | apply Below.drew | apply below_drewN | apply below_al))) (by have := HLL2.out; omega) (by simp) ?_; intro C6 m6 w6 hot hbn; have HOT6 := Lib.hid hot; have HBN : Hid (Below (wr.alloc (.cells #[.int .i64 (x : Int), .int .i64 (y : Int)] 78)).heap.size (wr.alloc (.cells #[.int .i64 (x : Int), .int .i64 (y : Int)] 78)) w6) := Lib.hid (go3 (by repeat (first | exact Below.refl _ _ | apply Below.drew | apply below_drewN | apply below_al)) hbn); have zz0 : w6.cell? ⟨wr.heap.size, 0, none⟩ = some (.int .i64 (x : Int)) := (HBN.out.cell (p := ⟨wr.heap.size, 0, none⟩) (by simp)).trans z0; have zz1 : w6.cell? ⟨wr.heap.size, 1, none⟩ = some (.int .i64 (y : Int)) := (HBN.out.cell (p := ⟨wr.heap.size, 1, none⟩) (by simp)).trans z1; have hs6 : wr.heap.size + 1 ≤ w6.heap.size := (by have := HBN.out.size; simpa using this); clear hot hbn)
            | (refine step_append_hunk rfl _ _ rfl w2.heap.size _ (hs.map hkF) (hkF (ff, x, L6)) (.int .i64 (ff : Int)) (.int .i64 (x : Int)) (.slice C6 L6.length m6) w6.heap.size 1 rfl rfl (((HO.out.below (below_alloc _ _)).below HBN.out).below (by repeat (first | exact Below.refl _ _ | apply Below.drew | apply below_drewN | apply below_al))) (cells_new _ [_, _, _] _ rfl) rfl rfl rfl (Rel2.cons rfl (Rel2.cons rfl (Rel2.cons (Fld.txt (HOT6.out.rt.2.below (by repeat (first | exact Below.refl _ _ | apply Below.drew | apply below_drewN | apply below_al))) (Off.new HO.out (fun p hp => by have := HOT6.out.newA p hp; omega))) Rel2.nil))) (by rw [List.length_map]; omega) (by simp; omega) ?_; intro v7 w7 hown hg _; have HB7 := Lib.hid ((go3 (go3 HBA.out HBN.out) (by repeat (first | exact Below.refl _ _ | apply Below.drew | apply below_drewN | apply below_al))).grown hg (by simp; omega) (fun k hk => (HO.out.own k hk).1)); have HOW := Lib.hid hown; have zy0 : w7.cell? ⟨wr.heap.size, 0, none⟩ = some (.int .i64 (x : Int)) := kept2 (by repeat (first | exact Below.refl _ _ | apply Below.drew | apply below_drewN | apply below_al)) hg (by omega) (by intro e; have := (HO.out.own _ e).2; omega) zz0; have zy1 : w7.cell? ⟨wr.heap.size, 1, none⟩ = some (.int .i64 (y : Int)) := kept2 (by repeat (first | exact Below.refl _ _ | apply Below.drew | apply below_drewN | apply below_al)) hg (by omega) (by intro e; have := (HO.out.own _ e).2; omega) zz1; clear hown hg))
          all_goals
            go_wp2_with fail
            go_quiet (fail)
            go_wp2_with fail
            go_roundw
            case rel => exact ⟨k + 1, x + 1, y + 1, _, by omega, wrapS (by omega), wrapS (by omega), by go_num, HN, Lib.hid ((show OF w7 _ _ _ _ _ by rw [List.map_append]; exact HOW.out).below (below_drewN' _ _)), Lib.hid (below_drewN HB7.out _)⟩
            case measure => simp [intOf]; omega
        · have hc2 : tt < y := by omega
          clear hc
          go_wp2_with fail
          go_region_law (first
            | (refine step_append_new rfl _ _ rfl (wr.heap.size + 1) L6 B6 (y - tt) (d - tt) HYL.out.symm rfl rfl (HOC.out.below (by repeat (first | exact Below.refl _ _ | apply Below.drew | apply below_drewN | apply below_al))) (by have := HLL2.out; omega) (by simp) ?_; intro C6 m6 w6 hot hbn; have HOT6 := Lib.hid hot; have HBN : Hid (Below (wr.alloc (.cells #[.int .i64 (x : Int), .int .i64 (y : Int)] 78)).heap.size (wr.alloc (.cells #[.int .i64 (x : Int), .int .i64 (y : Int)] 78)) w6) := Lib.hid (go3 (by repeat (first | exact Below.refl _ _ | apply Below.drew | apply below_drewN | apply below_al)) hbn); have zz0 : w6.cell? ⟨wr.heap.size, 0, none⟩ = some (.int .i64 (x : Int)) := (HBN.out.cell (p := ⟨wr.heap.size, 0, none⟩) (by simp)).trans z0; have zz1 : w6.cell? ⟨wr.heap.size, 1, none⟩ = some (.int .i64 (y : Int)) := (HBN.out.cell (p := ⟨wr.heap.size, 1, none⟩) (by simp)).trans z1; have hs6 : wr.heap.size + 1 ≤ w6.heap.size := (by have := HBN.out.size; simpa using this); clear hot hbn)
            | (refine step_append_hunk rfl _ _ rfl w2.heap.size _ (hs.map hkF) (hkF (ff, x, L6)) (.int .i64 (ff : Int)) (.int .i64 (x : Int)) (.slice C6 L6.length m6) w6.heap.size 1 rfl rfl (((HO.out.below (below_alloc _ _)).below HBN.out).below (by repeat (first | exact Below.refl _ _ | apply Below.drew | apply below_drewN | apply below_al))) (cells_new _ [_, _, _] _ rfl) rfl rfl rfl (Rel2.cons rfl (Rel2.cons rfl (Rel2.cons (Fld.txt (HOT6.out.rt.2.below (by repeat (first | exact Below.refl _ _ | apply Below.drew | apply below_drewN | apply below_al))) (Off.new HO.out (fun p hp => by have := HOT6.out.newA p hp; omega))) Rel2.nil))) (by rw [List.length_map]; omega) (by simp; omega) ?_; intro v7 w7 hown hg _; have HB7 := Lib.hid ((go3 (go3 HBA.out HBN.out) (by repeat (first | exact Below.refl _ _ | apply Below.drew | apply below_drewN | apply below_al))).grown hg (by simp; omega) (fun k hk => (HO.out.own k hk).1)); have HOW := Lib.hid hown; have zy0 : w7.cell? ⟨wr.heap.size, 0, none⟩ = some (.int .i64 (x : Int)) := kept2 (by repeat (first | exact Below.refl _ _ | apply Below.drew | apply below_drewN | apply below_al)) hg (by omega) (by intro e; have := (HO.out.own _ e).2; omega) zz0; have zy1 : w7.cell? ⟨wr.heap.size, 1, none⟩ = some (.int .i64 (y : Int)) := kept2 (by repeat (first | exact Below.refl _ _ | apply Below.drew | apply below_drewN | apply below_al)) hg (by omega) (by intro e; have := (HO.out.own _ e).2; omega) zz1; clear hown hg))
          all_goals
            go_wp2_with fail
            go_quiet (fail)
            go_wp2_with fail
            go_roundw
            case rel => exact ⟨k + 1, x + 1, y + 1, _, by omega, wrapS (by omega), wrapS (by omega), by go_num, HN, Lib.hid ((show OF w7 _ _ _ _ _ by rw [List.map_append]; exact HOW.out).below (below_drewN' _ _)), Lib.hid (below_drewN HB7.out _)⟩
            case measure => simp [intOf]; omega
      · have HN := Lib.hid (HNO.out hc)
        have hc1 : ¬ ff < x := by omega
        have hc2 : ¬ tt < y := by omega
        clear hc HYES HNO
        go_wp2_with fail
        go_quiet (fail)
        go_wp2_with fail
        go_roundw
        case rel => exact ⟨k + 1, x + 1, y + 1, hs, by omega, by go_num, by go_num, by go_num, HN, Lib.hid ((HO.out.below (below_alloc _ _)).below (below_drewN' _ _)), Lib.hid (below_drewN HBA.out _)⟩
        case measure => simp [intOf]; omega
    · obtain rfl : k = ps.length + 1 := by omega
      have HD := Lib.hid (HG.out.done (by rw [HLL.out]; exact Nat.le_refl _))
      obtain ⟨A', c', hv, hrr⟩ := HO.out.read
      subst hv
      rw [List.length_map] at *
      go_wp2_with fail
      go_ret
      exact ⟨A', c', (by rw [← HD.out]; rfl), (by rw [← HD.out]; exact hrr), go3 HB2.out HBW.out⟩
end Go.Proofs.YtfhkmmicdbblnaaDoor

