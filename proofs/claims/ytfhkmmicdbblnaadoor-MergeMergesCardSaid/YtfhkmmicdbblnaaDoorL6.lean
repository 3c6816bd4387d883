/-
  The walk of the program's Diff.
-/
import Derived.Test.YtfhkmmicdbblnaaDoorM6
import Derived.Test.YtfhkmmicdbblnaaDoorME
import Derived.Deep.RegionHeld3
namespace Go.Proofs.YtfhkmmicdbblnaaDoor
set_option linter.unusedSimpArgs false
set_option linter.unusedVariables false
open Go.RowKit

theorem hunkInfo : (Tryd.prog.info? 36).map (fun i => (i.zero, i.size, i.bytes)) = some (some (.agg #[.int .i64 0, .int .i64 0, .slice none 0 0]), 3, 40) := by kernel_rfl
/-- a hunk as fields -/
def hkF (h : Nat × Nat × List ByteArray) : List Fld := [.val (.int .i64 (h.1 : Int)), .val (.int .i64 (h.2.1 : Int)), .row (h.2.2.map Value.string)]
theorem wpList_append_hunk {w : World} {ops : Array Oper} {rest : List Oper} {o : Oper} {a : Act} {Q : Exit → Act → World → Prop} (hgd : o.guard = none) (s x : Operand)
    (ho : o.op = .call { callee := .builtin .append, args := #[s, x], argTypes := #[24, 24] })
    (base : Nat) (v : Value) (fs : List (List Fld)) (f : List Fld) (u0 u1 u2 : Value) (b c : Nat) (hs' : a.eval s = v) (hx : a.eval x = .slice (some ⟨b, 0, none⟩) 1 c) (hown : OF w base 36 3 v fs)
    (hcells : ∀ (k : Nat) (u : Value), [u0, u1, u2][k]? = some u → w.cell? ⟨b, k, none⟩ = some u) (h0 : u0.oneCell' = true) (h1 : u1.oneCell' = true) (h2 : u2.oneCell' = true) (hf : Rel2 (Fld.is w v.ownBlock) f [u0, u1, u2])
    (hlen : fs.length + 1 ≤ 1000000) (hbase : base ≤ w.heap.size)
    (h : ∀ v' w', OF w' base 36 3 v' (fs ++ [f]) → w.grownBy w' v.ownBlock → (v'.ownBlock = v.ownBlock ∨ v'.ownBlock = some w.heap.size) → wpList Tryd.prog ops Q rest (a.put o.dst v') w') : wpList Tryd.prog ops Q (o :: rest) a w := by
  obtain ⟨i, hi, hz0, hz1, hz2⟩ := info_parts hunkInfo
  exact wpList_append_fld Tryd.underlying24 hi hz0 hz1 hz2 rfl (by decide) (by decide) hgd s x ho base v fs f [u0, u1, u2] b c hs' hx hown rfl hcells (by
    intro x hx
    simp only [List.mem_cons, List.not_mem_nil, or_false] at hx
    rcases hx with rfl | rfl | rfl
    · exact h0
    · exact h1
    · exact h2) hf hlen hbase h
theorem comm_mem (xs ys : List ByteArray) : comm (nI (nums [] (xs.map dT))) (nI (nums (keys [] (xs.map dT)) (ys.map dT))) 0 = comm xs ys 0 := by
  unfold nI
  rw [comm_map (fun x _ y _ h => cast_inj h)]
  have := comm_nums (xs.map dT) (ys.map dT) [] [] 0
  rw [keys_nil] at this
  rw [this, comm_map (fun x _ y _ h => dT_inj h)]
theorem nI_V (ns : List Nat) : ns.map nV = (nI ns).map iV := by
  unfold nI
  rw [List.map_map]
  rfl
/-- hunks and an error come back -/
def RetH (w : World) (hs : List (Nat × Nat × List ByteArray)) (n : Int) (e : Ending) (w' : World) : Prop :=
  ∃ A c, e = .returned (.tuple #[.slice A hs.length c, .int .i64 n]) ∧ RF w' A c 3 (hs.map hkF) ∧ Below w.heap.size w w'
def diffT (a b : ByteArray) : List (Nat × Nat × List ByteArray) := if fewB [a, b] = true then diffL (lB a) (lB b) else []
theorem RetH.of {w : World} {hs hs' : List (Nat × Nat × List ByteArray)} {n n' : Int} {e : Ending} {w' : World} (h : RetH w hs n e w') (h1 : hs' = hs) (h2 : n' = n) : RetH w hs' n' e w' := by
  subst h1 h2
  exact h
theorem few2 {a b : ByteArray} (h : fewB [a, b] = true) : (lB a).length ≤ 400 ∧ (lB b).length ≤ 400 := by
  unfold fewB at h
  simp only [List.all_cons, List.all_nil, Bool.and_true, Bool.and_eq_true, decide_eq_true_eq] at h
  exact h
theorem lB_size {s x : ByteArray} (h : x ∈ lB s) : x.size ≤ s.size := by
  unfold lB at h
  obtain ⟨l, hl, rfl⟩ := List.mem_map.1 h
  rw [mkB_size, Lib.size_eq]
  have h2 := lns_flat s.data.toList
  have h3 : ∀ (ls : List (List UInt8)), l ∈ ls → l.length ≤ ls.flatten.length := by
    intro ls
    induction ls with
    | nil => intro h; cases h
    | cons y ls ih =>
      intro h
      rw [List.flatten_cons, List.length_append]
      rcases List.mem_cons.1 h with rfl | h
      · omega
      · have := ih h; omega
  have := h3 _ hl
  rw [h2] at this
  exact this

set_option maxHeartbeats 4000000 in
theorem diff_any (a b : ByteArray) (w : World) (ha : a.size ≤ 100000) (hb : b.size ≤ 100000) :
    Calls Tryd.prog 9 #[.string a, .string b] w (RetH w (diffT a b) (dvE [a, b])) := by
  have HDV := Lib.hid (fun A c W h => divide_any A c [a, b] W h (by simp) (by intro t ht; simp only [List.mem_cons, List.not_mem_nil, or_false] at ht; rcases ht with rfl | rfl <;> assumption))
  simp only [List.length_cons, List.length_nil] at HDV
  unfold RetD at HDV
  cases hf : fewB [a, b] with
  | false =>
    have HE : Hid (diffT a b = []) := Lib.hid (by unfold diffT; rw [hf]; rfl)
    have HD := Lib.hid (dv_bad hf)
    rw [(dv_bad hf).1, (dv_bad hf).2] at HDV
    clear hf ha hb
    go_enter Tryd.func9, Tryd.ntmps9
    go_wp2_with (go_at_call 24; refine (HDV.out _ _ _ (RT.two rfl)).mono ?_; rintro e w1 ⟨A1, c1, rfl, _, bl⟩; have HB1 := Lib.hid bl; clear bl)
    go_ret2
    exact RetH.of ⟨none, 0, rfl, RF.nil _ _ _ _ (by omega), go3 (below_alloc _ _) HB1.out⟩ HE.out HD.out.2
  | true =>
    have HE : Hid (diffT a b = diffL (lB a) (lB b)) := Lib.hid (by unfold diffT; rw [hf]; rfl)
    have HD := Lib.hid (dv_good hf)
    rw [(dv_good hf).1, (dv_good hf).2] at HDV
    obtain ⟨lx, ly⟩ := few2 hf
    have HZX : Hid (∀ x ∈ lB a, x.size ≤ 100000) := Lib.hid (fun x hx => by have := lB_size hx; omega)
    have HZY : Hid (∀ x ∈ lB b, x.size ≤ 100000) := Lib.hid (fun x hx => by have := lB_size hx; omega)
    clear hf ha hb
    simp only [List.map_cons, List.map_nil] at HDV
    generalize lB a = xs at *
    generalize lB b = ys at *
    have HNU := Lib.hid (fun A c W h => numbered_any A c [xs, ys] W h (by simp) (by intro t ht; simp only [List.mem_cons, List.not_mem_nil, or_false] at ht; rcases ht with rfl | rfl <;> omega) (by intro t ht; simp only [List.mem_cons, List.not_mem_nil, or_false] at ht; rcases ht with rfl | rfl; exact HZX.out; exact HZY.out))
    unfold RetN at HNU
    have HCO := Lib.hid (fun A B c d W h k => common_any A B c d (nI (nums [] (xs.map dT))) (nI (nums (keys [] (xs.map dT)) (ys.map dT))) W h k (by unfold nI; rw [List.length_map, nums_len, List.length_map]; omega) (by unfold nI; rw [List.length_map, nums_len, List.length_map]; omega))
    rw [comm_mem] at HCO
    unfold RetI at HCO
    rw [comm_len] at HCO
    have hl1 : (nI (nums [] (xs.map dT))).length = xs.length := by unfold nI; rw [List.length_map, nums_len, List.length_map]
    have hl2 : (nI (nums (keys [] (xs.map dT)) (ys.map dT))).length = ys.length := by unfold nI; rw [List.length_map, nums_len, List.length_map]
    simp only [hl1, hl2] at HCO
    have hn : nmL [] [xs, ys] = [nums [] (xs.map dT), nums (keys [] (xs.map dT)) (ys.map dT)] := rfl
    rw [hn] at HNU
    have h0 : ([nums [] (xs.map dT), nums (keys [] (xs.map dT)) (ys.map dT)].map nmF)[0]? = some [Fld.row ((nI (nums [] (xs.map dT))).map iV)] := by rw [← nI_V]; rfl
    have h1 : ([nums [] (xs.map dT), nums (keys [] (xs.map dT)) (ys.map dT)].map nmF)[1]? = some [Fld.row ((nI (nums (keys [] (xs.map dT)) (ys.map dT))).map iV)] := by rw [← nI_V]; rfl
    have HL1 := Lib.hid hl1
    have HL2 := Lib.hid hl2
    have H0 := Lib.hid h0
    have H1 := Lib.hid h1
    clear hl1 hl2 hn h0 h1
    have HFS : Hid (([nums [] (xs.map dT), nums (keys [] (xs.map dT)) (ys.map dT)].map nmF).length = 2) := Lib.hid rfl
    generalize [nums [] (xs.map dT), nums (keys [] (xs.map dT)) (ys.map dT)].map nmF = fs at *
    generalize nI (nums [] (xs.map dT)) = us at *
    generalize nI (nums (keys [] (xs.map dT)) (ys.map dT)) = vs at *
    replace HDV : Hid (∀ A c W, RT W A c [a, b] → Calls Tryd.prog 24 #[.slice A 2 c] W fun e w' => ∃ A' c', e = .returned (.tuple #[.slice A' 2 c', .int .i64 0]) ∧ RF w' A' c' 1 [lnF xs, lnF ys] ∧ Below W.heap.size W w') := Lib.hid HDV.out
    replace HNU : Hid (∀ A c W, RF W A c 1 ([xs, ys].map lnF) → Calls Tryd.prog 25 #[.slice A 2 c] W fun e w' => ∃ A' c', e = .returned (.slice A' 2 c') ∧ RF w' A' c' 1 fs ∧ Below W.heap.size W w') := Lib.hid HNU.out
    have HFL : Hid (fs.length = 2) := HFS
    go_enter Tryd.func9, Tryd.ntmps9
    go_wp2_with (go_at_call 24; refine (HDV.out _ _ _ (RT.two rfl)).mono ?_; rintro e w1 ⟨A1, c1, rfl, rf, bl⟩; have HB1 := Lib.hid bl; obtain ⟨b1, o1, C1, n1, rfl, hb1, x1, r1⟩ := rf.row1 (j := 0) rfl; obtain ⟨b2, o2, C2, n2, e2, hb2, x2, r2⟩ := rf.row1 (j := 1) rfl; cases e2; rw [List.length_map] at x1 x2; rw [Nat.add_zero] at x1; have HX := Lib.hid r1.rt; have HY := Lib.hid r2.rt; have g1 := rf.1; have g2 := rf.2.1; have g3 := HX.out.1; have g4 := HX.out.2.1; have g5 := HY.out.1; have g6 := HY.out.2.1; clear rf bl r1 r2)
    go_quiet (fail)
    go_wp2_with (go_at_call 25; refine (HNU.out _ _ _ (RF.lines2 (HX.out.below (below_drewN' _ _)) (HY.out.below (below_drewN' _ _)) rfl)).mono ?_; rintro e w2 ⟨A2, c2, rfl, rf, bl⟩; have HB2 := Lib.hid bl; obtain ⟨b3, o3, C3, n3, rfl, hb3, x3, r3⟩ := rf.row1 H0.out; obtain ⟨b4, o4, C4, n4, e2, hb4, x4, r4⟩ := rf.row1 H1.out; cases e2; rw [List.length_map, HL1.out] at x3; rw [List.length_map, HL2.out] at x4; rw [Nat.add_zero] at x3; have q1 := rf.1; have q2 := rf.2.1; rw [HFS.out] at q1; have HI : At (fun w' => RC w' C3 n3 (us.map iV) ∧ RC w' C4 n4 (vs.map iV) ∧ (w'.cell? ⟨b3, o3, none⟩ = some (.slice C3 xs.length n3) ∧ w'.cell? ⟨b3, o3 + 1, none⟩ = some (.slice C4 ys.length n4)) ∧ Below w2.heap.size w2 w') w2 := ⟨fun w w' h hb => ⟨h.1.below hb, h.2.1.below hb, ⟨(hb.cell (p := ⟨b3, o3, none⟩) (cell_lt h.2.2.1.1)).trans h.2.2.1.1, (hb.cell (p := ⟨b3, o3 + 1, none⟩) (cell_lt h.2.2.1.2)).trans h.2.2.1.2⟩, kept_below w2 w w' h.2.2.2 hb⟩, r3, r4, ⟨x3, x4⟩, Below.refl _ _⟩; have HY2 := Lib.hid ((HY.out.below (by repeat (first | exact Below.refl _ _ | apply Below.drew | apply below_drewN | apply below_al))).below HB2.out); have HBW := Lib.hid (go3 (go3 (go3 (below_alloc _ _) HB1.out) (by repeat (first | exact Below.refl _ _ | apply Below.drew | apply below_drewN | apply below_al))) HB2.out); clear rf bl r3 r4)
    have HPL : Hid ((comm xs ys 0 ++ [some ys.length]).length = xs.length + 1) := Lib.hid (by rw [List.length_append, comm_len]; rfl)
    have HST := Lib.hid (DI.start xs ys)
    have HCL : Hid ((comm xs ys 0).length ≤ 400) := Lib.hid (by rw [comm_len]; exact lx)
    go_region_held3 (fun w' => w'.cell? ⟨b3, o3, none⟩ = some (.slice C3 xs.length n3) ∧ w'.cell? ⟨b3, o3 + 1, none⟩ = some (.slice C4 ys.length n4))
      (first | exact ⟨(HB5.out.cell (p := ⟨b3, o3, none⟩) hb3).trans x3, (HB5.out.cell (p := ⟨b3, o3 + 1, none⟩) hb3).trans x4⟩ | exact (HI.go (by repeat (first | exact Below.refl _ _ | apply Below.drew | apply below_drewN | apply below_al))).out.2.2.1)
      (first
        | (go_at_call 26; refine (HCO.out _ _ _ _ _ (HI.go (by repeat (first | exact Below.refl _ _ | apply Below.drew | apply below_drewN | apply below_al))).out.1 (HI.go (by repeat (first | exact Below.refl _ _ | apply Below.drew | apply below_drewN | apply below_al))).out.2.1).mono ?_; rintro e w3 ⟨g, rfl, hov, hb⟩; have HC3 := Lib.hid (bcell hb).1; have HB3 := Lib.hid (HI.go2 (by repeat (first | exact Below.refl _ _ | apply Below.drew | apply below_drewN | apply below_al)) hb).out.2.2.2; replace HI := HI.go2 (by repeat (first | exact Below.refl _ _ | apply Below.drew | apply below_drewN | apply below_al)) hb; have HOV : Hid (OV w3 w2.heap.size 3 (.slice (some ⟨g, 0, none⟩) xs.length xs.length) ((comm xs ys 0).map oV)) := Lib.hid (hov.base (by simp)); clear hov hb)
        | (refine step_append_int rfl _ _ rfl w2.heap.size _ ((comm xs ys 0).map oV) (.int .i64 (ys.length : Int)) _ 1 rfl rfl (HOV.out.below (by repeat (first | exact Below.refl _ _ | apply Below.drew | apply below_drewN | apply below_al))) (by first | (simp [World.cell?_alloc_new]; done) | (rw [HC3.out _ _ (by simp)]; simp [World.cell?_alloc_new]) | (simp; rw [HC3.out _ _ (by simp)]; simp [World.cell?_alloc_new])) rfl (by rw [List.length_map]; have := HCL.out; omega) (by have := HB3.out.size; simp; omega) ?_; intro v5 w5 hown hg _; have HB5 : Hid (Below w2.heap.size w2 w5) := Lib.hid ((HI.go (by repeat (first | exact Below.refl _ _ | apply Below.drew | apply below_drewN | apply below_al))).out.2.2.2.grown hg (by have := HB3.out.size; simp; omega) (fun k hk => (HOV.out.own k hk).1)); have hrd := hown.read; obtain ⟨A5, c5, hv, hrc⟩ := hrd; rw [List.length_append, List.length_map, comm_len, List.length_singleton] at hv; subst hv; have HPR : Hid (RC w5 A5 c5 ((comm xs ys 0 ++ [some ys.length]).map oV)) := Lib.hid (by rw [List.map_append]; exact hrc); have s1 := hrc.1; rw [List.length_append, List.length_map, comm_len, List.length_singleton] at s1; have s2 := hrc.2.1; clear hown hg hrc))
    all_goals
      have HBW5 := Lib.hid (go3 HBW.out HB5.out)
      have HY5 := Lib.hid (HY2.out.below HB5.out)
      clear HI HC3 HB3 HOV HBW HY2 HB5 HB2 HB1 HX HY x1 x2 x3 x4 HCO HNU HDV H0 H1 hb1 hb2 hb3 hb4
      go_wp2_with fail
      go_loopw [12, 13, 14, 50] (fun v f t i wr => ∃ (k ff tt : Nat) (hs : List (Nat × Nat × List ByteArray)), k ≤ xs.length + 1 ∧ ff ≤ k ∧ tt ≤ ys.length + 1 ∧ i = .int .i64 k ∧ f = .int .i64 ff ∧ t = .int .i64 tt ∧ Hid (DI xs ys (comm xs ys 0 ++ [some ys.length]) k ff tt hs) ∧ Hid (hs.length ≤ k) ∧ Hid (OF wr w5.heap.size 36 3 v (hs.map hkF)) ∧ Hid (Below w5.heap.size w5 wr)) (fun _ _ _ i _ => xs.length + 1 - (intOf i).toNat)
      case atStart => exact ⟨0, 0, 0, [], Nat.zero_le _, Nat.le_refl _, Nat.zero_le _, rfl, rfl, rfl, HST, Lib.hid (Nat.le_refl _), Lib.hid (OF.nil _ _ _ _), Lib.hid (Below.refl _ _)⟩
      case round =>
        obtain ⟨k, ff, tt, hs, hk, hff, htt, rfl, rfl, rfl, HDI, HHL, HO, HB⟩ := hrel
        have hbs := HB.out.size
        by_cases hlt : k < xs.length + 1
        · obtain ⟨o, ho⟩ : ∃ o, (comm xs ys 0 ++ [some ys.length])[k]? = some o := ⟨_, List.getElem?_eq_getElem (by rw [HPL.out]; exact hlt)⟩
          obtain ⟨b6, o6, rfl, hb6, hc6⟩ := (HPR.out.below HB.out).2.2 (by rw [List.length_map, HPL.out]; omega)
          have hco := hc6 k (oV o) (by rw [List.getElem?_map, ho]; rfl)
          clear hc6 hb6
          unfold oV at hco
          have hltI : (k : Int) < (xs.length : Int) + 1 := by omega
          cases o with
          | none =>
            have HN := Lib.hid (HDI.out.none_ ho)
            unfold pI at hco
            clear ho
            go_wp2_with fail
            go_roundw
            case rel => exact ⟨k + 1, ff, tt, hs, by omega, by omega, htt, by go_num, rfl, rfl, HN, Lib.hid (by have := HHL.out; omega), HO, HB⟩
            case measure => simp [intOf]; omega
          | some j =>
            obtain ⟨g1', g2', hyes, hno⟩ := HDI.out.some_ ho
            unfold pI at hco
            have hj0 : (0 : Int) ≤ (j : Int) := by omega
            clear ho
            by_cases hc : ff < k ∨ tt < j
            · have HN := Lib.hid (hyes hc)
              have HRT := Lib.hid (RT.cut (HY5.out.below HB.out) j (t := tt) (by omega))
              have hcl := cut_len (xs := ys) (t := tt) g2'
              have HCLN := Lib.hid (fun W h => clone_any (cutA C2 n2 tt 1) (n2 - tt) (j - tt) ((ys.drop tt).take (j - tt)) W h hcl.symm (by rw [hcl]; omega))
              unfold RetO at HCLN
              have hcut := run_cut_texts C2 ys.length n2 tt j g1' (by omega) (by omega)
              have HLN : Hid (((hs ++ [(ff, k, (ys.drop tt).take (j - tt))]).map hkF) = hs.map hkF ++ [hkF (ff, k, (ys.drop tt).take (j - tt))]) := Lib.hid (by rw [List.map_append]; rfl)
              have HHL2 : Hid ((hs.map hkF).length ≤ 401) := Lib.hid (by rw [List.length_map]; have := HHL.out; omega)
              have HHL3 : Hid ((hs ++ [(ff, k, (ys.drop tt).take (j - tt))]).length ≤ k + 1) := Lib.hid (by rw [List.length_append]; have := HHL.out; simp; omega)
              clear hyes hno hcl
              generalize cutA C2 n2 tt 1 = C6 at *
              generalize (ys.drop tt).take (j - tt) = L at *
              by_cases hfk : ff < k
              · have hfkI : (ff : Int) < (k : Int) := by omega
                clear hc
                go_wp2_with (first
                  | (go_at_call 27; refine (HCLN.out _ HRT.out).mono ?_; rintro e w6 ⟨C7, m7, rfl, hot, hb⟩; have HOT := Lib.hid hot; have HB6 := Lib.hid hb; have hs6 := hb.size; clear hot hb)
                  | (at_builtin; refine wpList_append_hunk rfl _ _ rfl w5.heap.size _ (hs.map hkF) (hkF (ff, k, L)) (.int .i64 (ff : Int)) (.int .i64 (k : Int)) (.slice C7 L.length m7) w6.heap.size 1 rfl rfl ((HO.out.below HB6.out).below (below_alloc _ _)) (cells_new _ [_, _, _] _ rfl) rfl rfl rfl (Rel2.cons rfl (Rel2.cons rfl (Rel2.cons (Fld.txt (HOT.out.rt.2.below (below_alloc _ _)) (Off.new HO.out HOT.out.newA)) Rel2.nil))) (by have := HHL2.out; omega) (by simp; omega) ?_; intro v1 w7 hown hg _; have HB7 := Lib.hid (((go3 HB.out HB6.out).alloc (by omega) _).grown hg (by simp; omega) (fun k hk => (HO.out.own k hk).1)); have HOW := Lib.hid hown; clear hown hg))
                go_roundw
                case rel => exact ⟨k + 1, k + 1, j + 1, _, by omega, by omega, by omega, by go_num, by go_num, by go_num, HN, HHL3, Lib.hid (by rw [HLN.out]; exact HOW.out), HB7⟩
                case measure => simp [intOf]; omega
              · have hfkI : ¬ (ff : Int) < (k : Int) := by omega
                have htj : (tt : Int) < (j : Int) := by omega
                clear hc
                go_wp2_with (first
                  | (go_at_call 27; refine (HCLN.out _ HRT.out).mono ?_; rintro e w6 ⟨C7, m7, rfl, hot, hb⟩; have HOT := Lib.hid hot; have HB6 := Lib.hid hb; have hs6 := hb.size; clear hot hb)
                  | (at_builtin; refine wpList_append_hunk rfl _ _ rfl w5.heap.size _ (hs.map hkF) (hkF (ff, k, L)) (.int .i64 (ff : Int)) (.int .i64 (k : Int)) (.slice C7 L.length m7) w6.heap.size 1 rfl rfl ((HO.out.below HB6.out).below (below_alloc _ _)) (cells_new _ [_, _, _] _ rfl) rfl rfl rfl (Rel2.cons rfl (Rel2.cons rfl (Rel2.cons (Fld.txt (HOT.out.rt.2.below (below_alloc _ _)) (Off.new HO.out HOT.out.newA)) Rel2.nil))) (by have := HHL2.out; omega) (by simp; omega) ?_; intro v1 w7 hown hg _; have HB7 := Lib.hid (((go3 HB.out HB6.out).alloc (by omega) _).grown hg (by simp; omega) (fun k hk => (HO.out.own k hk).1)); have HOW := Lib.hid hown; clear hown hg))
                go_roundw
                case rel => exact ⟨k + 1, k + 1, j + 1, _, by omega, by omega, by omega, by go_num, by go_num, by go_num, HN, HHL3, Lib.hid (by rw [HLN.out]; exact HOW.out), HB7⟩
                case measure => simp [intOf]; omega
            · have HN := Lib.hid (hno hc)
              have hfkI : ¬ (ff : Int) < (k : Int) := by omega
              have htj : ¬ (tt : Int) < (j : Int) := by omega
              clear hc hyes hno
              go_wp2_with fail
              go_roundw
              case rel => exact ⟨k + 1, k + 1, j + 1, hs, by omega, by omega, by omega, by go_num, by go_num, by go_num, HN, Lib.hid (by have := HHL.out; omega), HO, HB⟩
              case measure => simp [intOf]; omega
        · have HF := Lib.hid (HDI.out.done (by rw [HPL.out]; omega))
          obtain ⟨A', c', hv, hrf⟩ := HO.out.read
          rw [List.length_map] at hv
          have HRF := Lib.hid hrf
          subst hv
          clear hrf HO
          go_wp2_with fail
          go_ret2
          exact RetH.of ⟨A', c', rfl, HRF.out, go3 HBW5.out HB.out⟩ (HE.out.trans HF.out.symm) HD.out.2
end Go.Proofs.YtfhkmmicdbblnaaDoor

