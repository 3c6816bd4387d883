/-
  The walk of the program's Apply.
-/
import Derived.Test.YtfhkmmicdbblnaaL8
import Derived.Test.YtfhkmmicdbblnaaE1j
namespace Go.Proofs.Ytfhkmmicdbblnaa
set_option linter.unusedSimpArgs false
set_option linter.unusedVariables false
open Go.RowKit

theorem wpList_append_textsN {w : World} {ops : Array Oper} {rest : List Oper} {o : Oper} {a : Act} {Q : Exit → Act → World → Prop} (hgd : o.guard = none) (s x : Operand)
    (ho : o.op = .call { callee := .builtin .append, args := #[s, x], argTypes := #[28, 28] })
    (base : Nat) (v : Value) (xs ys : List ByteArray) (A : Option Addr) (n c : Nat) (hn : n = ys.length) (hs : a.eval s = v) (hx : a.eval x = .slice A n c) (hown : OT w base v xs) (hr : RT w A c ys)
    (hlen : xs.length + ys.length ≤ 1000000) (hbase : base ≤ w.heap.size)
    (h : ∀ v' w', OT w' base v' (xs ++ ys) → w.grownBy w' v.ownBlock → (v'.ownBlock = v.ownBlock ∨ v'.ownBlock = some w.heap.size) → wpList Try.prog ops Q rest (a.put o.dst v') w') : wpList Try.prog ops Q (o :: rest) a w :=
  wpList_append_texts hgd s x ho base v xs ys A c hs (hn ▸ hx) hown hr hlen hbase h
theorem suffix_nl (l : List UInt8) : Lib.hasSuffix l [10] = endNl l := by
  unfold Lib.hasSuffix endNl
  rw [Bool.eq_iff_iff, List.isSuffixOf_iff_suffix, beq_iff_eq]
  constructor
  · rintro ⟨t, rfl⟩
    simp
  · intro h
    obtain ⟨t, rfl⟩ := List.getLast?_eq_some_iff.1 h
    exact ⟨t, rfl⟩
/-- all texts but the last end with a newline -/
def nlT (R : List ByteArray) : Bool := nlOk (R.map dT)
theorem nlT_step {R : List ByteArray} {i : Nat} {x : ByteArray} (hx : R[i]? = some x) (hi : i + 1 < R.length) : nlT (R.drop i) = (endNl (dT x) && nlT (R.drop (i + 1))) := by
  obtain ⟨h1, h2⟩ := List.getElem?_eq_some_iff.1 hx
  rw [List.drop_eq_getElem_cons h1, h2, List.drop_eq_getElem_cons hi]
  rfl
theorem nlT_last {R : List ByteArray} {i : Nat} (hi : ¬ i + 1 < R.length) : nlT (R.drop i) = true := by
  have h : (R.drop i).length ≤ 1 := by rw [List.length_drop]; omega
  unfold nlT
  match R.drop i, h with
  | [], _ => rfl
  | [x], _ => rfl
  | x :: y :: l, h => simp at h
/-- what a script makes of a text -/
def apR (a : ByteArray) (hs : List (Int × Int × List ByteArray)) : List ByteArray := apl (lB a) (natH hs) 0
def apOk (a : ByteArray) (hs : List (Int × Int × List ByteArray)) : Bool := scB (lB a).length hs (-1) && nlT (apR a hs)
def apS (a : ByteArray) (hs : List (Int × Int × List ByteArray)) : ByteArray := if apOk a hs = true then catB (apR a hs) else ⟨#[]⟩
def apE (a : ByteArray) (hs : List (Int × Int × List ByteArray)) : Int := if apOk a hs = true then 0 else 161
theorem ap_good {a : ByteArray} {hs : List (Int × Int × List ByteArray)} (h : apOk a hs = true) : apS a hs = catB (apR a hs) ∧ apE a hs = 0 := by
  unfold apS apE
  rw [if_pos h, if_pos h]
  exact ⟨rfl, rfl⟩
theorem ap_bad {a : ByteArray} {hs : List (Int × Int × List ByteArray)} (h : apOk a hs = false) : apS a hs = ⟨#[]⟩ ∧ apE a hs = 161 := by
  unfold apS apE
  rw [h]
  exact ⟨rfl, rfl⟩
/-- a text and an error come back -/
def RetS (w : World) (s : ByteArray) (n : Int) (e : Ending) (w' : World) : Prop := e = .returned (.tuple #[.string s, .int .i64 n]) ∧ Below w.heap.size w w'
theorem RetS.of {w : World} {s s' : ByteArray} {n n' : Int} {e : Ending} {w' : World} (h : RetS w s n e w') (h1 : s' = s) (h2 : n' = n) : RetS w s' n' e w' := by
  subst h1 h2
  exact h
theorem RT.dropA {w : World} {A : Option Addr} {c : Nat} {xs : List ByteArray} (h : RT w A c xs) {t : Nat} (ht : t ≤ xs.length) : RT w (cutA A c t 1) (c - t) (xs.drop t) := by
  apply RC.rt
  rw [List.map_drop]
  exact h.rc.cut (by rw [List.length_map]; exact ht)
/-- the loop over hunks: what has been made, and what is left of the script -/
def AI (L : List ByteArray) (hs : List (Int × Int × List ByteArray)) (R : List ByteArray) (k t : Nat) (done : List ByteArray) : Prop :=
  R = done ++ apl L (natH (hs.drop k)) t ∧ t ≤ L.length ∧ ∃ s : Int, (t : Int) ≤ s + 1 ∧ scrI L.length (hs.drop k) s = true
theorem AI.step {L : List ByteArray} {hs : List (Int × Int × List ByteArray)} {R : List ByteArray} {k t : Nat} {done : List ByteArray} (h : AI L hs R k t done) {f t' : Int} {ls : List ByteArray} (hx : hs[k]? = some (f, t', ls)) :
    ∃ F T : Nat, f = F ∧ t' = T ∧ t ≤ F ∧ F ≤ L.length ∧ T ≤ L.length ∧ AI L hs R (k + 1) T ((done ++ (L.drop t).take (F - t)) ++ ls) := by
  obtain ⟨h1, h2, s, h3, h4⟩ := h
  obtain ⟨q1, q2⟩ := List.getElem?_eq_some_iff.1 hx
  rw [List.drop_eq_getElem_cons q1, q2] at h1 h4
  unfold scrI at h4
  rw [Bool.and_eq_true, decide_eq_true_eq] at h4
  obtain ⟨⟨a1, a2, a3, _⟩, h5⟩ := h4
  simp only at a1 a2 a3 h5
  obtain ⟨F, rfl⟩ : ∃ F : Nat, f = F := ⟨f.toNat, by omega⟩
  obtain ⟨T, rfl⟩ : ∃ T : Nat, t' = T := ⟨t'.toNat, by omega⟩
  refine ⟨F, T, rfl, rfl, by omega, by omega, by omega, ?_, by omega, T, by omega, h5⟩
  rw [h1, List.append_assoc, List.append_assoc]
  rfl
theorem AI.start {L : List ByteArray} {hs : List (Int × Int × List ByteArray)} (h : scB L.length hs (-1) = true) : AI L hs (apl L (natH hs) 0) 0 0 [] := by
  unfold scB at h
  rw [Bool.and_eq_true] at h
  exact ⟨rfl, Nat.zero_le _, -1, by omega, h.1⟩
theorem AI.done {L : List ByteArray} {hs : List (Int × Int × List ByteArray)} {R : List ByteArray} {t : Nat} {done : List ByteArray} (h : AI L hs R hs.length t done) : R = done ++ L.drop t ∧ t ≤ L.length := by
  obtain ⟨h1, h2, _⟩ := h
  rw [List.drop_length] at h1
  exact ⟨h1, h2⟩

theorem cells_kept {w w' : World} {g : Nat} {k : Option Nat} (hg : w.grownBy w' k) (hlt : g < w.heap.size) (hne : k ≠ some g) : ∀ i, w'.cell? ⟨g, i, none⟩ = w.cell? ⟨g, i, none⟩ := fun i =>
  World.cell?_of_block (hg.block g hlt (fun e => hne e.symm))
theorem OT.lt {w : World} {base : Nat} {v : Value} {xs : List ByteArray} (h : OT w base v xs) : ∀ k, v.ownBlock = some k → k < w.heap.size := fun k e => (World.ownsRow.lt h k e).2
theorem own_ne {v v1 : Value} {n m g : Nat} (h : v1.ownBlock = v.ownBlock ∨ v1.ownBlock = some m) (h1 : ∀ k, v.ownBlock = some k → k < n) (hn : n ≤ g) (hm : g < m) : v1.ownBlock ≠ some g := by
  intro e
  rcases h with h | h
  · have := h1 g (by rw [← h, e]); omega
  · rw [h] at e; have := Option.some.inj e; omega

set_option maxHeartbeats 2000000 in
set_option maxRecDepth 100000 in
theorem apply_any (a : ByteArray) (A : Option Addr) (c : Nat) (hs : List (Int × Int × List ByteArray)) (w : World) (ha : a.size ≤ 100000) (h : RF w A c 3 (hs.map hkI)) (hz : ∀ h ∈ hs, ∀ x ∈ h.2.2, x.size ≤ 100000)
    (hr : scB (lB a).length hs (-1) = true → (apR a hs).length ≤ 100000 ∧ (catB (apR a hs)).size ≤ 100000000 ∧ ∀ x ∈ apR a hs, x.size ≤ 100000) :
    Calls Try.prog 18 #[.string a, .slice A hs.length c] w (RetS w (apS a hs) (apE a hs)) := by
  have h1 := h.1
  have h2 := h.2.1
  rw [List.length_map] at h1
  have HR := Lib.hid h
  have HLN := Lib.hid (fun W => lines_any a W ha)
  have HSC := Lib.hid (fun A c W h => isScript_any (lB a).length A c hs W h hz)
  have HLL := Lib.hid (lB_len a)
  have HA := Lib.hid ha
  unfold RetO at HLN
  clear h hz
  cases hq : scB (lB a).length hs (-1) with
  | false =>
    rw [hq] at HSC
    have HB := Lib.hid (ap_bad (a := a) (hs := hs) (by unfold apOk; rw [hq]; rfl))
    clear hq hr ha
    generalize lB a = L at *
    go_enter Try.func18, Try.ntmps18
    go_wp2_with (first
      | (go_at_call 32; refine (HLN.out _).mono ?_; rintro e w1 ⟨A1, c1, rfl, hot, hb⟩; have HB1 := Lib.hid hb; have r1 := hot.rt.2.1; have r2 := hot.rt.2.2.1; clear hot hb)
      | (go_at_call 33; refine (HSC.out _ _ _ (HR.out.below HB1.out)).mono ?_; rintro e w2 ⟨rfl, hb⟩; have HB2 := Lib.hid (go3 HB1.out hb); clear hb))
    go_ret2
    exact RetS.of ⟨rfl, HB2.out⟩ HB.out.1 HB.out.2
  | true =>
    rw [hq] at HSC
    obtain ⟨hr1, hr2, hr3⟩ := hr hq
    have HST := Lib.hid (AI.start hq)
    have HGD : Hid (nlT (apR a hs) = true → apS a hs = catB (apR a hs) ∧ apE a hs = 0) := Lib.hid (fun h => ap_good (by unfold apOk; rw [hq, h]; rfl))
    have HBD : Hid (nlT (apR a hs) = false → apS a hs = ⟨#[]⟩ ∧ apE a hs = 161) := Lib.hid (fun h => ap_bad (by unfold apOk; rw [hq, h]; rfl))
    have HRL := Lib.hid hr1
    have HRS := Lib.hid hr3
    have HJ := Lib.hid (fun A c W h => join0_any A c (apR a hs) W h hr1 hr2)
    change Hid (AI (lB a) hs (apR a hs) 0 0 []) at HST
    clear hq hr hr1 hr2 hr3 ha
    generalize apR a hs = R at *
    generalize lB a = L at *
    generalize catB R = RC at *
    go_enter Try.func18, Try.ntmps18
    go_wp2_with (first
      | (go_at_call 32; refine (HLN.out _).mono ?_; rintro e w1 ⟨A1, c1, rfl, hot, hb⟩; have HB1 := Lib.hid hb; have HOT := Lib.hid hot.rt.2; have r1 := hot.rt.2.1; have r2 := hot.rt.2.2.1; clear hot hb)
      | (go_at_call 33; refine (HSC.out _ _ _ (HR.out.below HB1.out)).mono ?_; rintro e w2 ⟨rfl, hb⟩; have HB2 := Lib.hid (go3 HB1.out hb); have HOT2 := Lib.hid (HOT.out.below hb); clear hb))
    go_loopw [7, 8, 22] (fun v t i wr => ∃ (k tt : Nat) (done : List ByteArray), k ≤ hs.length ∧ i = .int .i64 k ∧ t = .int .i64 tt ∧ Hid (AI L hs R k tt done) ∧ Hid (OT wr w2.heap.size v done) ∧ Hid (Below w2.heap.size w2 wr)) (fun _ _ i _ => hs.length - (intOf i).toNat)
    case atStart => exact ⟨0, 0, [], Nat.zero_le _, rfl, rfl, HST, Lib.hid (OT.nil _ _), Lib.hid (Below.refl _ _)⟩
    case round =>
      obtain ⟨k, tt, done, hk, rfl, rfl, HI, HO, HB⟩ := hrel
      have hbs := HB.out.size
      by_cases hlt : k < hs.length
      · obtain ⟨⟨f, t, ls⟩, hx⟩ : ∃ x, hs[k]? = some x := ⟨_, List.getElem?_eq_getElem hlt⟩
        obtain ⟨F, T, rfl, rfl, hF, hF2, hT2, hnx⟩ := HI.out.step hx
        obtain ⟨b, o, C, m, rfl, hb1, x0, x1, x2, r⟩ := HR.out.hunkI hx
        simp only at x0 x1 x2 r
        have hbw := go3 HB2.out HB.out
        replace x0 := (hbw.cell (p := ⟨b, o + k * 3, none⟩) hb1).trans x0
        replace x1 := (hbw.cell (p := ⟨b, o + k * 3 + 1, none⟩) hb1).trans x1
        replace x2 := (hbw.cell (p := ⟨b, o + k * 3 + 2, none⟩) hb1).trans x2
        have HNX := Lib.hid hnx
        have HLEN : Hid ((done ++ (L.drop tt).take (F - tt)).length + ls.length ≤ 100000) := Lib.hid (by
          have := HRL.out
          rw [hnx.1, List.length_append, List.length_append] at this
          omega)
        have HYL := Lib.hid (cut_len (xs := L) (t := tt) hF2)
        have hcut := run_cut_texts A1 L.length c1 tt F hF (by omega) r2
        have HOC := Lib.hid (HOT2.out.cut (t := tt) F (by omega))
        have HRT := Lib.hid r
        have r3 := r.1
        have r4 := r.2.1
        clear hx hnx r hb1 hbw
        generalize cutA A1 c1 tt 1 = A6 at *
        go_wp2_with (first
          | (at_builtin; refine wpList_append_textsN rfl (.tmp 26) (.tmp 31) rfl w2.heap.size _ done ((L.drop tt).take (F - tt)) A6 (F - tt) (c1 - tt) HYL.out.symm rfl rfl (HO.out.below (below_alloc _ _)) ((HOC.out.below HB.out).below (below_alloc _ _)) (by have := HLEN.out; rw [List.length_append] at this; omega) (by simp; omega) ?_; intro v1 w3 hown hg hv1; have HB3 := Lib.hid ((HB.out.alloc hbs _).grown hg (by simp; omega) (fun k hk => HO.out.own k hk)); have HOW := Lib.hid hown; have hy := cells_kept (g := wr.heap.size) hg (by simp) (by intro e; have := HO.out.lt _ e; omega); have z1 : w3.cell? ⟨wr.heap.size, 1, none⟩ = some (.int .i64 (T : Int)) := (hy 1).trans (by simp [World.cell?_alloc_new]); have z2 : w3.cell? ⟨wr.heap.size, 2, none⟩ = some (.slice C ls.length m) := (hy 2).trans (by simp [World.cell?_alloc_new]); have HNE := Lib.hid (own_ne (g := wr.heap.size) hv1 HO.out.lt (Nat.le_refl _) (by simp)); have HS3 : Hid (wr.heap.size < w3.heap.size) := Lib.hid (by have := hg.size; simp at this; omega); clear hown hg hcut hy hv1)
          | (at_builtin; refine wpList_append_textsN rfl (.tmp 33) (.tmp 35) rfl w2.heap.size _ (done ++ (L.drop tt).take (F - tt)) ls C ls.length m rfl rfl rfl HOW.out (HRT.out.below (go3 HB2.out HB3.out)) (by have := HLEN.out; omega) HB3.out.size ?_; intro v2 w4 hown hg hv2; have HB4 := Lib.hid (HB3.out.grown hg HB3.out.size (fun k hk => HOW.out.own k hk)); have HOW2 := Lib.hid hown; have hy := cells_kept (g := wr.heap.size) hg HS3.out HNE.out; have z3 : w4.cell? ⟨wr.heap.size, 1, none⟩ = some (.int .i64 (T : Int)) := (hy 1).trans z1; clear hown hg hy hv2))
        go_roundw
        case rel => exact ⟨k + 1, T, _, by omega, by go_num, rfl, HNX, HOW2, HB4⟩
        case measure => simp [intOf]; omega
      · obtain rfl : k = hs.length := by omega
        obtain ⟨hRe, htl⟩ := HI.out.done
        have HRE := Lib.hid hRe
        have hcut := run_drop_texts A1 L.length c1 tt htl
        have HOC := Lib.hid (HOT2.out.dropA htl)
        have HLEN : Hid (done.length + (L.drop tt).length ≤ 100000) := Lib.hid (by
          have := HRL.out
          rw [hRe, List.length_append] at this
          omega)
        have HDL : Hid (L.length - tt = (L.drop tt).length) := Lib.hid (by rw [List.length_drop])
        clear hRe
        generalize cutA A1 c1 tt 1 = A6 at *
        go_wp2_with (at_builtin; refine wpList_append_textsN rfl (.tmp 40) (.tmp 43) rfl w2.heap.size _ done (L.drop tt) A6 (L.length - tt) (c1 - tt) HDL.out rfl rfl HO.out (HOC.out.below HB.out) (by have := HLEN.out; omega) hbs ?_; intro v1 w3 hown hg hv1; have HB3 := Lib.hid (HB.out.grown hg hbs (fun k hk => HO.out.own k hk)); obtain ⟨A5, c5, hv, hrt⟩ := hown.read; rw [← HRE.out] at hv hrt; have HRT := Lib.hid hrt; have g1 := hrt.1; have g2 := hrt.2.1; subst hv; clear hown hg hv1 hrt hcut)
        go_loop [47] (fun i => ∃ k : Nat, k ≤ R.length ∧ i = .int .i64 k ∧ Hid (nlT R = nlT (R.drop k))) (fun i => R.length - (intOf i).toNat)
        case atStart => exact ⟨0, Nat.zero_le _, rfl, Lib.hid rfl⟩
        case round =>
          obtain ⟨k, hk, rfl, HN⟩ := hrel
          by_cases hkr : k < R.length
          · obtain ⟨x, hx⟩ : ∃ x, R[k]? = some x := ⟨_, List.getElem?_eq_getElem hkr⟩
            obtain ⟨b1, o1, rfl, hb1, hc1⟩ := HRT.out.2.2 (by omega)
            have hcx := hc1 k x hx
            have HX := Lib.hid hx
            clear hc1 hx hb1
            by_cases hk2 : k + 1 < R.length
            · have hkI : (k : Int) < (R.length : Int) - 1 := by omega
              have HSX := Lib.hid (fun W => hasSuffix_any x ⟨#[10]⟩ W (by have := HRS.out x (List.mem_of_getElem? HX.out); omega))
              rw [show Lib.hasSuffix x.data.toList (⟨#[10]⟩ : ByteArray).data.toList = endNl (dT x) from suffix_nl _] at HSX
              cases hl : endNl (dT x) with
              | true =>
                rw [hl] at HSX
                have HN2 := Lib.hid (HN.out.trans ((nlT_step HX.out hk2).trans (by rw [hl, Bool.true_and])))
                clear hl
                go_wp2_with (go_at_call 34; refine (HSX.out _).mono ?_; rintro e w' ⟨rfl, rfl⟩)
                go_round
                case rel => exact ⟨k + 1, by omega, by go_num, HN2⟩
                case measure => simp [intOf]; omega
              | false =>
                rw [hl] at HSX
                have HN2 := Lib.hid (HN.out.trans ((nlT_step HX.out hk2).trans (by rw [hl, Bool.false_and])))
                clear hl
                go_wp2_with (go_at_call 34; refine (HSX.out _).mono ?_; rintro e w' ⟨rfl, rfl⟩)
                go_ret2
                exact RetS.of ⟨rfl, go3 HB2.out HB3.out⟩ (HBD.out HN2.out).1 (HBD.out HN2.out).2
            · have hkI : ¬ (k : Int) < (R.length : Int) - 1 := by omega
              have HN2 := Lib.hid (HN.out.trans ((nlT_last hk2).trans (nlT_last (R := R) (i := k + 1) (by omega)).symm))
              go_wp2_with fail
              go_round
              case rel => exact ⟨k + 1, by omega, by go_num, HN2⟩
              case measure => simp [intOf]; omega
          · have HT : Hid (nlT R = true) := Lib.hid (HN.out.trans (nlT_last (by omega)))
            go_wp2_with (go_at_call 20; refine (HJ.out _ _ _ HRT.out).mono ?_; rintro e w4 ⟨rfl, hb⟩; have HB4 := Lib.hid (go3 (go3 HB2.out HB3.out) hb); clear hb)
            go_ret2
            exact RetS.of ⟨rfl, HB4.out⟩ (HGD.out HT.out).1 (HGD.out HT.out).2
end Go.Proofs.Ytfhkmmicdbblnaa

