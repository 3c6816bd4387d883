/-
  The walk of the program's numbered.
-/
import Derived.Test.YtfhkmmicdbblnaaDoorM5
import Derived.Test.YtfhkmmicdbblnaaDoorL2
import Derived.Maps.OwnOps
import Derived.Deep.OwnRows
namespace Go.Proofs.YtfhkmmicdbblnaaDoor
set_option linter.unusedSimpArgs false
set_option linter.unusedVariables false
open Go.RowKit Go.Maps

theorem intInfo : (Tryd.prog.info? 3).map (fun i => (i.zero, i.size, i.bytes)) = some (some (.int .i64 0), 1, 8) := by kernel_rfl
theorem intsInfo : (Tryd.prog.info? 53).map (fun i => (i.zero, i.size, i.bytes)) = some (some (.slice none 0 0), 1, 24) := by kernel_rfl
theorem zeroI (w : World) : (zeroValue 3).run Tryd.prog w = .ok (.int .i64 0) w := by kernel_rfl
theorem lawS : Keyed Tryd.prog 9 := string_keyed Tryd.underlying9
theorem make_ints (n : Nat) (hn : n ≤ 1000000) (w : World) : (Instr.makeSlice 53 (.int .i64 (n : Int)) (.int .i64 (n : Int))).run Tryd.prog w = .ok (.slice (some ⟨w.heap.size, 0, none⟩) n n) (w.alloc (.cells (madeCells #[.int .i64 0] n) 3)) :=
  Go.run_make_row' 53 3 (.int .i64 0) 8 Tryd.underlying53 intInfo rfl .i64 .i64 n (by omega) (by omega) w
theorem wpList_append_nums {w : World} {ops : Array Oper} {rest : List Oper} {o : Oper} {a : Act} {Q : Exit → Act → World → Prop} (hgd : o.guard = none) (s x : Operand)
    (ho : o.op = .call { callee := .builtin .append, args := #[s, x], argTypes := #[51, 51] })
    (base : Nat) (v : Value) (fs : List (List Fld)) (f : List Fld) (u : Value) (b c : Nat) (hs' : a.eval s = v) (hx : a.eval x = .slice (some ⟨b, 0, none⟩) 1 c) (hown : OF w base 53 1 v fs) (hcell : w.cell? ⟨b, 0, none⟩ = some u) (h1 : u.oneCell' = true) (hf : Rel2 (Fld.is w v.ownBlock) f [u])
    (hlen : fs.length + 1 ≤ 1000000) (hbase : base ≤ w.heap.size)
    (h : ∀ v' w', OF w' base 53 1 v' (fs ++ [f]) → w.grownBy w' v.ownBlock → (v'.ownBlock = v.ownBlock ∨ v'.ownBlock = some w.heap.size) → wpList Tryd.prog ops Q rest (a.put o.dst v') w') : wpList Tryd.prog ops Q (o :: rest) a w := by
  obtain ⟨i, hi, hz0, hz1, hz2⟩ := info_parts intsInfo
  exact wpList_append_fld Tryd.underlying51 hi hz0 hz1 hz2 rfl (by decide) (by decide) hgd s x ho base v fs f [u] b c hs' hx hown rfl (fun k x hx => by
    cases k with
    | zero => have : u = x := by simpa using hx
              rw [← this]; exact hcell
    | succ k => simp at hx) (fun x hx => by rw [List.mem_singleton.1 hx]; exact h1) hf hlen hbase h
theorem lit_inj {H : Type} {a b : Int} (h : (DataW.lit (.int .i64 a) : DataW H) = .lit (.int .i64 b)) : a = b := by
  injection h with h
  injection h
/-- the map of lines, as it lies in memory -/
def NM (w : World) (B n : Nat) (ks : List (List UInt8)) : Prop := ∃ D : DataW Unit, w.ownsMap Tryd.prog 9 (plainElem Tryd.prog 3) B n D ∧ MK D ks
theorem NM.kept {w w' : World} {B n : Nat} {ks : List (List UInt8)} {row : Option Nat} (h : NM w B n ks) (hg : w.grownBy w' row) (hne : some B ≠ row) : NM w' B n ks := by
  obtain ⟨D, h1, h2⟩ := h
  exact ⟨D, h1.kept hg hne, h2⟩
theorem NM.block {w : World} {B n : Nat} {ks : List (List UInt8)} (h : NM w B n ks) : ∃ es t, w.heap[B]? = some (.map es t) := by
  obtain ⟨D, h1, _⟩ := h
  exact owns_block h1
/-- rows of numbers come back -/
def RetN (w : World) (ns : List (List Nat)) (e : Ending) (w' : World) : Prop :=
  ∃ A c, e = .returned (.slice A ns.length c) ∧ RF w' A c 1 (ns.map nmF) ∧ Below w.heap.size w w'
/-- what the round over lists keeps -/
def NS (w : World) (ls : List (List ByteArray)) (k : Nat) (v : Value) (wr : World) : Prop :=
  NM wr w.heap.size (k * 100000) (ksL [] (ls.take k)) ∧ OF wr (w.heap.size + 1) 53 1 v ((nmL [] (ls.take k)).map nmF) ∧ Below w.heap.size w wr ∧ w.heap.size + 1 ≤ wr.heap.size
/-- what the round over lines keeps; wo: the world ahead of it -/
def NI (w wo : World) (l : List ByteArray) (ks : List (List UInt8)) (n k : Nat) (wr : World) : Prop :=
  NM wr w.heap.size (n + k) (keys ks ((l.take k).map dT)) ∧ OV wr (wo.heap.size) 3 (.slice (some ⟨wo.heap.size, 0, none⟩) l.length l.length) (half (nums ks ((l.take k).map dT)) (l.length - k)) ∧ wo.grownBy wr (some w.heap.size) ∧ wo.heap.size + 1 ≤ wr.heap.size

theorem NI.cell {w wo wr : World} {l : List ByteArray} {ks : List (List UInt8)} {n k : Nat} (h : NI w wo l ks n k wr) (hk : k < l.length) : wr.cell? ⟨wo.heap.size, k, none⟩ = some (.int .i64 0) ∧ wr.frozen? ⟨wo.heap.size, k, none⟩ = false := by
  obtain ⟨_, h2, _⟩ := h
  obtain ⟨m, hm⟩ : ∃ m, l.length - k = m + 1 := ⟨l.length - k - 1, by omega⟩
  rw [hm] at h2
  have e : (nums ks ((l.take k).map dT)).length = k := by rw [nums_len, List.length_map, List.length_take]; omega
  have := h2.cell (half_at (nums ks ((l.take k).map dT)) m)
  rw [e] at this
  exact this
theorem NI.step {w wo wr w1 : World} {l : List ByteArray} {ks : List (List UInt8)} {n k : Nat} {x : ByteArray} (h : NI w wo l ks n k wr) (hx : l[k]? = some x) (hw : w.heap.size < wo.heap.size)
    (hm : NM w1 w.heap.size (n + k + 1) (key (keys ks ((l.take k).map dT)) (dT x))) (hg : wr.grownBy w1 (some w.heap.size)) :
    NI w wo l ks n (k + 1) (w1.setCell ⟨wo.heap.size, k, none⟩ (.int .i64 ((num (keys ks ((l.take k).map dT)) (dT x) : Nat) : Int))) := by
  obtain ⟨h1, h2, h3, h4⟩ := h
  have hk : k < l.length := (List.getElem?_eq_some_iff.1 hx).1
  obtain ⟨m, hm2⟩ : ∃ m, l.length - k = m + 1 := ⟨l.length - k - 1, by omega⟩
  have ht : (l.take (k + 1)).map dT = (l.take k).map dT ++ [dT x] := by rw [List.take_add_one, hx, List.map_append]; rfl
  obtain ⟨s1, s2⟩ := nums_snoc ((l.take k).map dT) ks (dT x)
  have e : (nums ks ((l.take k).map dT)).length = k := by rw [nums_len, List.length_map, List.length_take]; omega
  refine ⟨?_, ?_, gb_set (h3.trans hg) (.inr (Nat.le_refl _)) _, ?_⟩
  · rw [ht, s2]
    exact hm.kept (gb_set (World.grownBy.refl w1 (some wo.heap.size)) (.inl rfl) _) (by intro e; have := Option.some.inj e; omega)
  · rw [ht, s1, show l.length - (k + 1) = m by omega, ← half_set, e]
    rw [hm2] at h2
    refine (h2.grown hg (.inr ?_)).set k _
    intro e
    have : wo.heap.size = w.heap.size := by simpa [Value.ownBlock] using e
    omega
  · have := hg.size
    simp only [World.setCell, Array.size_modify]
    omega

set_option maxHeartbeats 2000000 in
theorem numbered_any (A : Option Addr) (c : Nat) (ls : List (List ByteArray)) (w : World) (h : RF w A c 1 (ls.map lnF)) (hn : ls.length ≤ 100) (hl : ∀ l ∈ ls, l.length ≤ 100000) (hz : ∀ l ∈ ls, ∀ x ∈ l, x.size ≤ 100000) :
    Calls Tryd.prog 25 #[.slice A ls.length c] w (RetN w (nmL [] ls)) := by
  have HR := Lib.hid h
  have HZ := Lib.hid hz
  have HL := Lib.hid hl
  have h1 := h.1
  have h2 := h.2.1
  rw [List.length_map] at h1
  have hmm := @run_makeMap Tryd.prog
  clear h hz hl
  go_enter Tryd.func25, Tryd.ntmps25
  go_wp2_with fail
  go_loopw [4, 15] (fun v i wr => ∃ k : Nat, k ≤ ls.length ∧ i = .int .i64 k ∧ Hid (NS w ls k v wr)) (fun _ i _ => ls.length - (intOf i).toNat)
  case atStart => exact ⟨0, Nat.zero_le _, rfl, Lib.hid ⟨⟨_, (World.ownsMap_made w _ _ _), MK.nil⟩, OF.nil _ _ _ _, below_alloc _ _, by simp⟩⟩
  case round =>
    obtain ⟨k, hk, rfl, HS⟩ := hrel
    obtain ⟨wo, rfl⟩ : ∃ wo : World, wo = wr := ⟨_, rfl⟩
    have hws := HS.out.2.2.2
    by_cases hlt : k < ls.length
    · obtain ⟨l, hx⟩ : ∃ l, ls[k]? = some l := ⟨_, List.getElem?_eq_getElem hlt⟩
      have hlm := List.mem_of_getElem? hx
      obtain ⟨b1, o1, rfl, hb1, hc1⟩ := (HR.out.below HS.out.2.2.1).2.2 (by rw [List.length_map]; omega)
      obtain ⟨u, hcu, hu⟩ := hc1 k (lnF l) (by rw [List.getElem?_map, hx]; rfl) 0 (.row (l.map Value.string)) rfl
      obtain ⟨C, m, rfl, hrc, _⟩ := hu
      rw [List.length_map, Nat.mul_one, Nat.add_zero] at hcu
      have HRT := Lib.hid hrc.rt
      have hl1 := HL.out l hlm
      have HLZ := Lib.hid (HZ.out l hlm)
      have hm1 := HRT.out.1
      have hm2 := HRT.out.2.1
      have HT : Hid (ls.take (k + 1) = ls.take k ++ [l]) := Lib.hid (by rw [List.take_add_one, hx]; rfl)
      have hmk := make_ints l.length (by omega)
      have HNI : Hid (NI w wo l (ksL [] (ls.take k)) (k * 100000) 0 (wo.alloc (.cells (madeCells #[.int .i64 0] l.length) 3))) := Lib.hid ⟨by
        rw [List.take_zero, Nat.add_zero]
        exact HS.out.1.kept (gb_al (World.grownBy.refl wo none) _) (by simp), by
        rw [List.take_zero, Nat.sub_zero]
        show OV _ _ _ _ (half [] _)
        unfold half
        rw [List.map_nil, List.nil_append]
        exact OV.made wo _ _ _ _ (Nat.le_refl _) (by omega) rfl, gb_al (World.grownBy.refl wo _) _, by simp⟩
      clear hc1 hx hrc hb1 hlm
      go_wp2_with fail
      go_loopw [24] (fun i wr => ∃ j : Nat, j ≤ l.length ∧ i = .int .i64 j ∧ Hid (NI w wo l (ksL [] (ls.take k)) (k * 100000) j wr)) (fun i _ => l.length - (intOf i).toNat)
      case atStart => exact ⟨0, Nat.zero_le _, rfl, HNI⟩
      case round =>
        clear HNI
        obtain ⟨j, hj, rfl, HI⟩ := hrel
        by_cases hjt : j < l.length
        · obtain ⟨x, hx⟩ : ∃ x, l[j]? = some x := ⟨_, List.getElem?_eq_getElem hjt⟩
          obtain ⟨b3, o3, rfl, hb3, hc3⟩ := HRT.out.2.2 (by omega)
          have hbm : Off (some w.heap.size) (some ⟨b3, o3, none⟩) (l.map Value.string).length := by
            obtain ⟨es, t, hes⟩ := HS.out.1.block
            exact HRT.out.rc.offmap hes
          have hcx : wr.cell? ⟨b3, o3 + j, none⟩ = some (.string x) := by
            rw [World.cell?_of_block (HI.out.2.2.1.block b3 hb3 (fun e => hbm (by rw [List.length_map]; omega) _ rfl e.symm))]
            exact hc3 j x hx
          have HX := Lib.hid hx
          obtain ⟨D, hown, hmk2⟩ := HI.out.1
          have hkey : keyOf Tryd.prog 9 (.string x) = some (.string (dT x)) := Go.WideMaps.keyOf_string_mk Tryd.underlying9 (by have := HLZ.out x (List.mem_of_getElem? hx); simp only [maxLen]; omega)
          have HKEY := Lib.hid hkey
          have HOWN := Lib.hid hown
          have HMK := Lib.hid hmk2
          obtain ⟨y1, y2⟩ := HI.out.cell hjt
          have hws2 := HI.out.2.2.2
          clear hc3 hx hkey hown hmk2 hbm hb3
          cases hh : Maps.has D (.string (dT x)) with
          | true =>
            have HOLD := Lib.hid (HMK.out.old hh)
            have HHH := Lib.hid hh
            go_wp2_with (at_lookup; refine wpList_lookup_own_ok_int _ rfl _ _ 84 rfl 9 3 .i64 lawS Tryd.underlying84 Tryd.underlying3 (zeroI _) w.heap.size _ D rfl HOWN.out _ _ rfl HKEY.out ?_; intro c hat _; have HC : Hid (c = ((num (keys (ksL [] (ls.take k)) ((l.take j).map dT)) (dT x) : Nat) : Int)) := Lib.hid (lit_inj (hat.symm.trans (HOLD.out.2 _))); clear hat)
            go_roundw
            case rel => exact ⟨j + 1, by omega, by go_num, Lib.hid (by rw [HC.out]; exact HI.out.step HX.out (by omega) (by rw [HOLD.out.1]; exact ⟨D, HOWN.out.mono (by omega), HMK.out⟩) (World.grownBy.refl _ _))⟩
            case measure => simp [intOf]; omega
          | false =>
            have HNEW := Lib.hid (HMK.out.new hh)
            have HSZ := Lib.hid HMK.out.2.1
            have HWF : Hid ((Lit.int .i64 ((Maps.size D : Nat) : Int)).wf = true) := Lib.hid (WalkArith.wf_i64 (by have := HOWN.out.size_le; omega))
            have HML : Hid (k * 100000 + j < maxLen) := Lib.hid (by unfold maxLen; omega)
            go_wp2_with (first
              | (at_lookup; refine wpList_lookup_own_ok_int _ rfl _ _ 84 rfl 9 3 .i64 lawS Tryd.underlying84 Tryd.underlying3 (zeroI _) w.heap.size _ D rfl HOWN.out _ _ rfl HKEY.out ?_; intro c _ _)
              | (at_len; refine wpList_len_own _ rfl _ 84 rfl 9 3 Tryd.underlying84 _ w.heap.size _ D rfl HOWN.out ?_)
              | (at_mapUpdate; refine wpList_mapUpdate_own _ rfl _ _ _ 84 rfl 9 3 lawS Tryd.underlying84 _ w.heap.size _ D rfl HOWN.out HML.out _ _ _ rfl rfl HKEY.out _ [] (plainElem_int Tryd.underlying3 HWF.out) ?_; intro w1 hown1 hg1; have HO1 := Lib.hid hown1; have HG1 := Lib.hid hg1; have y3 : w1.cell? ⟨wo.heap.size, j, none⟩ = some (.int .i64 0) := (World.cell?_of_block (hg1.block wo.heap.size (by omega) (by intro e; have := Option.some.inj e; omega))).trans y1; have y4 : w1.frozen? ⟨wo.heap.size, j, none⟩ = false := (World.frozen?_of_block (hg1.block wo.heap.size (by omega) (by intro e; have := Option.some.inj e; omega))).trans y2; clear hown1 hg1))
            go_roundw
            case rel => exact ⟨j + 1, by omega, by go_num, Lib.hid (by rw [HSZ.out, ← HNEW.out.1]; exact HI.out.step HX.out (by omega) ⟨_, by have := HO1.out; rw [HSZ.out] at this; exact this, HNEW.out.2⟩ HG1.out)⟩
            case measure => simp [intOf]; omega
        · obtain rfl : j = l.length := by omega
          have hov := HI.out.2.1
          rw [List.take_length, Nat.sub_self] at hov
          have HOV : Hid (OV wr wo.heap.size 3 (.slice (some ⟨wo.heap.size, 0, none⟩) l.length l.length) ((nums (ksL [] (ls.take k)) (l.map dT)).map nV)) := Lib.hid (by unfold half at hov; simpa using hov)
          have HGB := Lib.hid HI.out.2.2.1
          have hws2 := HI.out.2.2.2
          have HOF : Hid (OF wr (w.heap.size + 1) 53 1 u4 ((nmL [] (ls.take k)).map nmF)) := Lib.hid (by
            obtain ⟨es, t, hes⟩ := HS.out.1.block
            exact HS.out.2.1.keptMap hes HGB.out)
          have HB : Hid (Below w.heap.size w wr) := Lib.hid (below_gb HS.out.2.2.1 HGB.out (by omega) (fun i hi => by cases hi; exact Nat.le_refl _))
          obtain ⟨s1, s2⟩ := nmL_snoc (ls.take k) [] l
          have HN1 : Hid ((nmL [] (ls.take (k + 1))).map nmF = (nmL [] (ls.take k)).map nmF ++ [nmF (nums (ksL [] (ls.take k)) (l.map dT))]) := Lib.hid (by rw [HT.out, s1, List.map_append]; rfl)
          have HM1 : Hid (NM wr w.heap.size ((k + 1) * 100000) (ksL [] (ls.take (k + 1)))) := Lib.hid (by
            obtain ⟨D, q1, q2⟩ := HI.out.1
            rw [List.take_length] at q2
            rw [HT.out, s2]
            exact ⟨D, q1.mono (by omega), q2⟩)
          have HTL : Hid (((nmL [] (ls.take k)).map nmF).length ≤ 100) := Lib.hid (by rw [List.length_map, nmL_len, List.length_take]; omega)
          have HNL : Hid (l.length = ((nums (ksL [] (ls.take k)) (l.map dT)).map nV).length) := Lib.hid (by rw [List.length_map, nums_len, List.length_map])
          have HOB : Hid (∀ i, u4.ownBlock = some i → w.heap.size + 1 ≤ i ∧ i < wo.heap.size) := Lib.hid HS.out.2.1.own
          clear s1 s2 hov HI HS
          generalize (nmL [] (ls.take k)).map nmF = fs at *
          generalize nums (ksL [] (ls.take k)) (l.map dT) = ns at *
          go_wp2_with (at_builtin; refine wpList_append_nums rfl _ _ rfl (w.heap.size + 1) _ fs (nmF ns) (.slice (some ⟨wo.heap.size, 0, none⟩) l.length l.length) wr.heap.size 1 rfl rfl (HOF.out.below (below_alloc _ _)) (cells_new _ [_] _ rfl 0 _ rfl) rfl (Rel2.cons ⟨_, _, by rw [← HNL.out], (HOV.out.below (below_alloc _ _)).rc, fun _ p hp e => by cases hp; have := (HOB.out _ e).2; exact Nat.lt_irrefl _ this⟩ Rel2.nil) (by have := HTL.out; omega) (by simp; omega) ?_; intro v1 w3 hown hg _; have HOW := Lib.hid hown; have HG := Lib.hid hg; clear hown hg)
          go_roundw
          case rel => exact ⟨k + 1, by omega, by go_num, Lib.hid ⟨(HM1.out.kept (gb_al (World.grownBy.refl wr none) _) (by simp)).kept HG.out (fun e => by have := (HOB.out _ e.symm).1; omega), by rw [HN1.out]; exact HOW.out, (HB.out.alloc (by omega) _).grown HG.out (by simp; omega) (fun i hi => by have := (HOB.out _ hi).1; omega), by have := HG.out.size; simp at this; omega⟩⟩
          case measure => simp [intOf]; omega
    · obtain rfl : k = ls.length := by omega
      obtain ⟨A', c', hv, hrf⟩ := HS.out.2.1.read
      rw [List.take_length, List.length_map] at hv
      rw [List.take_length] at hrf
      have HRF := Lib.hid hrf
      subst hv
      clear hrf
      have HB := Lib.hid HS.out.2.2.1
      clear HS
      generalize nmL [] ls = ns at *
      go_wp2_with fail
      go_ret
      exact ⟨A', c', rfl, HRF.out, HB.out⟩
end Go.Proofs.YtfhkmmicdbblnaaDoor

