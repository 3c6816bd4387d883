/-
  Files in memory; the walks of the two Lines.
-/
import Derived.Test.YteagecjhpfijjaaDoorV24
import Derived.Test.YteagecjhpfijjaaDoorW3
namespace Go.Proofs.YteagecjhpfijjaaDoor
set_option linter.unusedSimpArgs false
set_option linter.unusedVariables false
open Go.RowKit Go.WideShapes

def fileV (f : ByteArray × Int) : List Value := [.string f.1, .int .i64 f.2]
def FV (w : World) (A : Option Addr) (c : Nat) (fs : List (ByteArray × Int)) : Prop := RR w A c 2 (fs.map fileV)
theorem FV.below {w w' : World} {A : Option Addr} {c : Nat} {fs : List (ByteArray × Int)} (h : FV w A c fs) (hb : Below w.heap.size w w') : FV w' A c fs := RR.below h hb
theorem FV.at_ {w : World} {A : Option Addr} {c : Nat} {fs : List (ByteArray × Int)} (h : FV w A c fs) {j : Nat} {f : ByteArray × Int} (hj : fs[j]? = some f) : ∃ b o, A = some ⟨b, o, none⟩ ∧ b < w.heap.size ∧ w.cell? ⟨b, o + j * 2, none⟩ = some (.string f.1) ∧ w.cell? ⟨b, o + j * 2 + 1, none⟩ = some (.int .i64 f.2) := by
  obtain ⟨b, o, e, hb, hc⟩ := h.2.2 (by rw [List.length_map]; have := (List.getElem?_eq_some_iff.1 hj).1; omega)
  have hm : (fs.map fileV)[j]? = some (fileV f) := by rw [List.getElem?_map, hj]; rfl
  exact ⟨b, o, e, hb, hc j _ hm 0 _ rfl, hc j _ hm 1 _ rfl⟩
theorem fileInfo : (Tryd.prog.info? 31).map (fun i => (i.zero, i.size, i.bytes)) = some (some (.agg #[.string ByteArray.empty, .int .i64 0]), 2, 24) := by kernel_rfl
def RetFs (w : World) (fs : List (ByteArray × Int)) (e : Ending) (w' : World) : Prop := ∃ A c, e = .returned (.slice A fs.length c) ∧ FV w' A c fs ∧ Below w.heap.size w w'
theorem wpList_append_file {w : World} {ops : Array Oper} {rest : List Oper} {o : Oper} {a : Act} {Q : Exit → Act → World → Prop} (hgd : o.guard = none) (s x : Operand)
    (ho : o.op = .call { callee := .builtin .append, args := #[s, x], argTypes := #[47, 47] })
    (base : Nat) (u : Value) (fs : List (ByteArray × Int)) (f : ByteArray × Int) (b c : Nat) (hs' : a.eval s = u) (hx : a.eval x = .slice (some ⟨b, 0, none⟩) 1 c) (hown : OR w base 31 2 u (fs.map fileV))
    (hcells : ∀ (k : Nat) (u : Value), (fileV f)[k]? = some u → w.cell? ⟨b, k, none⟩ = some u) (hlen : fs.length + 1 ≤ 1000000) (hbase : base ≤ w.heap.size)
    (h : ∀ u' w', OR w' base 31 2 u' ((fs ++ [f]).map fileV) → w.grownBy w' u.ownBlock → (u'.ownBlock = u.ownBlock ∨ u'.ownBlock = some w.heap.size) → wpList Tryd.prog ops Q rest (a.put o.dst u') w') : wpList Tryd.prog ops Q (o :: rest) a w := by
  obtain ⟨i, hi, hz0, hz1, hz2⟩ := info_parts fileInfo
  refine wpList_append_row Tryd.underlying47 hi hz0 hz1 hz2 rfl (by decide) (by decide) hgd s x ho base u (fs.map fileV) (fileV f) b c hs' hx hown rfl hcells ?_ (by rw [List.length_map]; exact hlen) hbase ?_
  · intro u hu
    unfold fileV at hu
    simp only [List.mem_cons, List.not_mem_nil, or_false] at hu
    rcases hu with rfl | rfl <;> rfl
  · intro v' w' h1 h2 h3
    exact h v' w' (by rw [List.map_append]; exact h1) h2 h3
set_option maxHeartbeats 1000000 in
theorem name_any (v : Rv) (w : World) : Calls Tryd.prog 34 #[aggR v] w fun e w' => e = .returned (.agg #[.string v.path, .int .i64 v.num]) ∧ Below w.heap.size w w' := by
  unfold aggR
  go_enter Tryd.func34, Tryd.ntmps34
  go_wp2_with fail
  refine bodyPost_ret (v := .agg #[.string v.path, .int .i64 v.num]) (by simp [results, Tryd.results34, go_sem]) rfl ⟨rfl, ?_⟩
  exact below_two _ _ _
set_option maxHeartbeats 4000000 in
set_option maxRecDepth 100000 in
theorem rlines_any (A B : Option Addr) (c m d : Nat) (rs : List Rv) (w : World) (h : RV w A c rs) (hl : rs.length ≤ 100000) :
    Calls Tryd.prog 22 #[.agg #[.slice A rs.length c, .slice B m d]] w (RetFs w (linesR rs)) := by
  have h1 := h.1
  have h2 := h.2.1
  rw [List.length_map] at h1
  have HR := Lib.hid h
  have HNM := Lib.hid name_any
  unfold aggR at HNM
  clear h
  go_enter Tryd.func22, Tryd.ntmps22
  go_wp2_with fail
  go_loopw [3, 9] (fun o i wr => ∃ k : Nat, k ≤ rs.length ∧ i = .int .i64 k ∧ Hid (OR wr (w.heap.size + 1) 31 2 o ((linesR (rs.take k)).map fileV)) ∧ Hid (Below w.heap.size w wr) ∧ w.heap.size + 1 ≤ wr.heap.size) (fun _ i _ => rs.length - (intOf i).toNat)
  case atStart => exact ⟨0, Nat.zero_le _, rfl, Lib.hid (OR.nil _ _ _ _), Lib.hid (below_al (Below.refl _ _) _), by simp⟩
  case round =>
    obtain ⟨k, hk, rfl, HO, HB, hsz⟩ := hrel
    by_cases hlt : k < rs.length
    · obtain ⟨v, hv⟩ : ∃ v, rs[k]? = some v := ⟨_, List.getElem?_eq_getElem hlt⟩
      obtain ⟨b, o', rfl, hb1, x0, x1, x2, x3, x4, x5, x6, x7, x8, x9, x10, x11⟩ := (HR.out.below HB.out).at_ hv
      have HLS : Hid (linesR (rs.take (k + 1)) = linesR (rs.take k) ++ (if (v.act == 1) = true then [(v.path, v.num)] else [])) := Lib.hid (by
        unfold linesR
        rw [filter_snoc _ hv, List.map_append]
        split <;> rfl)
      have HLL : Hid ((linesR (rs.take k)).length ≤ 100000) := Lib.hid (by
        unfold linesR
        rw [List.length_map]
        have : ((rs.take k).filter (fun v => v.act == 1)).length ≤ (rs.take k).length := List.length_filter_le _ _
        rw [List.length_take] at this
        omega)
      clear hv hb1
      generalize linesR (rs.take k) = ls at *
      cases e : (v.act == 1) with
      | true =>
        have HN : Hid (linesR (rs.take (k + 1)) = ls ++ [(v.path, v.num)]) := Lib.hid (by rw [HLS.out, e, if_pos rfl])
        clear HLS
        go_wp2_with (first
          | (go_at_call 34; refine (HNM.out v _).mono ?_; rintro e' wn ⟨rfl, hbn⟩; have HB' := Lib.hid (go3 (go3 HB.out (by repeat (first | exact Below.refl _ _ | apply Below.drew | apply below_drewN | apply below_al))) hbn); have HO' := Lib.hid ((HO.out.below (w' := _) (by repeat (first | exact Below.refl _ _ | apply Below.drew | apply below_drewN | apply below_al))).below hbn); have hns := hbn.size; simp at hns; clear hbn)
          | (at_builtin; refine wpList_append_file rfl _ _ rfl (w.heap.size + 1) _ ls (v.path, v.num) _ 1 rfl rfl (HO.out.below (by repeat (first | exact Below.refl _ _ | apply Below.drew | apply below_drewN | apply below_al))) (cells_new _ [_, _] _ (by simp)) (by have := HLL.out; omega) (by simp; omega) ?_; intro v1 w1 hown hg _; have HB1 := Lib.hid ((go3 HB.out (by repeat (first | exact Below.refl _ _ | apply Below.drew | apply below_drewN | apply below_al))).grown hg (by simp; omega) (fun k hk => by have := (HO.out.own k hk).1; omega)); have HOW := Lib.hid hown; have hs1 : w.heap.size + 1 ≤ w1.heap.size := (by have := hg.size; simp at this; omega); clear hown hg))
        go_roundw
        case rel => exact ⟨k + 1, by omega, by go_num, Lib.hid (by rw [HN.out]; exact HOW.out), HB1, hs1⟩
        case measure => simp [intOf]; omega
      | false =>
        have HN : Hid (linesR (rs.take (k + 1)) = ls) := Lib.hid (by rw [HLS.out, e, if_neg (by decide), List.append_nil])
        clear HLS
        go_wp2_with fail
        go_roundw
        case rel => exact ⟨k + 1, by omega, by go_num, Lib.hid (by rw [HN.out]; exact HO.out.below (below_alloc _ _)), Lib.hid (HB.out.alloc HB.out.size _), by simp; omega⟩
        case measure => simp [intOf]; omega
    · obtain rfl : k = rs.length := by omega
      have hO := HO.out
      rw [List.take_length] at hO
      obtain ⟨A', c', hv, hrr⟩ := hO.read
      subst hv
      have HRR := Lib.hid hrr
      clear hO hrr HO
      simp only [List.length_map]
      go_wp2_with fail
      go_ret
      exact ⟨A', c', rfl, HRR.out, HB.out⟩
set_option maxHeartbeats 4000000 in
set_option maxRecDepth 100000 in
theorem lines_any (A B : Option Addr) (c m d : Nat) (rs : List Rv) (w : World) (h : RV w A c rs) (hl : rs.length ≤ 100000) :
    Calls Tryd.prog 21 #[.agg #[.slice A rs.length c, .slice B m d]] w (RetFs w (linesR rs)) := by
  have h1 := h.1
  have h2 := h.2.1
  rw [List.length_map] at h1
  have HR := Lib.hid h
  have HNM := Lib.hid name_any
  unfold aggR at HNM
  clear h
  go_enter Tryd.func21, Tryd.ntmps21
  go_wp2_with fail
  go_loopw [3, 9] (fun o i wr => ∃ k : Nat, k ≤ rs.length ∧ i = .int .i64 k ∧ Hid (OR wr (w.heap.size + 1) 31 2 o ((linesR (rs.take k)).map fileV)) ∧ Hid (Below w.heap.size w wr) ∧ w.heap.size + 1 ≤ wr.heap.size) (fun _ i _ => rs.length - (intOf i).toNat)
  case atStart => exact ⟨0, Nat.zero_le _, rfl, Lib.hid (OR.nil _ _ _ _), Lib.hid (below_al (Below.refl _ _) _), by simp⟩
  case round =>
    obtain ⟨k, hk, rfl, HO, HB, hsz⟩ := hrel
    by_cases hlt : k < rs.length
    · obtain ⟨v, hv⟩ : ∃ v, rs[k]? = some v := ⟨_, List.getElem?_eq_getElem hlt⟩
      obtain ⟨b, o', rfl, hb1, x0, x1, x2, x3, x4, x5, x6, x7, x8, x9, x10, x11⟩ := (HR.out.below HB.out).at_ hv
      have HLS : Hid (linesR (rs.take (k + 1)) = linesR (rs.take k) ++ (if (v.act == 1) = true then [(v.path, v.num)] else [])) := Lib.hid (by
        unfold linesR
        rw [filter_snoc _ hv, List.map_append]
        split <;> rfl)
      have HLL : Hid ((linesR (rs.take k)).length ≤ 100000) := Lib.hid (by
        unfold linesR
        rw [List.length_map]
        have : ((rs.take k).filter (fun v => v.act == 1)).length ≤ (rs.take k).length := List.length_filter_le _ _
        rw [List.length_take] at this
        omega)
      clear hv hb1
      generalize linesR (rs.take k) = ls at *
      cases e : (v.act == 1) with
      | true =>
        have HN : Hid (linesR (rs.take (k + 1)) = ls ++ [(v.path, v.num)]) := Lib.hid (by rw [HLS.out, e, if_pos rfl])
        clear HLS
        go_wp2_with (first
          | (go_at_call 34; refine (HNM.out v _).mono ?_; rintro e' wn ⟨rfl, hbn⟩; have HB' := Lib.hid (go3 (go3 HB.out (by repeat (first | exact Below.refl _ _ | apply Below.drew | apply below_drewN | apply below_al))) hbn); have HO' := Lib.hid ((HO.out.below (w' := _) (by repeat (first | exact Below.refl _ _ | apply Below.drew | apply below_drewN | apply below_al))).below hbn); have hns := hbn.size; simp at hns; clear hbn)
          | (at_builtin; refine wpList_append_file rfl _ _ rfl (w.heap.size + 1) _ ls (v.path, v.num) _ 1 rfl rfl (HO'.out.below (by repeat (first | exact Below.refl _ _ | apply Below.drew | apply below_drewN | apply below_al))) (cells_new _ [_, _] _ (by simp)) (by have := HLL.out; omega) (by simp; omega) ?_; intro v1 w1 hown hg _; have HB1 := Lib.hid ((go3 HB'.out (by repeat (first | exact Below.refl _ _ | apply Below.drew | apply below_drewN | apply below_al))).grown hg (by simp; omega) (fun k hk => by have := (HO.out.own k hk).1; omega)); have HOW := Lib.hid hown; have hs1 : w.heap.size + 1 ≤ w1.heap.size := (by have := hg.size; simp at this; omega); clear hown hg))
        go_roundw
        case rel => exact ⟨k + 1, by omega, by go_num, Lib.hid (by rw [HN.out]; exact HOW.out), HB1, hs1⟩
        case measure => simp [intOf]; omega
      | false =>
        have HN : Hid (linesR (rs.take (k + 1)) = ls) := Lib.hid (by rw [HLS.out, e, if_neg (by decide), List.append_nil])
        clear HLS
        go_wp2_with fail
        go_roundw
        case rel => exact ⟨k + 1, by omega, by go_num, Lib.hid (by rw [HN.out]; exact HO.out.below (below_alloc _ _)), Lib.hid (HB.out.alloc HB.out.size _), by simp; omega⟩
        case measure => simp [intOf]; omega
    · obtain rfl : k = rs.length := by omega
      have hO := HO.out
      rw [List.take_length] at hO
      obtain ⟨A', c', hv, hrr⟩ := hO.read
      subst hv
      have HRR := Lib.hid hrr
      clear hO hrr HO
      simp only [List.length_map]
      go_wp2_with fail
      go_ret
      exact ⟨A', c', rfl, HRR.out, HB.out⟩
end Go.Proofs.YteagecjhpfijjaaDoor

