/-
  The walks of the reference's Get, Gone and Live.
-/
import Derived.Test.YteagecjhpfijjaaDoorV3
namespace Go.Proofs.YteagecjhpfijjaaDoor
set_option linter.unusedSimpArgs false
set_option linter.unusedVariables false
open Go.RowKit

theorem find_at {α : Type} {p : α → Bool} {l : List α} {k : Nat} {v : α} (h : l[k]? = some v) (hn : ∀ x ∈ l.take k, p x = false) (hv : p v = true) : l.find? p = some v := by
  obtain ⟨hl, he⟩ := List.getElem?_eq_some_iff.1 h
  have e : l = l.take k ++ v :: l.drop (k + 1) := by
    conv => lhs; rw [← List.take_append_drop k l, List.drop_eq_getElem_cons hl, he]
  rw [e, List.find?_append, List.find?_eq_none.2 (fun x hx => by rw [hn x hx]; decide), List.find?_cons, hv]
  rfl
theorem none_step {α : Type} {p : α → Bool} {l : List α} {k : Nat} {v : α} (h : l[k]? = some v) (hn : ∀ x ∈ l.take k, p x = false) (hv : p v = false) : ∀ x ∈ l.take (k + 1), p x = false := by
  rw [List.take_add_one, h]
  intro x hx
  rcases List.mem_append.1 hx with hx | hx
  · exact hn x hx
  · have : x = v := by simpa using hx
    rw [this, hv]
set_option maxHeartbeats 2000000 in
set_option maxRecDepth 100000 in
theorem get_any (A B : Option Addr) (c m d : Nat) (rs : List Rv) (p : ByteArray) (n : Int) (w : World) (h : RV w A c rs) (hl : rs.length ≤ 100000) :
    Calls Tryd.prog 49 #[.agg #[.slice A rs.length c, .slice B m d], .string p, .int .i64 n] w (RetOR w (getR rs p n)) := by
  have HR := Lib.hid h
  have HLG := Lib.hid (fun W h => log_any A B c m d rs p W h hl)
  have HLE : Hid (getR rs p n = (logR rs p).find? (fun v => v.num == n)) := Lib.hid rfl
  have HLL : Hid ((logR rs p).length ≤ 100000) := Lib.hid (by
    have : (logR rs p).length ≤ rs.length := List.length_filter_le _ _
    omega)
  unfold RetV at HLG
  clear h hl
  generalize logR rs p = ls at *
  generalize getR rs p n = o at *
  go_enter Tryd.func49, Tryd.ntmps49
  have HBX := Lib.hid (BX.new (w.alloc (.cells #[.slice A rs.length c, .slice B m d] 28)) zeroV 40 (g := w.heap.size + 1) (by simp))
  go_wp2_with (go_at_call 45; refine (HLG.out _ (HR.out.below (below_two _ _ _))).mono ?_; rintro e w1 ⟨A1, c1, rfl, hrv, hb⟩; have HR1 := Lib.hid hrv; have HB1 := Lib.hid (go3 (below_two _ _ _) hb); have HX1 := Lib.hid (HBX.out.below hb); have q1 := hrv.1; rw [List.length_map] at q1; have q2 := hrv.2.1; clear hrv hb)
  clear HBX HLG
  go_loopw [14] (fun i wr => ∃ k : Nat, k ≤ ls.length ∧ i = .int .i64 k ∧ Hid (∀ x ∈ ls.take k, (x.num == n) = false) ∧ Hid (Below w1.heap.size w1 wr)) (fun i _ => ls.length - (intOf i).toNat)
  case atStart => exact ⟨0, Nat.zero_le _, rfl, Lib.hid (fun x hx => by simp at hx), Lib.hid (Below.refl _ _)⟩
  case round =>
    obtain ⟨k, hk, rfl, HN, HB⟩ := hrel
    have HBW := Lib.hid (go3 HB1.out HB.out)
    by_cases hlt : k < ls.length
    · obtain ⟨v, hv⟩ : ∃ v, ls[k]? = some v := ⟨_, List.getElem?_eq_getElem hlt⟩
      obtain ⟨b, o', rfl, hb1, x0, x1, x2, x3, x4, x5, x6, x7, x8, x9, x10, x11⟩ := (HR1.out.below HB.out).at_ hv
      cases e : (v.num == n) with
      | true =>
        have HO : Hid (o = some v) := Lib.hid (HLE.out.trans (find_at hv HN.out e))
        have HX2 := Lib.hid (HX1.out.below HB.out)
        obtain ⟨v0, v1, v2, v3, v4, v5, v6, v7, v8, v9, v10, v11⟩ := (show At12 _ (w.heap.size + 1) 0 rv0 from HX2.out.rev)
        have vf := HX2.out.2.1
        have hlt2 : w.heap.size + 1 < wr.heap.size := by have := (HX1.out.below HB.out).2.2; exact this
        have ne1 : ¬ w.heap.size + 1 = wr.heap.size := by omega
        have ne2 : ¬ wr.heap.size = w.heap.size + 1 := by omega
        clear hv
        go_wp2_with fail
        refine bodyPost_ret (v := .tuple #[aggR v, .bool true]) (by simp [results, Tryd.results49, go_sem, v0, v1, v2, v3, v4, v5, v6, v7, v8, v9, v10, v11, ne1, ne2, hlt2]; rfl) rfl ?_
        exact ⟨by rw [HO.out]; rfl, below_al (below12 HBW.out (by omega) _ _ _ _ _ _ _ _ _ _ _ _) _⟩
      | false =>
        have HN2 := Lib.hid (none_step (p := fun v => v.num == n) hv HN.out e)
        clear hv
        go_wp2_with fail
        go_roundw
        case rel => exact ⟨k + 1, by omega, by go_num, HN2, Lib.hid (HB.out.alloc HB.out.size _)⟩
        case measure => simp [intOf]; omega
    · obtain rfl : k = ls.length := by omega
      have HO : Hid (o = none) := Lib.hid (by
        rw [HLE.out, List.find?_eq_none]
        intro x hx
        have := HN.out x (by rw [List.take_length]; exact hx)
        simp [this])
      have HX2 := Lib.hid (HX1.out.below HB.out)
      obtain ⟨v0, v1, v2, v3, v4, v5, v6, v7, v8, v9, v10, v11⟩ := (show At12 _ (w.heap.size + 1) 0 rv0 from HX2.out.rev)
      have vf := HX2.out.2.1
      go_wp2_with fail
      refine bodyPost_ret (v := .tuple #[aggR rv0, .bool false]) (by simp [results, Tryd.results49, go_sem, v0, v1, v2, v3, v4, v5, v6, v7, v8, v9, v10, v11]; rfl) rfl ?_
      exact ⟨by rw [HO.out]; rfl, below12 HBW.out (by omega) _ _ _ _ _ _ _ _ _ _ _ _⟩
end Go.Proofs.YteagecjhpfijjaaDoor

