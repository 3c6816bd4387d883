/-
  Pieces in memory, as fields; a builder that holds bytes; the walk of the program's Text.
-/
import Derived.Test.YtfhkmmicdbblnaaDoorE1j
import Derived.Test.YtfhkmmicdbblnaaDoorME
import Derived.Shelf.Strings.OnBuilder
namespace Go.Proofs.YtfhkmmicdbblnaaDoor
set_option linter.unusedSimpArgs false
set_option linter.unusedVariables false
open Go.RowKit

/-- a piece as fields -/
def pcF (p : Pc ByteArray) : List Fld := [.val (.int .i64 p.kind), .row (p.o.map Value.string), .row (p.a.map Value.string), .row (p.b.map Value.string)]
theorem RF.piece {w : World} {A : Option Addr} {c : Nat} {ps : List (Pc ByteArray)} (h : RF w A c 4 (ps.map pcF)) {j : Nat} {p : Pc ByteArray} (hx : ps[j]? = some p) :
    ∃ b o C1 n1 C2 n2 C3 n3, A = some ⟨b, o, none⟩ ∧ b < w.heap.size ∧ w.cell? ⟨b, o + j * 4, none⟩ = some (.int .i64 p.kind) ∧ w.cell? ⟨b, o + j * 4 + 1, none⟩ = some (.slice C1 p.o.length n1) ∧ w.cell? ⟨b, o + j * 4 + 2, none⟩ = some (.slice C2 p.a.length n2) ∧ w.cell? ⟨b, o + j * 4 + 3, none⟩ = some (.slice C3 p.b.length n3) ∧ RT w C1 n1 p.o ∧ RT w C2 n2 p.a ∧ RT w C3 n3 p.b := by
  obtain ⟨b, o, e, hb, hc⟩ := h.2.2 (by rw [List.length_map]; have := (List.getElem?_eq_some_iff.1 hx).1; omega)
  have hj : (ps.map pcF)[j]? = some (pcF p) := by rw [List.getElem?_map, hx]; rfl
  obtain ⟨u0, h0, e0⟩ := hc j _ hj 0 _ rfl
  obtain ⟨u1, h1, C1, n1, e1, r1, _⟩ := hc j _ hj 1 _ rfl
  obtain ⟨u2, h2, C2, n2, e2, r2, _⟩ := hc j _ hj 2 _ rfl
  obtain ⟨u3, h3, C3, n3, e3, r3, _⟩ := hc j _ hj 3 _ rfl
  refine ⟨b, o, C1, n1, C2, n2, C3, n3, e, hb, ?_, ?_, ?_, ?_, r1.rt, r2.rt, r3.rt⟩
  · rw [Nat.add_zero] at h0; rw [h0, e0]
  · rw [h1, e1, List.length_map]
  · rw [h2, e2, List.length_map]
  · rw [h3, e3, List.length_map]

/-- a builder in block b holds bytes -/
def BH (w : World) (B b : Nat) (l : List UInt8) : Prop := Lib.IsBuilder 64 5 B b (Lib.byteCells l) w
theorem BH.fresh (w : World) {g : Nat} (hg : g = w.heap.size) : BH (w.alloc (.cells #[.pointer none, .slice none 0 0] 64)) g g [] := by
  subst hg
  exact Lib.fresh_isBuilder _ _ w
theorem owns_below {w w' : World} {B : Nat} {E : TypeId} {v : Value} {n : Nat} {xs : List Value} (h : w.ownsRow B E 1 v n xs) (hb : Below w.heap.size w w') : w'.ownsRow B E 1 v n xs := by
  refine ⟨h.1, ?_⟩
  rcases h.2 with ⟨rfl, hn⟩ | ⟨g, cap, cur, rfl, hbg, hh, hrest⟩
  · exact .inl ⟨rfl, hn⟩
  · refine .inr ⟨g, cap, cur, rfl, hbg, ?_, hrest⟩
    rw [hb.block g (Array.getElem?_eq_some_iff.1 hh).1]
    exact hh
theorem BH.below {w w' : World} {B b : Nat} {l : List UInt8} (h : BH w B b l) (hb : Below w.heap.size w w') : BH w' B b l := by
  have one : ∀ p, Lib.BuilderAt 64 5 B b p (Lib.byteCells l) w → Lib.BuilderAt 64 5 B b p (Lib.byteCells l) w' := by
    rintro p ⟨h1, v, h2, h3, h4⟩
    exact ⟨h1, v, (hb.block b (Array.getElem?_eq_some_iff.1 h2).1).trans h2, owns_below h3 hb, h4⟩
  rcases h with h | h
  · exact .inl (one _ h)
  · exact .inr (one _ h)
theorem byteCells_len (l : List UInt8) : (Lib.byteCells l).length = l.length := by simp [Lib.byteCells]
theorem bws_any (B b : Nat) (l : List UInt8) (s : ByteArray) (w : World) (h : BH w B b l) (hl : l.length + s.size ≤ 1000000000) (hB : B ≤ w.heap.size) :
    Calls Tryd.prog 33 #[.pointer (some ⟨b, 0, none⟩), .string s] w fun e w' => e = .returned (.tuple #[.int .i64 s.size, .nilIface]) ∧ BH w' B b (l ++ dT s) ∧ Below B w w' := by
  refine (Any.Builder_WriteString { Tryd.lays156 with } Tryd.Builder_Extra_156 B b (Lib.byteCells l) s w h (by rw [byteCells_len]; omega) hB).mono fun e w' ⟨he, h1, h2⟩ => ⟨he, .inr ?_, h2⟩
  have : Lib.byteCells (l ++ dT s) = Lib.byteCells l ++ Lib.strCells s := by
    unfold Lib.byteCells Lib.strCells dT
    rw [List.map_append]
  rw [this]
  exact h1
theorem bstr_any (B b : Nat) (l : List UInt8) (w : World) (h : BH w B b l) (hB : B ≤ w.heap.size) :
    Calls Tryd.prog 34 #[.pointer (some ⟨b, 0, none⟩)] w fun e w' => e = .returned (.string (mkB l)) ∧ Below B w w' := Any.Builder_String_any { Tryd.lays156 with } Tryd.Builder_Extra_156 B b l w h hB

/-- the lines of pieces, and their text -/
def txL (ps : List (Pc ByteArray)) : List ByteArray := ps.flatMap lineP
def txS (ps : List (Pc ByteArray)) : ByteArray := if freeP ps = true then catB (txL ps) else ⟨#[]⟩
theorem tx_good {ps : List (Pc ByteArray)} (h : freeP ps = true) : txS ps = catB (txL ps) := by
  unfold txS
  rw [if_pos h]
theorem tx_bad {ps : List (Pc ByteArray)} (h : freeP ps = false) : txS ps = ⟨#[]⟩ := by
  unfold txS
  rw [h]
  rfl
/-- a text and a bool come back -/
def RetTB' (w : World) (s : ByteArray) (q : Bool) (e : Ending) (w' : World) : Prop := e = .returned (.tuple #[.string s, .bool q]) ∧ Below w.heap.size w w'
theorem RetTB'.of {w : World} {s s' : ByteArray} {q q' : Bool} {e : Ending} {w' : World} (h : RetTB' w s q e w') (h1 : s' = s) (h2 : q' = q) : RetTB' w s' q' e w' := by
  subst h1 h2
  exact h
theorem catB_len {xs : List ByteArray} : (dT (catB xs)).length = (catB xs).size := (Lib.size_eq _).symm
theorem free_step {ps : List (Pc ByteArray)} {k : Nat} {p : Pc ByteArray} (hx : ps[k]? = some p) : freeP (ps.take (k + 1)) = (freeP (ps.take k) && decide (p.kind = 1 ∨ p.kind = 2 ∨ p.kind = 3 ∨ p.kind = 4)) := by
  unfold freeP
  rw [List.take_add_one, hx, List.all_append]
  simp
theorem free_miss {ps : List (Pc ByteArray)} {k : Nat} {p : Pc ByteArray} (hx : ps[k]? = some p) (h : ¬ (p.kind = 1 ∨ p.kind = 2 ∨ p.kind = 3 ∨ p.kind = 4)) : freeP ps = false := by
  rw [Bool.eq_false_iff]
  intro hh
  unfold freeP at hh
  exact h (of_decide_eq_true (List.all_eq_true.1 hh p (List.mem_of_getElem? hx)))
theorem txL_step {ps : List (Pc ByteArray)} {k : Nat} {p : Pc ByteArray} (hx : ps[k]? = some p) : txL (ps.take (k + 1)) = txL (ps.take k) ++ lineP p := by
  unfold txL
  rw [List.take_add_one, hx, List.flatMap_append]
  simp
theorem take_snocB {xs : List ByteArray} {i : Nat} {x : ByteArray} (hx : xs[i]? = some x) : xs.take (i + 1) = xs.take i ++ [x] := by
  rw [List.take_add_one, hx]; rfl
theorem cat_snoc (ys : List ByteArray) {xs : List ByteArray} {i : Nat} {x : ByteArray} (hx : xs[i]? = some x) : dT (catB (ys ++ xs.take (i + 1))) = dT (catB (ys ++ xs.take i)) ++ dT x := by
  rw [take_snocB hx, ← List.append_assoc, catB_app, catB_data [x]]
  simp
/-- a part is no longer than the whole -/
theorem cat_part {ys zs xs ws : List ByteArray} (h : ws = ys ++ xs ++ zs) {i : Nat} {x : ByteArray} (hx : xs[i]? = some x) : (dT (catB (ys ++ xs.take i))).length + x.size ≤ (catB ws).size := by
  have e : xs = xs.take i ++ x :: xs.drop (i + 1) := by
    obtain ⟨h1, h2⟩ := List.getElem?_eq_some_iff.1 hx
    conv => lhs; rw [← List.take_append_drop i xs, List.drop_eq_getElem_cons h1, h2]
  have e2 : ws = (ys ++ xs.take i) ++ ([x] ++ (xs.drop (i + 1) ++ zs)) := by
    rw [h]
    conv => lhs; rw [e]
    simp
  rw [← catB_len, e2, catB_app (ys ++ xs.take i), catB_app [x], catB_data [x], List.length_append, List.length_append, Lib.size_eq]
  simp [dT]

set_option maxHeartbeats 4000000 in
set_option maxRecDepth 100000 in
theorem text_any (A : Option Addr) (c : Nat) (ps : List (Pc ByteArray)) (w : World) (h : RF w A c 4 (ps.map pcF)) (hsz : (catB (txL ps)).size ≤ 100000000) :
    Calls Tryd.prog 21 #[.slice A ps.length c] w (RetTB' w (txS ps) (freeP ps)) := by
  have h1 := h.1
  have h2 := h.2.1
  rw [List.length_map] at h1
  have HR := Lib.hid h
  have HSZ := Lib.hid hsz
  clear h hsz
  go_enter Tryd.func21, Tryd.ntmps21
  go_wp2_with fail
  go_loopw [12] (fun i wr => ∃ k : Nat, k ≤ ps.length ∧ i = .int .i64 k ∧ Hid (freeP (ps.take k) = true) ∧ Hid (BH wr w.heap.size w.heap.size (dT (catB (txL (ps.take k))))) ∧ Hid (Below w.heap.size w wr)) (fun i _ => ps.length - (intOf i).toNat)
  case atStart => exact ⟨0, Nat.zero_le _, rfl, Lib.hid rfl, Lib.hid (BH.fresh w rfl), Lib.hid (below_alloc _ _)⟩
  case round =>
    obtain ⟨k, hk, rfl, HF, HBH, HB⟩ := hrel
    have hbs := HB.out.size
    by_cases hlt : k < ps.length
    · obtain ⟨⟨kd, O, P, Q⟩, hx⟩ : ∃ x, ps[k]? = some x := ⟨_, List.getElem?_eq_getElem hlt⟩
      have hps := hx
      obtain ⟨b, o, C1, n1, C2, n2, C3, n3, rfl, hb1, x0, x1, x2, x3, r1, r2, r3⟩ := HR.out.piece hx
      simp only at x0 x1 x2 x3 r1 r2 r3
      have hbw := HB.out
      replace x0 := (hbw.cell (p := ⟨b, o + k * 4, none⟩) hb1).trans x0
      replace x1 := (hbw.cell (p := ⟨b, o + k * 4 + 1, none⟩) hb1).trans x1
      replace x2 := (hbw.cell (p := ⟨b, o + k * 4 + 2, none⟩) hb1).trans x2
      replace x3 := (hbw.cell (p := ⟨b, o + k * 4 + 3, none⟩) hb1).trans x3
      have HT := Lib.hid (txL_step hx)
      have s1 := r1.1
      have s2 := r1.2.1
      have s3 := r2.1
      have s4 := r2.2.1
      have s5 := r3.1
      have s6 := r3.2.1
      have HFS := Lib.hid (free_step hx)
      have HPX := Lib.hid hx
      rw [HF.out] at HFS
      clear hx hps hb1 hbw
      by_cases k1 : kd = 1
      · subst k1
        have HFR : Hid (Hid (freeP (ps.take (k + 1)) = true)) := Lib.hid (Lib.hid (by rw [HFS.out]; rfl))
        have HRL := Lib.hid r2
        have HTX : Hid (txL (ps.take (k + 1)) = txL (ps.take k) ++ P) := Lib.hid (by rw [HT.out]; unfold lineP; simp only [if_neg (show ¬ (1 : Int) = 3 by decide)])
        have HWS : Hid (txL ps = txL (ps.take k) ++ P ++ txL (ps.drop (k + 1))) := Lib.hid (by rw [← HTX.out]; conv => { lhs; rw [← List.take_append_drop (k + 1) ps] }; unfold txL; rw [List.flatMap_append])
        clear r1 r2 r3
        generalize txL (ps.take k) = D at *
        generalize P = L at *
        go_wp2_with fail
        go_loopw [30] (fun j w2 => ∃ i : Nat, i ≤ L.length ∧ j = .int .i64 i ∧ Hid (BH w2 w.heap.size w.heap.size (dT (catB (D ++ L.take i)))) ∧ Hid (Below w.heap.size w w2)) (fun j _ => L.length - (intOf j).toNat)
        case atStart => exact ⟨0, Nat.zero_le _, rfl, Lib.hid (by rw [List.take_zero, List.append_nil]; exact HBH.out.below (below_alloc _ _)), Lib.hid (HB.out.alloc hbs _)⟩
        case round =>
          clear HBH HB hbs
          obtain ⟨i, hi, rfl, HBH, HB⟩ := hrel
          have hbs := HB.out.size
          by_cases hit : i < L.length
          · obtain ⟨x, hx⟩ : ∃ x, L[i]? = some x := ⟨_, List.getElem?_eq_getElem hit⟩
            obtain ⟨b3, o3, rfl, hb3, hc3⟩ := (HRL.out.below HB.out).2.2 (by omega)
            have hcx := hc3 i x hx
            have HW := Lib.hid (fun W h => bws_any w.heap.size w.heap.size (dT (catB (D ++ L.take i))) x W h (by have := cat_part HWS.out hx; have := HSZ.out; omega))
            rw [← cat_snoc D hx] at HW
            clear hc3 hx hb3
            go_wp2_with (go_at_call 33; refine (HW.out _ HBH.out hbs).mono ?_; rintro e w3 ⟨rfl, hbh, hb⟩; have HBH2 := Lib.hid hbh; have HB2 := Lib.hid (HB.out.trans hb); clear hbh hb)
            go_roundw
            case rel => exact ⟨i + 1, by omega, by go_num, HBH2, HB2⟩
            case measure => simp [intOf]; omega
          · obtain rfl : i = L.length := by omega
            have HBH2 : Hid (BH wr w.heap.size w.heap.size (dT (catB (txL (ps.take (k + 1)))))) := Lib.hid (by rw [HTX.out]; have := HBH.out; rw [List.take_length] at this; exact this)
            go_wp2_with fail
            go_roundw
            case rel => exact ⟨k + 1, by omega, by go_num, HFR.out, HBH2, HB⟩
            case measure => simp [intOf]; omega
      · by_cases k2 : kd = 2
        · subst k2
          have HFR : Hid (Hid (freeP (ps.take (k + 1)) = true)) := Lib.hid (Lib.hid (by rw [HFS.out]; rfl))
          have HRL := Lib.hid r2
          have HTX : Hid (txL (ps.take (k + 1)) = txL (ps.take k) ++ P) := Lib.hid (by rw [HT.out]; unfold lineP; simp only [if_neg (show ¬ (2 : Int) = 3 by decide)])
          have HWS : Hid (txL ps = txL (ps.take k) ++ P ++ txL (ps.drop (k + 1))) := Lib.hid (by rw [← HTX.out]; conv => { lhs; rw [← List.take_append_drop (k + 1) ps] }; unfold txL; rw [List.flatMap_append])
          clear r1 r2 r3
          generalize txL (ps.take k) = D at *
          generalize P = L at *
          go_wp2_with fail
          go_loopw [30] (fun j w2 => ∃ i : Nat, i ≤ L.length ∧ j = .int .i64 i ∧ Hid (BH w2 w.heap.size w.heap.size (dT (catB (D ++ L.take i)))) ∧ Hid (Below w.heap.size w w2)) (fun j _ => L.length - (intOf j).toNat)
          case atStart => exact ⟨0, Nat.zero_le _, rfl, Lib.hid (by rw [List.take_zero, List.append_nil]; exact HBH.out.below (below_alloc _ _)), Lib.hid (HB.out.alloc hbs _)⟩
          case round =>
            clear HBH HB hbs
            obtain ⟨i, hi, rfl, HBH, HB⟩ := hrel
            have hbs := HB.out.size
            by_cases hit : i < L.length
            · obtain ⟨x, hx⟩ : ∃ x, L[i]? = some x := ⟨_, List.getElem?_eq_getElem hit⟩
              obtain ⟨b3, o3, rfl, hb3, hc3⟩ := (HRL.out.below HB.out).2.2 (by omega)
              have hcx := hc3 i x hx
              have HW := Lib.hid (fun W h => bws_any w.heap.size w.heap.size (dT (catB (D ++ L.take i))) x W h (by have := cat_part HWS.out hx; have := HSZ.out; omega))
              rw [← cat_snoc D hx] at HW
              clear hc3 hx hb3
              go_wp2_with (go_at_call 33; refine (HW.out _ HBH.out hbs).mono ?_; rintro e w3 ⟨rfl, hbh, hb⟩; have HBH2 := Lib.hid hbh; have HB2 := Lib.hid (HB.out.trans hb); clear hbh hb)
              go_roundw
              case rel => exact ⟨i + 1, by omega, by go_num, HBH2, HB2⟩
              case measure => simp [intOf]; omega
            · obtain rfl : i = L.length := by omega
              have HBH2 : Hid (BH wr w.heap.size w.heap.size (dT (catB (txL (ps.take (k + 1)))))) := Lib.hid (by rw [HTX.out]; have := HBH.out; rw [List.take_length] at this; exact this)
              go_wp2_with fail
              go_roundw
              case rel => exact ⟨k + 1, by omega, by go_num, HFR.out, HBH2, HB⟩
              case measure => simp [intOf]; omega
        · by_cases k4 : kd = 4
          · subst k4
            have HFR : Hid (Hid (freeP (ps.take (k + 1)) = true)) := Lib.hid (Lib.hid (by rw [HFS.out]; rfl))
            have HRL := Lib.hid r2
            have HTX : Hid (txL (ps.take (k + 1)) = txL (ps.take k) ++ P) := Lib.hid (by rw [HT.out]; unfold lineP; simp only [if_neg (show ¬ (4 : Int) = 3 by decide)])
            have HWS : Hid (txL ps = txL (ps.take k) ++ P ++ txL (ps.drop (k + 1))) := Lib.hid (by rw [← HTX.out]; conv => { lhs; rw [← List.take_append_drop (k + 1) ps] }; unfold txL; rw [List.flatMap_append])
            clear r1 r2 r3
            generalize txL (ps.take k) = D at *
            generalize P = L at *
            go_wp2_with fail
            go_loopw [30] (fun j w2 => ∃ i : Nat, i ≤ L.length ∧ j = .int .i64 i ∧ Hid (BH w2 w.heap.size w.heap.size (dT (catB (D ++ L.take i)))) ∧ Hid (Below w.heap.size w w2)) (fun j _ => L.length - (intOf j).toNat)
            case atStart => exact ⟨0, Nat.zero_le _, rfl, Lib.hid (by rw [List.take_zero, List.append_nil]; exact HBH.out.below (below_alloc _ _)), Lib.hid (HB.out.alloc hbs _)⟩
            case round =>
              clear HBH HB hbs
              obtain ⟨i, hi, rfl, HBH, HB⟩ := hrel
              have hbs := HB.out.size
              by_cases hit : i < L.length
              · obtain ⟨x, hx⟩ : ∃ x, L[i]? = some x := ⟨_, List.getElem?_eq_getElem hit⟩
                obtain ⟨b3, o3, rfl, hb3, hc3⟩ := (HRL.out.below HB.out).2.2 (by omega)
                have hcx := hc3 i x hx
                have HW := Lib.hid (fun W h => bws_any w.heap.size w.heap.size (dT (catB (D ++ L.take i))) x W h (by have := cat_part HWS.out hx; have := HSZ.out; omega))
                rw [← cat_snoc D hx] at HW
                clear hc3 hx hb3
                go_wp2_with (go_at_call 33; refine (HW.out _ HBH.out hbs).mono ?_; rintro e w3 ⟨rfl, hbh, hb⟩; have HBH2 := Lib.hid hbh; have HB2 := Lib.hid (HB.out.trans hb); clear hbh hb)
                go_roundw
                case rel => exact ⟨i + 1, by omega, by go_num, HBH2, HB2⟩
                case measure => simp [intOf]; omega
              · obtain rfl : i = L.length := by omega
                have HBH2 : Hid (BH wr w.heap.size w.heap.size (dT (catB (txL (ps.take (k + 1)))))) := Lib.hid (by rw [HTX.out]; have := HBH.out; rw [List.take_length] at this; exact this)
                go_wp2_with fail
                go_roundw
                case rel => exact ⟨k + 1, by omega, by go_num, HFR.out, HBH2, HB⟩
                case measure => simp [intOf]; omega
          · by_cases k3 : kd = 3
            · subst k3
              have HFR : Hid (Hid (freeP (ps.take (k + 1)) = true)) := Lib.hid (Lib.hid (by rw [HFS.out]; rfl))
              have HRL := Lib.hid r3
              have HTX : Hid (txL (ps.take (k + 1)) = txL (ps.take k) ++ Q) := Lib.hid (by rw [HT.out]; unfold lineP; simp only [if_true])
              have HWS : Hid (txL ps = txL (ps.take k) ++ Q ++ txL (ps.drop (k + 1))) := Lib.hid (by rw [← HTX.out]; conv => { lhs; rw [← List.take_append_drop (k + 1) ps] }; unfold txL; rw [List.flatMap_append])
              clear r1 r2 r3
              generalize txL (ps.take k) = D at *
              generalize Q = L at *
              go_wp2_with fail
              go_loopw [30] (fun j w2 => ∃ i : Nat, i ≤ L.length ∧ j = .int .i64 i ∧ Hid (BH w2 w.heap.size w.heap.size (dT (catB (D ++ L.take i)))) ∧ Hid (Below w.heap.size w w2)) (fun j _ => L.length - (intOf j).toNat)
              case atStart => exact ⟨0, Nat.zero_le _, rfl, Lib.hid (by rw [List.take_zero, List.append_nil]; exact HBH.out.below (below_alloc _ _)), Lib.hid (HB.out.alloc hbs _)⟩
              case round =>
                clear HBH HB hbs
                obtain ⟨i, hi, rfl, HBH, HB⟩ := hrel
                have hbs := HB.out.size
                by_cases hit : i < L.length
                · obtain ⟨x, hx⟩ : ∃ x, L[i]? = some x := ⟨_, List.getElem?_eq_getElem hit⟩
                  obtain ⟨b3, o3, rfl, hb3, hc3⟩ := (HRL.out.below HB.out).2.2 (by omega)
                  have hcx := hc3 i x hx
                  have HW := Lib.hid (fun W h => bws_any w.heap.size w.heap.size (dT (catB (D ++ L.take i))) x W h (by have := cat_part HWS.out hx; have := HSZ.out; omega))
                  rw [← cat_snoc D hx] at HW
                  clear hc3 hx hb3
                  go_wp2_with (go_at_call 33; refine (HW.out _ HBH.out hbs).mono ?_; rintro e w3 ⟨rfl, hbh, hb⟩; have HBH2 := Lib.hid hbh; have HB2 := Lib.hid (HB.out.trans hb); clear hbh hb)
                  go_roundw
                  case rel => exact ⟨i + 1, by omega, by go_num, HBH2, HB2⟩
                  case measure => simp [intOf]; omega
                · obtain rfl : i = L.length := by omega
                  have HBH2 : Hid (BH wr w.heap.size w.heap.size (dT (catB (txL (ps.take (k + 1)))))) := Lib.hid (by rw [HTX.out]; have := HBH.out; rw [List.take_length] at this; exact this)
                  go_wp2_with fail
                  go_roundw
                  case rel => exact ⟨k + 1, by omega, by go_num, HFR.out, HBH2, HB⟩
                  case measure => simp [intOf]; omega
            · have HBAD := Lib.hid (free_miss HPX.out (by simp only; omega))
              have q1 : (kd == 1) = false := by simpa using k1
              have q2 : (kd == 2) = false := by simpa using k2
              have q3 : (kd == 3) = false := by simpa using k3
              have q4 : (kd == 4) = false := by simpa using k4
              clear r1 r2 r3 HFS HPX k1 k2 k3 k4
              go_wp2_with fail
              go_ret2
              exact RetTB'.of ⟨rfl, HB.out.alloc hbs _⟩ (tx_bad HBAD.out) HBAD.out
    · obtain rfl : k = ps.length := by omega
      have hf := HF.out
      have hbh := HBH.out
      rw [List.take_length] at hf hbh
      have HG := Lib.hid hf
      have HS := Lib.hid (fun W h => bstr_any w.heap.size w.heap.size (dT (catB (txL ps))) W h)
      rw [show mkB (dT (catB (txL ps))) = catB (txL ps) from mkB_back _] at HS
      have HBH2 := Lib.hid hbh
      have HGS : Hid (txS ps = catB (txL ps)) := Lib.hid (tx_good hf)
      clear hf hbh HF HBH
      generalize catB (txL ps) = S at *
      go_wp2_with (go_at_call 34; refine (HS.out _ HBH2.out hbs).mono ?_; rintro e w2 ⟨rfl, hb⟩; have HB2 := Lib.hid (HB.out.trans hb); clear hb)
      go_ret2
      exact RetTB'.of ⟨rfl, HB2.out⟩ HGS.out HG.out
end Go.Proofs.YtfhkmmicdbblnaaDoor

