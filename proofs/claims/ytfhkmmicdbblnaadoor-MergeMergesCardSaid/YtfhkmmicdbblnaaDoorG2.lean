/-
  The walk of the reference's piece.
-/
import Derived.Test.YtfhkmmicdbblnaaDoorE6
import Derived.Test.YtfhkmmicdbblnaaDoorM10
import Derived.Test.YtfhkmmicdbblnaaDoorE1
namespace Go.Proofs.YtfhkmmicdbblnaaDoor
set_option linter.unusedSimpArgs false
set_option linter.unusedVariables false
open Go.RowKit

theorem wpList_append_new {w : World} {ops : Array Oper} {rest : List Oper} {o : Oper} {a : Act} {Q : Exit → Act → World → Prop} (hgd : o.guard = none) (s x : Operand)
    (ho : o.op = .call { callee := .builtin .append, args := #[s, x], argTypes := #[30, 30] })
    (base : Nat) (ys : List ByteArray) (A : Option Addr) (n c : Nat) (hn : n = ys.length) (hs : a.eval s = .slice none 0 0) (hx : a.eval x = .slice A n c) (hr : RT w A c ys)
    (hlen : ys.length ≤ 1000000) (hbase : base ≤ w.heap.size)
    (h : ∀ C m w', OT w' base (.slice C ys.length m) ys → Below w.heap.size w w' → wpList Tryd.prog ops Q rest (a.put o.dst (.slice C ys.length m)) w') : wpList Tryd.prog ops Q (o :: rest) a w := by
  refine wpList_append_texts hgd s x ho base (.slice none 0 0) [] ys A c hs (hn ▸ hx) (OT.nil _ _) hr (by simpa using hlen) hbase fun v' w' hown hg hv => ?_
  have hown' : OT w' base v' ys := hown
  obtain ⟨C, m, rfl, hot⟩ := own_text hown' rfl
  exact h C m w' hot ((Below.refl _ _).grown hg (Nat.le_refl _) (fun k hk => by cases hk))
theorem OT.set4 {w : World} {base g : Nat} {u : Value} {l : List ByteArray} (h : OT w base u l) (hu : u.ownBlock ≠ some g) (y0 y1 y2 y3 : Value) :
    OT ((((w.setCell ⟨g, 0, none⟩ y0).setCell ⟨g, 1, none⟩ y1).setCell ⟨g, 2, none⟩ y2).setCell ⟨g, 3, none⟩ y3) base u l := (((h.otherN hu _).otherN hu _).otherN hu _).otherN hu _
theorem OT.bl {w : World} {base : Nat} {v : Value} {xs : List ByteArray} (h : OT w base v xs) : ∀ k, v.ownBlock = some k → base ≤ k ∧ k < w.heap.size := fun k e => World.ownsRow.lt h k e
theorem OT.belowN {w w' : World} {base : Nat} {v : Value} {xs : List ByteArray} (h : OT w base v xs) (hb : Below w.heap.size w w') : OT w' base v xs := h.kept (gb_below (World.grownBy.refl w none) hb) (fun j e => by cases e)
/-- a piece comes back, its rows new -/
def RetPc (w : World) (kd : Int) (l1 l2 l3 : List ByteArray) (e : Ending) (w' : World) : Prop :=
  ∃ C1 c1 C2 c2 C3 c3, e = .returned (.agg #[.int .i64 kd, .slice C1 l1.length c1, .slice C2 l2.length c2, .slice C3 l3.length c3]) ∧ OT w' w.heap.size (.slice C1 l1.length c1) l1 ∧ OT w' w.heap.size (.slice C2 l2.length c2) l2 ∧ OT w' w.heap.size (.slice C3 l3.length c3) l3 ∧
    Dis (.slice C1 l1.length c1) (.slice C2 l2.length c2) ∧ Dis (.slice C1 l1.length c1) (.slice C3 l3.length c3) ∧ Dis (.slice C2 l2.length c2) (.slice C3 l3.length c3) ∧ Below w.heap.size w w'
theorem eqT_is {A B : Option Addr} {c d : Nat} {xs ys : List ByteArray} {q : Bool} (hq : decide (xs = ys) = q) (w : World) (h : RT w A c xs) (k : RT w B d ys) :
    Calls Tryd.prog 13 #[.slice A xs.length c, .slice B ys.length d] w fun e w' => e = .returned (.bool q) ∧ Below w.heap.size w w' :=
  (eqT_any A B c d xs ys w h k).mono fun e w' ⟨he, hw⟩ => ⟨he.trans (ret_bool hq), drewN_below hw⟩

set_option maxHeartbeats 4000000 in
set_option maxRecDepth 100000 in
theorem piece_any (A1 A2 A3 : Option Addr) (n1 n2 n3 : Nat) (l1 l2 l3 : List ByteArray) (w : World) (h1 : RT w A1 n1 l1) (h2 : RT w A2 n2 l2) (h3 : RT w A3 n3 l3) (z1 : l1.length ≤ 1000) (z2 : l2.length ≤ 1000) (z3 : l3.length ≤ 1000) :
    Calls Tryd.prog 39 #[.slice A1 l1.length n1, .slice A2 l2.length n2, .slice A3 l3.length n3] w (RetPc w (kindOf l1 l2 l3) l1 l2 l3) := by
  have H1 : Hid (RT (w.alloc (.cells #[.int .i64 0, .slice none 0 0, .slice none 0 0, .slice none 0 0] 81)) A1 n1 l1) := Lib.hid (h1.below (below_alloc _ _))
  have H2 : Hid (RT (w.alloc (.cells #[.int .i64 0, .slice none 0 0, .slice none 0 0, .slice none 0 0] 81)) A2 n2 l2) := Lib.hid (h2.below (below_alloc _ _))
  have H3 : Hid (RT (w.alloc (.cells #[.int .i64 0, .slice none 0 0, .slice none 0 0, .slice none 0 0] 81)) A3 n3 l3) := Lib.hid (h3.below (below_alloc _ _))
  clear h1 h2 h3
  by_cases k1 : l3 = l1
  · have HK : Hid (kindOf l1 l2 l3 = 2) := Lib.hid (by unfold kindOf; rw [if_pos k1])
    have HE1 := Lib.hid (fun W h k => eqT_is (A := A3) (B := A1) (c := n3) (d := n1) (decide_eq_true k1) W h k)
    have HE2 : Hid True := Lib.hid trivial
    have HE3 : Hid True := Lib.hid trivial
    clear k1
    go_enter Tryd.func39, Tryd.ntmps39
    have HB : Hid (Below (w.alloc (.cells #[.int .i64 0, .slice none 0 0, .slice none 0 0, .slice none 0 0] 81)).heap.size (w.alloc (.cells #[.int .i64 0, .slice none 0 0, .slice none 0 0, .slice none 0 0] 81)) (w.alloc (.cells #[.int .i64 0, .slice none 0 0, .slice none 0 0, .slice none 0 0] 81))) := Lib.hid (Below.refl _ _)
    have HBX := Lib.hid (BX.new w [.int .i64 0, .slice none 0 0, .slice none 0 0, .slice none 0 0] 81 rfl)
    have hsz : w.heap.size < (w.alloc (.cells #[.int .i64 0, .slice none 0 0, .slice none 0 0, .slice none 0 0] 81)).heap.size := by simp
    have HBL := Lib.hid (below_alloc w (.cells #[.int .i64 0, .slice none 0 0, .slice none 0 0, .slice none 0 0] 81))
    go_wp2_with (first
      | (go_at_call 13; (first | with_reducible refine (HE1.out _ (H3.out.below HB.out) (H1.out.below HB.out)).mono ?_ | with_reducible refine (HE2.out _ (H2.out.below HB.out) (H1.out.below HB.out)).mono ?_ | with_reducible refine (HE3.out _ (H2.out.below HB.out) (H3.out.below HB.out)).mono ?_); rintro e w3 ⟨rfl, hb⟩; replace HB := Lib.hid (go3 HB.out hb); clear hb)
      | (at_builtin; refine wpList_append_new rfl _ _ rfl (w.heap.size + 1) l1 A1 l1.length n1 rfl rfl rfl (H1.out.below HB.out) (by omega) (by have := HB.out.size; simpa using this) ?_; intro C1 m1 w4 hot hb; have HO1 := Lib.hid hot; have HC1 := Lib.hid (go3 HB.out hb); clear hot hb)
      | (at_builtin; refine wpList_append_new rfl _ _ rfl w4.heap.size l2 A2 l2.length n2 rfl rfl rfl (H2.out.below HC1.out) (by omega) (Nat.le_refl _) ?_; intro C2 m2 w5 hot hb; have HO2 := Lib.hid hot; have HO12 := Lib.hid (HO1.out.belowN hb); have HC2 := Lib.hid (go3 HC1.out hb); have hs5 := hb.size; clear hot hb)
      | (at_builtin; refine wpList_append_new rfl _ _ rfl w5.heap.size l3 A3 l3.length n3 rfl rfl rfl (H3.out.below HC2.out) (by omega) (Nat.le_refl _) ?_; intro C3 m3 w6 hot hb; have HO3 := Lib.hid hot; have HO13 := Lib.hid (HO12.out.belowN hb); have HO23 := Lib.hid (HO2.out.belowN hb); have HC3 := Lib.hid (go3 HC2.out hb); have hs6 := hb.size; have v0 := (HBX.out.below HC3.out).1 0 _ rfl; have v1 := (HBX.out.below HC3.out).1 1 _ rfl; have v2 := (HBX.out.below HC3.out).1 2 _ rfl; have v3 := (HBX.out.below HC3.out).1 3 _ rfl; have vf := (HBX.out.below HC3.out).2.1; clear hot hb))
    refine bodyPost_ret (v := .agg #[.int .i64 2, .slice C1 l1.length m1, .slice C2 l2.length m2, .slice C3 l3.length m3]) (by simp [results, Tryd.results39, go_sem, v0, v1, v2, v3]) rfl ?_
    have b1 := HO1.out.bl
    have b2 := HO2.out.bl
    have b3 := HO3.out.bl
    have hc1 := HC1.out.size
    simp at hc1
    exact ⟨C1, m1, C2, m2, C3, m3, by rw [HK.out], (HO13.out.baseN (by omega)).set4 (fun e => by have := b1 _ e; omega) _ _ _ _, (HO23.out.baseN (by omega)).set4 (fun e => by have := b2 _ e; omega) _ _ _ _, (HO3.out.baseN (by omega)).set4 (fun e => by have := b3 _ e; omega) _ _ _ _,
      Dis.lt (n := w4.heap.size) (fun k e => (b1 k e).2) (fun k e => (b2 k e).1), Dis.lt (n := w4.heap.size) (fun k e => (b1 k e).2) (fun k e => by have := (b3 k e).1; omega), Dis.lt (n := w5.heap.size) (fun k e => (b2 k e).2) (fun k e => (b3 k e).1),
      ((((go3 HBL.out HC3.out).setCell (p := ⟨w.heap.size, 0, none⟩) (Nat.le_refl _) _).setCell (p := ⟨w.heap.size, 1, none⟩) (Nat.le_refl _) _).setCell (p := ⟨w.heap.size, 2, none⟩) (Nat.le_refl _) _).setCell (p := ⟨w.heap.size, 3, none⟩) (Nat.le_refl _) _⟩
  · by_cases k2 : l2 = l1
    · have HK : Hid (kindOf l1 l2 l3 = 3) := Lib.hid (by unfold kindOf; rw [if_neg k1, if_pos k2])
      have HE1 := Lib.hid (fun W h k => eqT_is (A := A3) (B := A1) (c := n3) (d := n1) (decide_eq_false k1) W h k)
      have HE2 := Lib.hid (fun W h k => eqT_is (A := A2) (B := A1) (c := n2) (d := n1) (decide_eq_true k2) W h k)
      have HE3 : Hid True := Lib.hid trivial
      clear k1 k2
      go_enter Tryd.func39, Tryd.ntmps39
      have HB : Hid (Below (w.alloc (.cells #[.int .i64 0, .slice none 0 0, .slice none 0 0, .slice none 0 0] 81)).heap.size (w.alloc (.cells #[.int .i64 0, .slice none 0 0, .slice none 0 0, .slice none 0 0] 81)) (w.alloc (.cells #[.int .i64 0, .slice none 0 0, .slice none 0 0, .slice none 0 0] 81))) := Lib.hid (Below.refl _ _)
      have HBX := Lib.hid (BX.new w [.int .i64 0, .slice none 0 0, .slice none 0 0, .slice none 0 0] 81 rfl)
      have hsz : w.heap.size < (w.alloc (.cells #[.int .i64 0, .slice none 0 0, .slice none 0 0, .slice none 0 0] 81)).heap.size := by simp
      have HBL := Lib.hid (below_alloc w (.cells #[.int .i64 0, .slice none 0 0, .slice none 0 0, .slice none 0 0] 81))
      go_wp2_with (first
        | (go_at_call 13; (first | with_reducible refine (HE1.out _ (H3.out.below HB.out) (H1.out.below HB.out)).mono ?_ | with_reducible refine (HE2.out _ (H2.out.below HB.out) (H1.out.below HB.out)).mono ?_ | with_reducible refine (HE3.out _ (H2.out.below HB.out) (H3.out.below HB.out)).mono ?_); rintro e w3 ⟨rfl, hb⟩; replace HB := Lib.hid (go3 HB.out hb); clear hb)
        | (at_builtin; refine wpList_append_new rfl _ _ rfl (w.heap.size + 1) l1 A1 l1.length n1 rfl rfl rfl (H1.out.below HB.out) (by omega) (by have := HB.out.size; simpa using this) ?_; intro C1 m1 w4 hot hb; have HO1 := Lib.hid hot; have HC1 := Lib.hid (go3 HB.out hb); clear hot hb)
        | (at_builtin; refine wpList_append_new rfl _ _ rfl w4.heap.size l2 A2 l2.length n2 rfl rfl rfl (H2.out.below HC1.out) (by omega) (Nat.le_refl _) ?_; intro C2 m2 w5 hot hb; have HO2 := Lib.hid hot; have HO12 := Lib.hid (HO1.out.belowN hb); have HC2 := Lib.hid (go3 HC1.out hb); have hs5 := hb.size; clear hot hb)
        | (at_builtin; refine wpList_append_new rfl _ _ rfl w5.heap.size l3 A3 l3.length n3 rfl rfl rfl (H3.out.below HC2.out) (by omega) (Nat.le_refl _) ?_; intro C3 m3 w6 hot hb; have HO3 := Lib.hid hot; have HO13 := Lib.hid (HO12.out.belowN hb); have HO23 := Lib.hid (HO2.out.belowN hb); have HC3 := Lib.hid (go3 HC2.out hb); have hs6 := hb.size; have v0 := (HBX.out.below HC3.out).1 0 _ rfl; have v1 := (HBX.out.below HC3.out).1 1 _ rfl; have v2 := (HBX.out.below HC3.out).1 2 _ rfl; have v3 := (HBX.out.below HC3.out).1 3 _ rfl; have vf := (HBX.out.below HC3.out).2.1; clear hot hb))
      refine bodyPost_ret (v := .agg #[.int .i64 3, .slice C1 l1.length m1, .slice C2 l2.length m2, .slice C3 l3.length m3]) (by simp [results, Tryd.results39, go_sem, v0, v1, v2, v3]) rfl ?_
      have b1 := HO1.out.bl
      have b2 := HO2.out.bl
      have b3 := HO3.out.bl
      have hc1 := HC1.out.size
      simp at hc1
      exact ⟨C1, m1, C2, m2, C3, m3, by rw [HK.out], (HO13.out.baseN (by omega)).set4 (fun e => by have := b1 _ e; omega) _ _ _ _, (HO23.out.baseN (by omega)).set4 (fun e => by have := b2 _ e; omega) _ _ _ _, (HO3.out.baseN (by omega)).set4 (fun e => by have := b3 _ e; omega) _ _ _ _,
        Dis.lt (n := w4.heap.size) (fun k e => (b1 k e).2) (fun k e => (b2 k e).1), Dis.lt (n := w4.heap.size) (fun k e => (b1 k e).2) (fun k e => by have := (b3 k e).1; omega), Dis.lt (n := w5.heap.size) (fun k e => (b2 k e).2) (fun k e => (b3 k e).1),
        ((((go3 HBL.out HC3.out).setCell (p := ⟨w.heap.size, 0, none⟩) (Nat.le_refl _) _).setCell (p := ⟨w.heap.size, 1, none⟩) (Nat.le_refl _) _).setCell (p := ⟨w.heap.size, 2, none⟩) (Nat.le_refl _) _).setCell (p := ⟨w.heap.size, 3, none⟩) (Nat.le_refl _) _⟩
    · by_cases k3 : l2 = l3
      · have HK : Hid (kindOf l1 l2 l3 = 4) := Lib.hid (by unfold kindOf; rw [if_neg k1, if_neg k2, if_pos k3])
        have HE1 := Lib.hid (fun W h k => eqT_is (A := A3) (B := A1) (c := n3) (d := n1) (decide_eq_false k1) W h k)
        have HE2 := Lib.hid (fun W h k => eqT_is (A := A2) (B := A1) (c := n2) (d := n1) (decide_eq_false k2) W h k)
        have HE3 := Lib.hid (fun W h k => eqT_is (A := A2) (B := A3) (c := n2) (d := n3) (decide_eq_true k3) W h k)
        clear k1 k2 k3
        go_enter Tryd.func39, Tryd.ntmps39
        have HB : Hid (Below (w.alloc (.cells #[.int .i64 0, .slice none 0 0, .slice none 0 0, .slice none 0 0] 81)).heap.size (w.alloc (.cells #[.int .i64 0, .slice none 0 0, .slice none 0 0, .slice none 0 0] 81)) (w.alloc (.cells #[.int .i64 0, .slice none 0 0, .slice none 0 0, .slice none 0 0] 81))) := Lib.hid (Below.refl _ _)
        have HBX := Lib.hid (BX.new w [.int .i64 0, .slice none 0 0, .slice none 0 0, .slice none 0 0] 81 rfl)
        have hsz : w.heap.size < (w.alloc (.cells #[.int .i64 0, .slice none 0 0, .slice none 0 0, .slice none 0 0] 81)).heap.size := by simp
        have HBL := Lib.hid (below_alloc w (.cells #[.int .i64 0, .slice none 0 0, .slice none 0 0, .slice none 0 0] 81))
        go_wp2_with (first
          | (go_at_call 13; (first | with_reducible refine (HE1.out _ (H3.out.below HB.out) (H1.out.below HB.out)).mono ?_ | with_reducible refine (HE2.out _ (H2.out.below HB.out) (H1.out.below HB.out)).mono ?_ | with_reducible refine (HE3.out _ (H2.out.below HB.out) (H3.out.below HB.out)).mono ?_); rintro e w3 ⟨rfl, hb⟩; replace HB := Lib.hid (go3 HB.out hb); clear hb)
          | (at_builtin; refine wpList_append_new rfl _ _ rfl (w.heap.size + 1) l1 A1 l1.length n1 rfl rfl rfl (H1.out.below HB.out) (by omega) (by have := HB.out.size; simpa using this) ?_; intro C1 m1 w4 hot hb; have HO1 := Lib.hid hot; have HC1 := Lib.hid (go3 HB.out hb); clear hot hb)
          | (at_builtin; refine wpList_append_new rfl _ _ rfl w4.heap.size l2 A2 l2.length n2 rfl rfl rfl (H2.out.below HC1.out) (by omega) (Nat.le_refl _) ?_; intro C2 m2 w5 hot hb; have HO2 := Lib.hid hot; have HO12 := Lib.hid (HO1.out.belowN hb); have HC2 := Lib.hid (go3 HC1.out hb); have hs5 := hb.size; clear hot hb)
          | (at_builtin; refine wpList_append_new rfl _ _ rfl w5.heap.size l3 A3 l3.length n3 rfl rfl rfl (H3.out.below HC2.out) (by omega) (Nat.le_refl _) ?_; intro C3 m3 w6 hot hb; have HO3 := Lib.hid hot; have HO13 := Lib.hid (HO12.out.belowN hb); have HO23 := Lib.hid (HO2.out.belowN hb); have HC3 := Lib.hid (go3 HC2.out hb); have hs6 := hb.size; have v0 := (HBX.out.below HC3.out).1 0 _ rfl; have v1 := (HBX.out.below HC3.out).1 1 _ rfl; have v2 := (HBX.out.below HC3.out).1 2 _ rfl; have v3 := (HBX.out.below HC3.out).1 3 _ rfl; have vf := (HBX.out.below HC3.out).2.1; clear hot hb))
        refine bodyPost_ret (v := .agg #[.int .i64 4, .slice C1 l1.length m1, .slice C2 l2.length m2, .slice C3 l3.length m3]) (by simp [results, Tryd.results39, go_sem, v0, v1, v2, v3]) rfl ?_
        have b1 := HO1.out.bl
        have b2 := HO2.out.bl
        have b3 := HO3.out.bl
        have hc1 := HC1.out.size
        simp at hc1
        exact ⟨C1, m1, C2, m2, C3, m3, by rw [HK.out], (HO13.out.baseN (by omega)).set4 (fun e => by have := b1 _ e; omega) _ _ _ _, (HO23.out.baseN (by omega)).set4 (fun e => by have := b2 _ e; omega) _ _ _ _, (HO3.out.baseN (by omega)).set4 (fun e => by have := b3 _ e; omega) _ _ _ _,
          Dis.lt (n := w4.heap.size) (fun k e => (b1 k e).2) (fun k e => (b2 k e).1), Dis.lt (n := w4.heap.size) (fun k e => (b1 k e).2) (fun k e => by have := (b3 k e).1; omega), Dis.lt (n := w5.heap.size) (fun k e => (b2 k e).2) (fun k e => (b3 k e).1),
          ((((go3 HBL.out HC3.out).setCell (p := ⟨w.heap.size, 0, none⟩) (Nat.le_refl _) _).setCell (p := ⟨w.heap.size, 1, none⟩) (Nat.le_refl _) _).setCell (p := ⟨w.heap.size, 2, none⟩) (Nat.le_refl _) _).setCell (p := ⟨w.heap.size, 3, none⟩) (Nat.le_refl _) _⟩
      · have HK : Hid (kindOf l1 l2 l3 = 5) := Lib.hid (by unfold kindOf; rw [if_neg k1, if_neg k2, if_neg k3])
        have HE1 := Lib.hid (fun W h k => eqT_is (A := A3) (B := A1) (c := n3) (d := n1) (decide_eq_false k1) W h k)
        have HE2 := Lib.hid (fun W h k => eqT_is (A := A2) (B := A1) (c := n2) (d := n1) (decide_eq_false k2) W h k)
        have HE3 := Lib.hid (fun W h k => eqT_is (A := A2) (B := A3) (c := n2) (d := n3) (decide_eq_false k3) W h k)
        clear k1 k2 k3
        go_enter Tryd.func39, Tryd.ntmps39
        have HB : Hid (Below (w.alloc (.cells #[.int .i64 0, .slice none 0 0, .slice none 0 0, .slice none 0 0] 81)).heap.size (w.alloc (.cells #[.int .i64 0, .slice none 0 0, .slice none 0 0, .slice none 0 0] 81)) (w.alloc (.cells #[.int .i64 0, .slice none 0 0, .slice none 0 0, .slice none 0 0] 81))) := Lib.hid (Below.refl _ _)
        have HBX := Lib.hid (BX.new w [.int .i64 0, .slice none 0 0, .slice none 0 0, .slice none 0 0] 81 rfl)
        have hsz : w.heap.size < (w.alloc (.cells #[.int .i64 0, .slice none 0 0, .slice none 0 0, .slice none 0 0] 81)).heap.size := by simp
        have HBL := Lib.hid (below_alloc w (.cells #[.int .i64 0, .slice none 0 0, .slice none 0 0, .slice none 0 0] 81))
        go_wp2_with (first
          | (go_at_call 13; (first | with_reducible refine (HE1.out _ (H3.out.below HB.out) (H1.out.below HB.out)).mono ?_ | with_reducible refine (HE2.out _ (H2.out.below HB.out) (H1.out.below HB.out)).mono ?_ | with_reducible refine (HE3.out _ (H2.out.below HB.out) (H3.out.below HB.out)).mono ?_); rintro e w3 ⟨rfl, hb⟩; replace HB := Lib.hid (go3 HB.out hb); clear hb)
          | (at_builtin; refine wpList_append_new rfl _ _ rfl (w.heap.size + 1) l1 A1 l1.length n1 rfl rfl rfl (H1.out.below HB.out) (by omega) (by have := HB.out.size; simpa using this) ?_; intro C1 m1 w4 hot hb; have HO1 := Lib.hid hot; have HC1 := Lib.hid (go3 HB.out hb); clear hot hb)
          | (at_builtin; refine wpList_append_new rfl _ _ rfl w4.heap.size l2 A2 l2.length n2 rfl rfl rfl (H2.out.below HC1.out) (by omega) (Nat.le_refl _) ?_; intro C2 m2 w5 hot hb; have HO2 := Lib.hid hot; have HO12 := Lib.hid (HO1.out.belowN hb); have HC2 := Lib.hid (go3 HC1.out hb); have hs5 := hb.size; clear hot hb)
          | (at_builtin; refine wpList_append_new rfl _ _ rfl w5.heap.size l3 A3 l3.length n3 rfl rfl rfl (H3.out.below HC2.out) (by omega) (Nat.le_refl _) ?_; intro C3 m3 w6 hot hb; have HO3 := Lib.hid hot; have HO13 := Lib.hid (HO12.out.belowN hb); have HO23 := Lib.hid (HO2.out.belowN hb); have HC3 := Lib.hid (go3 HC2.out hb); have hs6 := hb.size; have v0 := (HBX.out.below HC3.out).1 0 _ rfl; have v1 := (HBX.out.below HC3.out).1 1 _ rfl; have v2 := (HBX.out.below HC3.out).1 2 _ rfl; have v3 := (HBX.out.below HC3.out).1 3 _ rfl; have vf := (HBX.out.below HC3.out).2.1; clear hot hb))
        refine bodyPost_ret (v := .agg #[.int .i64 5, .slice C1 l1.length m1, .slice C2 l2.length m2, .slice C3 l3.length m3]) (by simp [results, Tryd.results39, go_sem, v0, v1, v2, v3]) rfl ?_
        have b1 := HO1.out.bl
        have b2 := HO2.out.bl
        have b3 := HO3.out.bl
        have hc1 := HC1.out.size
        simp at hc1
        exact ⟨C1, m1, C2, m2, C3, m3, by rw [HK.out], (HO13.out.baseN (by omega)).set4 (fun e => by have := b1 _ e; omega) _ _ _ _, (HO23.out.baseN (by omega)).set4 (fun e => by have := b2 _ e; omega) _ _ _ _, (HO3.out.baseN (by omega)).set4 (fun e => by have := b3 _ e; omega) _ _ _ _,
          Dis.lt (n := w4.heap.size) (fun k e => (b1 k e).2) (fun k e => (b2 k e).1), Dis.lt (n := w4.heap.size) (fun k e => (b1 k e).2) (fun k e => by have := (b3 k e).1; omega), Dis.lt (n := w5.heap.size) (fun k e => (b2 k e).2) (fun k e => (b3 k e).1),
          ((((go3 HBL.out HC3.out).setCell (p := ⟨w.heap.size, 0, none⟩) (Nat.le_refl _) _).setCell (p := ⟨w.heap.size, 1, none⟩) (Nat.le_refl _) _).setCell (p := ⟨w.heap.size, 2, none⟩) (Nat.le_refl _) _).setCell (p := ⟨w.heap.size, 3, none⟩) (Nat.le_refl _) _⟩
end Go.Proofs.YtfhkmmicdbblnaaDoor

