/-
  The walk of the merger's take.
-/
import Derived.Test.YtfhkmmicdbblnaaDoorM9
import Derived.Test.YtfhkmmicdbblnaaDoorME
import Derived.Deep.RegionHeld3
namespace Go.Proofs.YtfhkmmicdbblnaaDoor
set_option linter.unusedSimpArgs false
set_option linter.unusedVariables false
open Go.RowKit

/-- the merger's box: the texts, what is next in each, the pieces -/
def MB (w : World) (M : Nat) (tv : Value) (f : List Nat) (v : Value) : Prop :=
  f.length = 3 ∧ w.cell? ⟨M, 0, none⟩ = some tv ∧ (∀ (j x : Nat), f[j]? = some x → w.cell? ⟨M, 1 + j, none⟩ = some (.int .i64 (x : Int))) ∧ w.cell? ⟨M, 4, none⟩ = some v ∧ (∀ i, w.frozen? ⟨M, i, none⟩ = false) ∧ M < w.heap.size
theorem MB.below {w w' : World} {M : Nat} {tv v : Value} {f : List Nat} (h : MB w M tv f v) (hb : Below w.heap.size w w') : MB w' M tv f v := by
  obtain ⟨h0, h1, h2, h3, h4, h5⟩ := h
  exact ⟨h0, (hb.cell (p := ⟨M, 0, none⟩) h5).trans h1, fun j x hx => (hb.cell (p := ⟨M, 1 + j, none⟩) h5).trans (h2 j x hx), (hb.cell (p := ⟨M, 4, none⟩) h5).trans h3, fun i => (hb.frozen (p := ⟨M, i, none⟩) h5).trans (h4 i), Nat.lt_of_lt_of_le h5 hb.size⟩
/-- parts of texts, taken so far -/
def TK (w : World) (segs : List (List ByteArray)) (k : Nat) (done : List Value) (wr : World) : Prop :=
  done.length = k ∧ (∀ (j : Nat) u l, done[j]? = some u → segs[j]? = some l → ∃ C c, u = .slice C l.length c ∧ OT wr w.heap.size u l) ∧ (∀ (i j : Nat) u u', i < j → done[i]? = some u → done[j]? = some u' → Dis u u')
theorem TK.next {w wr w1 : World} {segs : List (List ByteArray)} {k : Nat} {done : List Value} (h : TK w segs k done wr) (hk : k < segs.length) {l : List ByteArray} (hl : segs[k]? = some l) {C : Option Addr} {c : Nat} (hot : OT w1 wr.heap.size (.slice C l.length c) l) (hb : Below wr.heap.size wr w1) (hw : w.heap.size ≤ wr.heap.size) : TK w segs (k + 1) (done ++ [.slice C l.length c]) w1 := by
  obtain ⟨h1, h2, h3⟩ := h
  refine ⟨by rw [List.length_append, h1]; rfl, fun j u l' hu hl' => ?_, fun i j u u' hij hu hu' => ?_⟩
  · rcases Nat.lt_trichotomy j done.length with hj | hj | hj
    · rw [List.getElem?_append_left hj] at hu
      obtain ⟨C', c', e, ho⟩ := h2 j u l' hu hl'
      exact ⟨C', c', e, ho.below hb⟩
    · subst hj
      rw [List.getElem?_append_right (Nat.le_refl _), Nat.sub_self] at hu
      rw [h1, hl] at hl'
      cases hl'
      cases hu
      exact ⟨C, c, rfl, hot.baseN hw⟩
    · rw [List.getElem?_eq_none (by rw [List.length_append]; simp; omega)] at hu
      cases hu
  · rcases Nat.lt_trichotomy j done.length with hj | hj | hj
    · rw [List.getElem?_append_left hj] at hu'
      rw [List.getElem?_append_left (by omega)] at hu
      exact h3 i j u u' hij hu hu'
    · subst hj
      rw [List.getElem?_append_right (Nat.le_refl _), Nat.sub_self] at hu'
      cases hu'
      rw [List.getElem?_append_left hij] at hu
      have hil : i < segs.length := by omega
      obtain ⟨_, _, _, ho⟩ := h2 i u _ hu (List.getElem?_eq_getElem hil)
      exact Dis.lt (n := wr.heap.size) (fun k e => (World.ownsRow.lt ho k e).2) (fun k e => hot.own k e)
    · rw [List.getElem?_eq_none (by rw [List.length_append]; simp; omega)] at hu'
      cases hu'
theorem TK.below {w wr w1 : World} {segs : List (List ByteArray)} {k : Nat} {done : List Value} (h : TK w segs k done wr) (hb : Below wr.heap.size wr w1) : TK w segs k done w1 :=
  ⟨h.1, fun j u l hu hl => by obtain ⟨C, c, e, ho⟩ := h.2.1 j u l hu hl; exact ⟨C, c, e, ho.below hb⟩, h.2.2⟩
theorem TK.other {w wr : World} {segs : List (List ByteArray)} {k : Nat} {done : List Value} (h : TK w segs k done wr) (hk : k ≤ segs.length) {p : Addr} (hp : ∀ u ∈ done, u.ownBlock ≠ some p.block) (x : Value) : TK w segs k done (wr.setCell p x) :=
  ⟨h.1, fun j u l hu hl => by obtain ⟨C, c, e, ho⟩ := h.2.1 j u l hu hl; exact ⟨C, c, e, ho.otherN (hp u (List.mem_of_getElem? hu)) x⟩, h.2.2⟩
/-- a box whose cells are known and may be written -/
def BX (w : World) (g : Nat) (cs : List Value) : Prop := (∀ (j : Nat) u, cs[j]? = some u → w.cell? ⟨g, j, none⟩ = some u) ∧ (∀ i, w.frozen? ⟨g, i, none⟩ = false) ∧ g < w.heap.size
theorem BX.new (w : World) (cs : List Value) (T : TypeId) {g : Nat} (hg : g = w.heap.size) : BX (w.alloc (.cells cs.toArray T)) g cs := by
  subst hg
  refine ⟨cells_new w cs T rfl, fun i => ?_, by simp⟩
  rw [frozen?_alloc_cells]
  simp [World.frozen?]
theorem BX.below {w w' : World} {g : Nat} {cs : List Value} (h : BX w g cs) (hb : Below w.heap.size w w') : BX w' g cs :=
  ⟨fun j u hu => (hb.cell (p := ⟨g, j, none⟩) h.2.2).trans (h.1 j u hu), fun i => (hb.frozen (p := ⟨g, i, none⟩) h.2.2).trans (h.2.1 i), Nat.lt_of_lt_of_le h.2.2 hb.size⟩
theorem BX.set {w : World} {g : Nat} {cs : List Value} (h : BX w g cs) {j : Nat} (hj : j < cs.length) (y : Value) : BX (w.setCell ⟨g, j, none⟩ y) g (cs.set j y) := by
  refine ⟨fun i u hu => ?_, fun i => ?_, by simpa [World.setCell] using h.2.2⟩
  · by_cases e : i = j
    · subst e
      rw [List.getElem?_set_self hj] at hu
      cases hu
      exact World.cell?_setCell_same _ _ _ (h.1 i _ (List.getElem?_eq_getElem hj))
    · rw [List.getElem?_set_ne (fun h => e h.symm)] at hu
      rw [World.cell?_setCell_other _ _ _ _ (by intro e2; cases e2; exact e rfl)]
      exact h.1 i u hu
  · rw [World.frozen?_setCell]; exact h.2.1 i
theorem BX.other {w : World} {g : Nat} {cs : List Value} (h : BX w g cs) {p : Addr} (hp : p.block ≠ g) (y : Value) : BX (w.setCell p y) g cs := by
  refine ⟨fun i u hu => ?_, fun i => ?_, by simpa [World.setCell] using h.2.2⟩
  · rw [World.cell?_setCell_other _ _ _ _ (by intro e; exact hp (by rw [e]))]
    exact h.1 i u hu
  · rw [World.frozen?_setCell]; exact h.2.1 i
theorem cell_gb {w w' : World} {g : Nat} {k : Option Nat} (hg : w.grownBy w' k) (hlt : g < w.heap.size) (hne : k ≠ some g) (i : Nat) : w'.cell? ⟨g, i, none⟩ = w.cell? ⟨g, i, none⟩ := World.cell?_of_block (hg.block g hlt (fun e => hne e.symm))
theorem frozen_gb {w w' : World} {g : Nat} {k : Option Nat} (hg : w.grownBy w' k) (hlt : g < w.heap.size) (hne : k ≠ some g) (i : Nat) : w'.frozen? ⟨g, i, none⟩ = w.frozen? ⟨g, i, none⟩ := World.frozen?_of_block (hg.block g hlt (fun e => hne e.symm))
theorem BX.grown {w w' : World} {g : Nat} {cs : List Value} {k : Option Nat} (h : BX w g cs) (hg : w.grownBy w' k) (hk : k ≠ some g) : BX w' g cs :=
  ⟨fun j u hu => (cell_gb hg h.2.2 hk j).trans (h.1 j u hu), fun i => (frozen_gb hg h.2.2 hk i).trans (h.2.1 i), Nat.lt_of_lt_of_le h.2.2 hg.size⟩
theorem kept_bx (g : Nat) (cs : List Value) : Kept (fun w => BX w g cs) := fun w w' h hb => h.below hb
theorem MB.other {w : World} {M : Nat} {tv v : Value} {f : List Nat} (h : MB w M tv f v) {p : Addr} (hp : p.block ≠ M) (y : Value) : MB (w.setCell p y) M tv f v := by
  obtain ⟨h0, h1, h2, h3, h4, h5⟩ := h
  have ne : ∀ i, (⟨M, i, none⟩ : Addr) ≠ p := fun i e => hp (by rw [← e])
  exact ⟨h0, by rw [World.cell?_setCell_other _ _ _ _ (fun e => ne _ e.symm)]; exact h1, fun j x hx => by rw [World.cell?_setCell_other _ _ _ _ (fun e => ne _ e.symm)]; exact h2 j x hx, by rw [World.cell?_setCell_other _ _ _ _ (fun e => ne _ e.symm)]; exact h3, fun i => by rw [World.frozen?_setCell]; exact h4 i, by simpa [World.setCell] using h5⟩
/-- what the loop over the texts keeps: b is the first box -/
def TS (w : World) (M : Nat) (tv v : Value) (f t : List Nat) (segs : List (List ByteArray)) (k : Nat) (done : List Value) (wr : World) : Prop :=
  TK w segs k done wr ∧ MB wr M tv f v ∧ BX wr w.heap.size (t.map fun n : Nat => .int .i64 (n : Int)) ∧ BX wr (w.heap.size + 1) [.int .i64 0, .slice none 0 0, .slice none 0 0, .slice none 0 0] ∧ BX wr (w.heap.size + 1 + 1) (done ++ List.replicate (3 - k) (.slice none 0 0)) ∧
    Below w.heap.size w wr ∧ w.heap.size + 3 ≤ wr.heap.size ∧ (∀ u ∈ done, ∀ j, u.ownBlock = some j → w.heap.size + 3 ≤ j) ∧ k ≤ 3 ∧ segs.length = 3 ∧ M < w.heap.size
theorem TS.kept (w : World) (M : Nat) (tv v : Value) (f t : List Nat) (segs : List (List ByteArray)) (k : Nat) (done : List Value) : Kept (TS w M tv v f t segs k done) := fun w1 w2 h hb => by
  obtain ⟨h1, h2, h3, h4, h5, h6, h7, h8, h9, h10⟩ := h
  exact ⟨h1.below hb, h2.below hb, h3.below hb, h4.below hb, h5.below hb, go3 h6 hb, Nat.le_trans h7 hb.size, h8, h9, h10⟩
theorem TS.step {w wr w1 : World} {M : Nat} {tv v : Value} {f t : List Nat} {segs : List (List ByteArray)} {k : Nat} {done : List Value} (h : TS w M tv v f t segs k done wr) (hk : k < 3) {l : List ByteArray} (hl : segs[k]? = some l) {C : Option Addr} {c : Nat} (hot : OT w1 wr.heap.size (.slice C l.length c) l) (hb : Below wr.heap.size wr w1) :
    TS w M tv v f t segs (k + 1) (done ++ [.slice C l.length c]) (w1.setCell ⟨w.heap.size + 1 + 1, k, none⟩ (.slice C l.length c)) := by
  obtain ⟨h1, h2, h3, h4, h5, h6, h7, h8, h9, h10, h11⟩ := h
  have hnew : ∀ u ∈ done ++ [Value.slice C l.length c], ∀ j, u.ownBlock = some j → w.heap.size + 3 ≤ j := by
    intro u hu j e
    rcases List.mem_append.1 hu with hu | hu
    · exact h8 u hu j e
    · rw [List.mem_singleton.1 hu] at e
      exact Nat.le_trans h7 (hot.own j e)
  have hdl := h1.1
  refine ⟨(h1.next (by omega) hl hot hb (by omega)).other (by omega) (fun u hu e => ?_) _, (h2.below hb).other (by simp only; omega) _, (h3.below hb).other (by simp only; omega) _, (h4.below hb).other (by simp only; omega) _, ?_, (go3 h6 hb).setCell (p := ⟨w.heap.size + 1 + 1, k, none⟩) (by simp only; omega) _, ?_, hnew, hk, h10, h11⟩
  · have := hnew u hu _ e
    simp only at this
    omega
  · have := (h5.below hb).set (j := k) (by rw [List.length_append, hdl, List.length_replicate]; omega) (.slice C l.length c)
    rw [show 3 - k = (3 - (k + 1)) + 1 by omega, List.replicate_succ, List.set_append_right _ _ (by omega), hdl, Nat.sub_self, List.set_cons_zero] at this
    rw [List.append_assoc]
    exact this
  · have := hb.size
    simp only [World.setCell, Array.size_modify]
    omega
theorem seg_cut {A : List ByteArray} {i j : Nat} : seg A i j = (A.drop i).take (j - i) := rfl

/-- the three parts come back; the merger's places have moved -/
def RetK (w : World) (M : Nat) (tv v : Value) (t : List Nat) (l1 l2 l3 : List ByteArray) (e : Ending) (w' : World) : Prop :=
  ∃ C1 c1 C2 c2 C3 c3, e = .returned (.agg #[.int .i64 0, .slice C1 l1.length c1, .slice C2 l2.length c2, .slice C3 l3.length c3]) ∧ OT w' w.heap.size (.slice C1 l1.length c1) l1 ∧ OT w' w.heap.size (.slice C2 l2.length c2) l2 ∧ OT w' w.heap.size (.slice C3 l3.length c3) l3 ∧
    Dis (.slice C1 l1.length c1) (.slice C2 l2.length c2) ∧ Dis (.slice C1 l1.length c1) (.slice C3 l3.length c3) ∧ Dis (.slice C2 l2.length c2) (.slice C3 l3.length c3) ∧ MB w' M tv t v ∧ w.grownBy w' (some M)

theorem OT.set7 {w wr : World} {M : Nat} {u : Value} {l : List ByteArray} (h : OT wr w.heap.size u l) (hM : M < w.heap.size) (hu : ∀ j, u.ownBlock = some j → w.heap.size + 3 ≤ j) (x1 x2 x3 y0 y1 y2 y3 : Value) :
    OT (((((((wr.setCell ⟨M, 1, none⟩ x1).setCell ⟨M, 2, none⟩ x2).setCell ⟨M, 3, none⟩ x3).setCell ⟨w.heap.size + 1, 0, none⟩ y0).setCell ⟨w.heap.size + 1, 1, none⟩ y1).setCell ⟨w.heap.size + 1, 2, none⟩ y2).setCell ⟨w.heap.size + 1, 3, none⟩ y3) w.heap.size u l := by
  have n1 : u.ownBlock ≠ some M := fun e => by have := hu _ e; omega
  have n2 : u.ownBlock ≠ some (w.heap.size + 1) := fun e => by have := hu _ e; omega
  exact ((((((h.otherN (p := ⟨M, 1, none⟩) n1 _).otherN (p := ⟨M, 2, none⟩) n1 _).otherN (p := ⟨M, 3, none⟩) n1 _).otherN (p := ⟨w.heap.size + 1, 0, none⟩) n2 _).otherN (p := ⟨w.heap.size + 1, 1, none⟩) n2 _).otherN (p := ⟨w.heap.size + 1, 2, none⟩) n2 _).otherN (p := ⟨w.heap.size + 1, 3, none⟩) n2 _
theorem MB.moved {w : World} {M t1 t2 t3 : Nat} {tv v : Value} {f : List Nat} (h : MB w M tv f v) : MB (((w.setCell ⟨M, 1, none⟩ (.int .i64 (t1 : Int))).setCell ⟨M, 2, none⟩ (.int .i64 (t2 : Int))).setCell ⟨M, 3, none⟩ (.int .i64 (t3 : Int))) M tv [t1, t2, t3] v := by
  obtain ⟨h0, h1, h2, h3, h4, h5⟩ := h
  have cell : ∀ j, j < 3 → ∃ x : Nat, w.cell? ⟨M, 1 + j, none⟩ = some (.int .i64 (x : Int)) := fun j hj => ⟨_, h2 j _ (List.getElem?_eq_getElem (by omega))⟩
  refine ⟨rfl, ?_, fun j x hx => ?_, ?_, fun i => ?_, by simpa [World.setCell] using h5⟩
  · rw [World.cell?_setCell_other _ _ _ _ (by simp), World.cell?_setCell_other _ _ _ _ (by simp), World.cell?_setCell_other _ _ _ _ (by simp)]; exact h1
  · match j, hx with
    | 0, hx =>
      cases hx
      obtain ⟨y, hy⟩ := cell 0 (by omega)
      rw [World.cell?_setCell_other _ _ _ _ (by simp), World.cell?_setCell_other _ _ _ _ (by simp)]
      exact World.cell?_setCell_same _ _ _ hy
    | 1, hx =>
      cases hx
      obtain ⟨y, hy⟩ := cell 1 (by omega)
      rw [World.cell?_setCell_other _ _ _ _ (by simp)]
      exact World.cell?_setCell_same _ _ _ (by rw [World.cell?_setCell_other _ _ _ _ (by simp)]; exact hy)
    | 2, hx =>
      cases hx
      obtain ⟨y, hy⟩ := cell 2 (by omega)
      exact World.cell?_setCell_same _ _ _ (by rw [World.cell?_setCell_other _ _ _ _ (by simp), World.cell?_setCell_other _ _ _ _ (by simp)]; exact hy)
    | j + 3, hx => simp at hx
  · rw [World.cell?_setCell_other _ _ _ _ (by simp), World.cell?_setCell_other _ _ _ _ (by simp), World.cell?_setCell_other _ _ _ _ (by simp)]; exact h3
  · rw [World.frozen?_setCell, World.frozen?_setCell, World.frozen?_setCell]; exact h4 i
theorem MB.set7 {wr : World} {M N t1 t2 t3 : Nat} {tv v : Value} {f : List Nat} (h : MB wr M tv f v) (hn : M ≠ N) (y0 y1 y2 y3 : Value) :
    MB (((((((wr.setCell ⟨M, 1, none⟩ (.int .i64 (t1 : Int))).setCell ⟨M, 2, none⟩ (.int .i64 (t2 : Int))).setCell ⟨M, 3, none⟩ (.int .i64 (t3 : Int))).setCell ⟨N, 0, none⟩ y0).setCell ⟨N, 1, none⟩ y1).setCell ⟨N, 2, none⟩ y2).setCell ⟨N, 3, none⟩ y3) M tv [t1, t2, t3] v :=
  (((h.moved.other (p := ⟨N, 0, none⟩) (fun e => hn e.symm) _).other (p := ⟨N, 1, none⟩) (fun e => hn e.symm) _).other (p := ⟨N, 2, none⟩) (fun e => hn e.symm) _).other (p := ⟨N, 3, none⟩) (fun e => hn e.symm) _
theorem gb_set7 {w wr : World} {M : Nat} (h : Below w.heap.size w wr) (x1 x2 x3 y0 y1 y2 y3 : Value) :
    w.grownBy (((((((wr.setCell ⟨M, 1, none⟩ x1).setCell ⟨M, 2, none⟩ x2).setCell ⟨M, 3, none⟩ x3).setCell ⟨w.heap.size + 1, 0, none⟩ y0).setCell ⟨w.heap.size + 1, 1, none⟩ y1).setCell ⟨w.heap.size + 1, 2, none⟩ y2).setCell ⟨w.heap.size + 1, 3, none⟩ y3) (some M) := by
  have g := gb_below (World.grownBy.refl w (some M)) h
  exact gb_set (gb_set (gb_set (gb_set (gb_set (gb_set (gb_set g (p := ⟨M, 1, none⟩) (.inl rfl) _) (p := ⟨M, 2, none⟩) (.inl rfl) _) (p := ⟨M, 3, none⟩) (.inl rfl) _) (p := ⟨w.heap.size + 1, 0, none⟩) (.inr (Nat.le_succ _)) _) (p := ⟨w.heap.size + 1, 1, none⟩) (.inr (Nat.le_succ _)) _) (p := ⟨w.heap.size + 1, 2, none⟩) (.inr (Nat.le_succ _)) _) (p := ⟨w.heap.size + 1, 3, none⟩) (.inr (Nat.le_succ _)) _

set_option maxHeartbeats 4000000 in
set_option maxRecDepth 100000 in
theorem take_any (M : Nat) (TA : Option Addr) (tc : Nat) (O A B : List ByteArray) (f1 f2 f3 t1 t2 t3 : Nat) (v : Value) (w : World) (hm : MB w M (.slice TA 3 tc) [f1, f2, f3] v) (ht : RF w TA tc 1 ([O, A, B].map lnF))
    (a1 : f1 ≤ t1) (a2 : f2 ≤ t2) (a3 : f3 ≤ t3) (b1 : t1 ≤ O.length) (b2 : t2 ≤ A.length) (b3 : t3 ≤ B.length) (n1 : O.length ≤ 1000) (n2 : A.length ≤ 1000) (n3 : B.length ≤ 1000) :
    Calls Tryd.prog 51 #[.pointer (some ⟨M, 0, none⟩), .agg #[.int .i64 (t1 : Int), .int .i64 (t2 : Int), .int .i64 (t3 : Int)]] w (RetK w M (.slice TA 3 tc) v [t1, t2, t3] (seg O f1 t1) (seg A f2 t2) (seg B f3 t3)) := by
  obtain ⟨_, m0, m1, m4, mf, ml⟩ := id hm
  have g1 := ht.1
  have g2 := ht.2.1
  simp only [List.map_cons, List.map_nil, List.length_cons, List.length_nil] at g1
  have HT := Lib.hid ht
  have HM := Lib.hid hm
  have ml1 : M < w.heap.size + 1 := by omega
  have ml2 : M < w.heap.size + 1 + 1 := by omega
  clear ht hm m1 m4
  go_enter Tryd.func51, Tryd.ntmps51
  go_wp2_with fail
  have HALL : Hid (∀ k, k < 3 → ∃ (L : List ByteArray) (F T : Nat), [O, A, B][k]? = some L ∧ [f1, f2, f3][k]? = some F ∧ [t1, t2, t3][k]? = some T ∧ F ≤ T ∧ T ≤ L.length ∧ L.length ≤ 1000 ∧ [seg O f1 t1, seg A f2 t2, seg B f3 t3][k]? = some (seg L F T)) := Lib.hid (fun k hk => by
    match k, hk with
    | 0, _ => exact ⟨O, f1, t1, rfl, rfl, rfl, a1, b1, n1, rfl⟩
    | 1, _ => exact ⟨A, f2, t2, rfl, rfl, rfl, a2, b2, n2, rfl⟩
    | 2, _ => exact ⟨B, f3, t3, rfl, rfl, rfl, a3, b3, n3, rfl⟩)
  have HST : Hid (TS w M (.slice TA 3 tc) v [f1, f2, f3] [t1, t2, t3] [seg O f1 t1, seg A f2 t2, seg B f3 t3] 0 [] (((w.alloc (.cells #[.int .i64 (t1 : Int), .int .i64 (t2 : Int), .int .i64 (t3 : Int)] 72)).alloc (.cells #[.int .i64 0, .slice none 0 0, .slice none 0 0, .slice none 0 0] 81)).alloc (.cells #[.slice none 0 0, .slice none 0 0, .slice none 0 0] 98))) := Lib.hid (by
    refine ⟨⟨rfl, fun j u l h => by simp at h, fun i j u u' _ h => by simp at h⟩, HM.out.below (((below_alloc w _).alloc (by simp) _).alloc (by simp; omega) _), ?_, ?_, ?_, ((below_alloc w _).alloc (by simp) _).alloc (by simp; omega) _, by simp, (fun u h => by cases h), by omega, rfl, ml⟩
    · exact ((BX.new w [_, _, _] _ rfl).below (below_alloc _ _)).below (below_alloc _ _)
    · exact (BX.new _ [_, _, _, _] _ (by simp)).below (below_alloc _ _)
    · exact BX.new _ [_, _, _] _ (by simp))
  generalize hsg : [seg O f1 t1, seg A f2 t2, seg B f3 t3] = segs at *
  have HSG := Lib.hid hsg
  clear hsg
  go_loopw [13] (fun i wr => ∃ (k : Nat) (done : List Value), k ≤ 3 ∧ i = .int .i64 k ∧ Hid (TS w M (.slice TA 3 tc) v [f1, f2, f3] [t1, t2, t3] segs k done wr)) (fun i _ => 3 - (intOf i).toNat)
  case atStart => exact ⟨0, [], by omega, rfl, HST⟩
  case round =>
    clear HST
    obtain ⟨k, done, hk, rfl, HS⟩ := hrel
    by_cases hlt : k < 3
    · obtain ⟨L, F, T, q1, q2, q3, q4, q5, q6, q7⟩ := HALL.out k hlt
      obtain ⟨b, o, C, n, rfl, hb1, x1, r1⟩ := (HT.out.below HS.out.2.2.2.2.2.1).row1 (j := k) (vs := L.map Value.string) (by rw [List.getElem?_map, q1]; rfl)
      rw [List.length_map] at x1
      have x2 := HS.out.2.1.2.2.1 k F q2
      have x3 := HS.out.2.2.1.1 k (.int .i64 (T : Int)) (by rw [List.getElem?_map, q3]; rfl)
      have hkI : (k : Int) < 3 := by omega
      go_wp2_with fail
      have HI : At (fun w' => (RT w' C n L ∧ (w'.cell? ⟨M, 1 + k, none⟩ = some (.int .i64 (F : Int)) ∧ w'.cell? ⟨w.heap.size, k, none⟩ = some (.int .i64 (T : Int)))) ∧ TS w M (.slice (some ⟨b, o, none⟩) 3 tc) v [f1, f2, f3] [t1, t2, t3] segs k done w') wr := ⟨fun W W' h hb => ⟨⟨h.1.1.below hb, (hb.cell (p := ⟨M, 1 + k, none⟩) (cell_lt h.1.2.1)).trans h.1.2.1, (hb.cell (p := ⟨w.heap.size, k, none⟩) (cell_lt h.1.2.2)).trans h.1.2.2⟩, TS.kept _ _ _ _ _ _ _ _ _ _ _ h.2 hb⟩, ⟨r1.rt, x2, x3⟩, HS.out⟩
      have hcl := cut_len (xs := L) (t := F) q5
      have HCLN := Lib.hid (fun W h => clone_any (cutA C n F 1) (n - F) (T - F) ((L.drop F).take (T - F)) W h hcl.symm (by rw [hcl]; omega))
      unfold RetO at HCLN
      have r2 := r1.1
      have r3 := r1.2.1
      rw [List.length_map] at r2
      have hcut := run_cut_texts C L.length n F T q4 (by omega) r3
      have HFL : Hid (F ≤ L.length) := Lib.hid (by omega)
      have HQ7 : Hid (segs[k]? = some ((L.drop F).take (T - F))) := Lib.hid q7
      have hnil : (done ++ List.replicate (3 - k) (.slice none 0 0))[k]? = some (Value.slice none 0 0) := by
        rw [List.getElem?_append_right (by rw [HS.out.1.1]; exact Nat.le_refl _), HS.out.1.1, Nat.sub_self, show 3 - k = (3 - (k + 1)) + 1 by omega]
        rfl
      have HNIL := Lib.hid hnil
      have HQ2 := Lib.hid q2
      have HQ3 : Hid (([t1, t2, t3].map fun n : Nat => Value.int .i64 (n : Int))[k]? = some (.int .i64 (T : Int))) := Lib.hid (by rw [List.getElem?_map, q3]; rfl)
      have HCUT : Hid (∀ W, RT W C n L → RT W (cutA C n F 1) (n - F) ((L.drop F).take (T - F))) := Lib.hid (fun W h => h.cut T HFL.out)
      generalize (L.drop F).take (T - F) = G at *
      generalize cutA C n F 1 = C6 at *
      clear r1 q1 q2 q3 q7 hcl hnil hb1 HS HALL
      go_region_held3 (fun w' => w'.cell? ⟨M, 1 + k, none⟩ = some (.int .i64 (F : Int)) ∧ w'.cell? ⟨w.heap.size, k, none⟩ = some (.int .i64 (T : Int)))
        (first | exact ⟨HN.out.2.1.2.2.1 k _ HQ2.out, HN.out.2.2.1.1 k _ HQ3.out⟩ | exact (HI2.go (by repeat (first | exact Below.refl _ _ | apply Below.drew | apply below_drewN | apply below_al))).out.1.2 | exact (HI.go (by repeat (first | exact Below.refl _ _ | apply Below.drew | apply below_drewN | apply below_al))).out.1.2)
        (first | (go_at_call 27; refine (HCLN.out _ (HCUT.out _ (HI.go (by repeat (first | exact Below.refl _ _ | apply Below.drew | apply below_drewN | apply below_al))).out.1.1)).mono ?_; rintro e w3 ⟨C7, m7, rfl, hot, hb⟩; have HN := Lib.hid ((HI.go (by repeat (first | exact Below.refl _ _ | apply Below.drew | apply below_drewN | apply below_al))).out.2.step (by omega) HQ7.out hot hb); have HI2 := HI.go2 (by repeat (first | exact Below.refl _ _ | apply Below.drew | apply below_drewN | apply below_al)) hb; have y1 := HI2.out.2.2.2.2.2.1.1 k _ HNIL.out; have y2 := HI2.out.2.2.2.2.2.1.2.1 k; clear hot hb))
      all_goals
        go_wp2_with fail
        go_roundw
        case rel => exact ⟨k + 1, _, by omega, by go_num, HN⟩
        case measure => simp [intOf]; omega
    · obtain rfl : k = 3 := by omega
      obtain ⟨⟨d1, d2, d3⟩, s2, s3, s4, s5, s6, s7, s8, _⟩ := HS.out
      rw [← HSG.out] at d2
      obtain ⟨u1, u2, u3, rfl⟩ : ∃ u1 u2 u3, done = [u1, u2, u3] := by
        match done, d1 with
        | [a, b, c], _ => exact ⟨a, b, c, rfl⟩
      obtain ⟨C1, c1, rfl, o1⟩ := d2 0 _ _ rfl rfl
      obtain ⟨C2, c2, rfl, o2⟩ := d2 1 _ _ rfl rfl
      obtain ⟨C3, c3, rfl, o3⟩ := d2 2 _ _ rfl rfl
      have e12 := d3 0 1 _ _ (by omega) rfl rfl
      have e13 := d3 0 2 _ _ (by omega) rfl rfl
      have e23 := d3 1 2 _ _ (by omega) rfl rfl
      have x0 := s3.1 0 _ rfl
      have x1 := s3.1 1 _ rfl
      have x2 := s3.1 2 _ rfl
      have y0 := s2.2.2.1 0 _ rfl
      have y1 := s2.2.2.1 1 _ rfl
      have y2 := s2.2.2.1 2 _ rfl
      have yf := s2.2.2.2.2.1
      have z0 := s5.1 0 _ rfl
      have z1 := s5.1 1 _ rfl
      have z2 := s5.1 2 _ rfl
      have v0 := s4.1 0 _ rfl
      have v1 := s4.1 1 _ rfl
      have v2 := s4.1 2 _ rfl
      have v3 := s4.1 3 _ rfl
      have vf := s4.2.1
      have ne1 : M ≠ w.heap.size + 1 + 1 := by omega
      have ne2 : M ≠ w.heap.size + 1 := by omega
      have ne3 : M ≠ w.heap.size := by omega
      have HO1 := Lib.hid o1
      have HO2 := Lib.hid o2
      have HO3 := Lib.hid o3
      have H12 := Lib.hid e12
      have H13 := Lib.hid e13
      have H23 := Lib.hid e23
      have HS2 := Lib.hid s2
      have HS6 := Lib.hid s6
      have hs7 : w.heap.size + 1 < wr.heap.size := by omega
      have HU := Lib.hid s8
      clear d1 d2 d3 s2 s3 s4 s5 s6 s8 o1 o2 o3 e12 e13 e23 HS HALL HSG
      generalize seg O f1 t1 = l1 at *
      generalize seg A f2 t2 = l2 at *
      generalize seg B f3 t3 = l3 at *
      go_wp2_with fail
      refine bodyPost_ret (v := .agg #[.int .i64 0, .slice C1 l1.length c1, .slice C2 l2.length c2, .slice C3 l3.length c3]) (by simp [results, Tryd.results51, go_sem, v0, v1, v2, v3, ne1, ne2, ne3]) rfl ?_
      exact ⟨C1, c1, C2, c2, C3, c3, rfl, HO1.out.set7 ml (HU.out _ (by simp)) _ _ _ _ _ _ _, HO2.out.set7 ml (HU.out _ (by simp)) _ _ _ _ _ _ _, HO3.out.set7 ml (HU.out _ (by simp)) _ _ _ _ _ _ _, H12.out, H13.out, H23.out, HS2.out.set7 ne2 _ _ _ _, gb_set7 HS6.out _ _ _ _ _ _ _⟩
end Go.Proofs.YtfhkmmicdbblnaaDoor

