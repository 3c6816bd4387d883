/-
  Rules: copies, exchanged sides, and the words of the statements.
-/
import Derived.Test.YtidjmbmnfnnleaaDoorR2
import Derived.Deep.RegionHeld3
namespace Go.Proofs.YtidjmbmnfnnleaaDoor
set_option linter.unusedSimpArgs false
set_option linter.unusedVariables false
open Go.RowKit
open Pm

/-- a call hands back a slice of texts -/
def RetC1 (w : World) (xs : List ByteArray) (e : Ending) (w' : World) : Prop := ∃ B d, e = .returned (.slice B xs.length d) ∧ RT w' B d xs ∧ Below w.heap.size w w'
set_option maxHeartbeats 1000000 in
theorem clone_all (A : Option Addr) (c : Nat) (xs : List ByteArray) (w : World) (h : RT w A c xs) (hl : xs.length ≤ 100000) :
    Calls Tryd.prog 62 #[.slice A xs.length c] w (RetC1 w xs) := by
  have h1 := h.1
  have h2 := h.2.1
  cases A with
  | none =>
    have hx : xs = [] := by
      rcases Nat.eq_zero_or_pos xs.length with h0 | h0
      · exact List.eq_nil_of_length_eq_zero h0
      · obtain ⟨b, o, e, _⟩ := h.2.2 h0
        cases e
    subst hx
    clear h
    have hq := fun (W : World) => Lib.run_eql_slice_nil (P := Tryd.prog) W 22 9 none 0 c 0 0 Tryd.underlying22
    simp only [List.length_nil]
    go_enter Tryd.func62, Tryd.ntmps62
    go_wp2_with fail
    go_ret
    exact ⟨none, 0, rfl, RT.nil _ _ _ (by omega), Below.refl _ _⟩
  | some a =>
    have HX := Lib.hid h
    clear h
    have hq := fun (W : World) => Lib.run_eql_slice_nil (P := Tryd.prog) W 22 9 (some a) xs.length c 0 0 Tryd.underlying22
    go_enter Tryd.func62, Tryd.ntmps62
    go_wp2_with (at_builtin; (refine wpList_append_texts rfl _ _ rfl w.heap.size _ [] xs _ c rfl rfl (OT.made w _ (Nat.le_refl _)) (HX.out.below (below_alloc _ _)) (by simp; omega) (by simp) ?_; intro v1 w3 hown hg _; have HBL := Lib.hid ((below_alloc w _).grown hg (by simp) (fun k hk => by cases hk; exact Nat.le_refl _)); rw [List.nil_append] at hown; obtain ⟨B, d, rfl, hrt⟩ := hown.read; have HRT := Lib.hid hrt; clear hown hg hrt))
    go_ret
    exact ⟨B, d, rfl, HRT.out, HBL.out⟩

/-- a call hands back a pattern -/
def RetP1 (w : World) (xs : List ByteArray) (r : Bool) (e : Ending) (w' : World) : Prop := ∃ B d, e = .returned (.agg #[.slice B xs.length d, .bool r]) ∧ RT w' B d xs ∧ Below w.heap.size w w'
/-- a pattern in a box, and the box of the result -/
def PV (W : World) (A : Option Addr) (c : Nat) (xs : List ByteArray) (r : Bool) (w : World) : Prop :=
  PX w W.heap.size (.slice A xs.length c) (.bool r) ∧ PX w (W.heap.size + 1) (.slice none 0 0) (.bool false) ∧ RT w A c xs ∧ Below W.heap.size W w
theorem PV.kept (W : World) (A : Option Addr) (c : Nat) (xs : List ByteArray) (r : Bool) : Kept (PV W A c xs r) :=
  (kept_px _ _ _).both ((kept_px _ _ _).both ((kept_rt _ _ _).both (kept_below _)))
theorem PV.enter {W : World} {A : Option Addr} {c : Nat} {xs : List ByteArray} (h : RT W A c xs) (r : Bool) (T : TypeId) :
    At (PV W A c xs r) ((W.alloc (.cells #[.slice A xs.length c, .bool r] T)).alloc (.cells #[.slice none 0 0, .bool false] T)) :=
  ⟨PV.kept _ _ _ _ _, PX.fst W _ _ _ _ _, PX.snd W _ _ _ _ _, (h.below (below_alloc _ _)).below (below_alloc _ _), by repeat (first | exact Below.refl _ _ | apply Below.drew | apply below_drewN | apply below_al)⟩
theorem PV.cells {W : World} {A : Option Addr} {c : Nat} {xs : List ByteArray} {r : Bool} {w : World} (h : At (PV W A c xs r) w) : w.cell? ⟨W.heap.size, 0, none⟩ = some (.slice A xs.length c) ∧ w.cell? ⟨W.heap.size, 1, none⟩ = some (.bool r) := ⟨h.out.1.1, h.out.1.2.1⟩
theorem PV.res {W : World} {A : Option Addr} {c : Nat} {xs : List ByteArray} {r : Bool} {w : World} (h : At (PV W A c xs r) w) : PX w (W.heap.size + 1) (.slice none 0 0) (.bool false) := h.out.2.1
theorem PV.x {W : World} {A : Option Addr} {c : Nat} {xs : List ByteArray} {r : Bool} {w : World} (h : At (PV W A c xs r) w) : RT w A c xs := h.out.2.2.1
theorem PV.b {W : World} {A : Option Addr} {c : Nat} {xs : List ByteArray} {r : Bool} {w : World} (h : At (PV W A c xs r) w) : Below W.heap.size W w := h.out.2.2.2

set_option maxHeartbeats 2000000 in
theorem pcopy_any (A : Option Addr) (c : Nat) (xs : List ByteArray) (r : Bool) (w : World) (h : RT w A c xs) (hl : xs.length ≤ 100000) :
    Calls Tryd.prog 39 #[.agg #[.slice A xs.length c, .bool r]] w (RetP1 w xs r) := by
  have HI := PV.enter h r 24
  have HCL := Lib.hid (fun w h => clone_all A c xs w h hl)
  have h1 := h.1
  have h2 := h.2.1
  clear h
  have HR := Lib.hid True.intro
  go_enter Tryd.func39, Tryd.ntmps39
  go_wp2_with fail
  go_region_held3 (fun w' => w'.cell? ⟨w.heap.size, 0, none⟩ = some (.slice A xs.length c) ∧ w'.cell? ⟨w.heap.size, 1, none⟩ = some (.bool r))
    (first | (refine PV.cells (HI.go ?_) <;> (repeat (first | exact Below.refl _ _ | apply Below.drew | apply below_drewN | apply below_al)) <;> done) | go_keep)
    ((go_at_call 62; refine (HCL.out _ (PV.x (HI.go (by repeat (first | exact Below.refl _ _ | apply Below.drew | apply below_drewN | apply below_al))))).mono ?_; rintro e w3 ⟨B, d, rfl, hr, hb⟩; replace HI := HI.go2 (by repeat (first | exact Below.refl _ _ | apply Below.drew | apply below_drewN | apply below_al)) hb; have HRT := Lib.hid hr; obtain ⟨q1, q2, q3, q4, q5⟩ := PV.res HI; obtain ⟨a1, a2⟩ := PV.cells HI; clear hr hb))
  all_goals go_wp2_with fail
  all_goals
    refine bodyPost_ret (v := .agg #[.slice B xs.length d, .bool r]) (by simp [results, Tryd.results39, go_sem, q1, q2, q3, q4]) rfl ⟨B, d, rfl, HRT.out.box (PV.res HI) (slice_ns _ _ _) (bool_ns _) _ _, below_box (PV.b HI) (by omega) _ _⟩

set_option maxHeartbeats 1000000 in
theorem rcopy_any (A : Option Addr) (c : Nat) (xs : List ByteArray) (r : Bool) (w : World) (h : RT w A c xs) (hlen : xs.length ≤ 100000) :
    Calls Tryd.prog 38 #[.agg #[.slice A xs.length c, .bool r]] w (RetP1 w xs r) := by
  have h1 := h.1
  have h2 := h.2.1
  have HX := Lib.hid h
  clear h
  go_enter Tryd.func38, Tryd.ntmps38
  go_wp2_with fail
  go_region_law (refine step_append_texts rfl _ _ rfl (w.heap.size + 2) (.slice none 0 0) [] xs A c rfl rfl (OT.nil _ _) (HX.out.below (below_alloc2 _ _ _).drew) (by simp; omega) (by simp) ?_; intro v1 w1 hown hg _; have hbg := (Below.refl _ _).grown hg (Nat.le_refl _) (by intro k h; simp [Value.ownBlock] at h); have P1 := Lib.hid (((PX.new w (.slice A xs.length c) (.bool r) _).below (below_alloc _ (.cells #[.slice none 0 0, .bool false] 24))).below ((Below.refl _ _).drew.trans hbg)); have P2 : Hid (PX w1 (w.heap.size + 1) (.slice none 0 0) (.bool false)) := Lib.hid (by have := ((PX.new (w.alloc (.cells #[.slice A xs.length c, .bool r] 24)) (.slice none 0 0) (.bool false) _).below ((Below.refl _ _).drew.trans hbg)); simpa using this); have HB := Lib.hid ((below_alloc2 w _ _).drew.trans (hbg.mono (by simp; omega))); clear hg hbg; rw [List.nil_append] at hown; obtain ⟨B, d, rfl, hrt⟩ := hown.read; have HRT := Lib.hid hrt; clear hrt hown; obtain ⟨p1, p2, p3, p4, p5⟩ := P1.out; obtain ⟨q1, q2, q3, q4, q5⟩ := P2.out)
  all_goals go_wp2_with fail
  all_goals
    refine bodyPost_ret (v := .agg #[.slice B xs.length d, .bool r]) (by simp [results, Tryd.results38, go_sem, q1, q2, q3, q4]) rfl ⟨B, d, rfl, HRT.out.box P2.out (slice_ns _ _ _) (bool_ns _) _ _, below_box HB.out (by omega) _ _⟩

/-- five cells that may be written -/
def F5 (w : World) (g : Nat) : Prop := w.frozen? ⟨g, 0, none⟩ = false ∧ w.frozen? ⟨g, 1, none⟩ = false ∧ w.frozen? ⟨g, 2, none⟩ = false ∧ w.frozen? ⟨g, 3, none⟩ = false ∧ w.frozen? ⟨g, 4, none⟩ = false ∧ g < w.heap.size
theorem kept_f5 (g : Nat) : Kept (fun w => F5 w g) := fun w w' h hb =>
  ⟨(hb.frozen (p := ⟨g, 0, none⟩) h.2.2.2.2.2).trans h.1, (hb.frozen (p := ⟨g, 1, none⟩) h.2.2.2.2.2).trans h.2.1, (hb.frozen (p := ⟨g, 2, none⟩) h.2.2.2.2.2).trans h.2.2.1, (hb.frozen (p := ⟨g, 3, none⟩) h.2.2.2.2.2).trans h.2.2.2.1, (hb.frozen (p := ⟨g, 4, none⟩) h.2.2.2.2.2).trans h.2.2.2.2.1, Nat.lt_of_lt_of_le h.2.2.2.2.2 hb.size⟩
theorem F5.new (w : World) (u0 u1 u2 u3 u4 : Value) (T : TypeId) : F5 (w.alloc (.cells #[u0, u1, u2, u3, u4] T)) w.heap.size :=
  ⟨by simp [World.frozen?_alloc_new], by simp [World.frozen?_alloc_new], by simp [World.frozen?_alloc_new], by simp [World.frozen?_alloc_new], by simp [World.frozen?_alloc_new], by simp⟩
theorem P5.snd (w : World) (o : Obj) (u0 u1 u2 u3 u4 : Value) (T : TypeId) : P5 ((w.alloc o).alloc (.cells #[u0, u1, u2, u3, u4] T)) (w.heap.size + 1) u0 u1 u2 u3 u4 := by
  have := P5.new (w.alloc o) u0 u1 u2 u3 u4 T
  simpa using this
theorem F5.snd (w : World) (o : Obj) (u0 u1 u2 u3 u4 : Value) (T : TypeId) : F5 ((w.alloc o).alloc (.cells #[u0, u1, u2, u3, u4] T)) (w.heap.size + 1) := by
  have := F5.new (w.alloc o) u0 u1 u2 u3 u4 T
  simpa using this
def set5 (w : World) (g : Nat) (a b c d e : Value) : World := ((((w.setCell ⟨g, 0, none⟩ a).setCell ⟨g, 1, none⟩ b).setCell ⟨g, 2, none⟩ c).setCell ⟨g, 3, none⟩ d).setCell ⟨g, 4, none⟩ e
theorem RT.set5 {w : World} {A : Option Addr} {n g : Nat} {xs : List ByteArray} {u0 u1 u2 u3 u4 : Value} (h : RT w A n xs) (hp : P5 w g u0 u1 u2 u3 u4) (h0 : ∀ x, u0 ≠ .string x) (h1 : ∀ x, u1 ≠ .string x) (h2 : ∀ x, u2 ≠ .string x) (h3 : ∀ x, u3 ≠ .string x) (h4 : ∀ x, u4 ≠ .string x) (a b c d e : Value) : RT (set5 w g a b c d e) A n xs := by
  have ne : ∀ (W : World) (i j : Nat) (v : Value), i ≠ j → (W.setCell ⟨g, i, none⟩ v).cell? ⟨g, j, none⟩ = W.cell? ⟨g, j, none⟩ := fun W i j v hij => World.cell?_setCell_other _ _ _ _ (by simp [hij.symm])
  unfold Proofs.YtidjmbmnfnnleaaDoor.set5
  refine RT.setCell (RT.setCell (RT.setCell (RT.setCell (RT.setCell h hp.1 h0 a) ?_ h1 b) ?_ h2 c) ?_ h3 d) ?_ h4 e
  · rw [ne _ _ _ _ (by decide)]; exact hp.2.1
  · rw [ne _ _ _ _ (by decide), ne _ _ _ _ (by decide)]; exact hp.2.2.1
  · rw [ne _ _ _ _ (by decide), ne _ _ _ _ (by decide), ne _ _ _ _ (by decide)]; exact hp.2.2.2.1
  · rw [ne _ _ _ _ (by decide), ne _ _ _ _ (by decide), ne _ _ _ _ (by decide), ne _ _ _ _ (by decide)]; exact hp.2.2.2.2.1
theorem below_set5 {B g : Nat} {w w' : World} (h : Below B w w') (hg : B ≤ g) (a b c d e : Value) : Below B w (set5 w' g a b c d e) :=
  ((((h.setCell (p := ⟨g, 0, none⟩) hg a).setCell (p := ⟨g, 1, none⟩) hg b).setCell (p := ⟨g, 2, none⟩) hg c).setCell (p := ⟨g, 3, none⟩) hg d).setCell (p := ⟨g, 4, none⟩) hg e

/-- a rule in a box, and the box of the result -/
def PT (W : World) (ex : Bool) (A : Option Addr) (c : Nat) (xs : List ByteArray) (r : Bool) (B : Option Addr) (d : Nat) (ys : List ByteArray) (t : Bool) (w : World) : Prop :=
  P5 w (W.heap.size + 1) (.bool false) (.slice none 0 0) (.bool false) (.slice none 0 0) (.bool false) ∧ F5 w (W.heap.size + 1) ∧ PR W ex A c xs r B d ys t w
theorem PT.kept (W : World) (ex : Bool) (A : Option Addr) (c : Nat) (xs : List ByteArray) (r : Bool) (B : Option Addr) (d : Nat) (ys : List ByteArray) (t : Bool) : Kept (PT W ex A c xs r B d ys t) :=
  (kept_p5 _ _ _ _ _ _).both ((kept_f5 _).both (PR.kept _ _ _ _ _ _ _ _ _ _))
theorem PT.enter {W : World} {A : Option Addr} {c : Nat} {xs : List ByteArray} {B : Option Addr} {d : Nat} {ys : List ByteArray} (h : RT W A c xs) (k : RT W B d ys) (m : ML W) (ex r t : Bool) (T : TypeId) :
    At (PT W ex A c xs r B d ys t) ((W.alloc (.cells #[.bool ex, .slice A xs.length c, .bool r, .slice B ys.length d, .bool t] T)).alloc (.cells #[.bool false, .slice none 0 0, .bool false, .slice none 0 0, .bool false] T)) :=
  ⟨PT.kept _ _ _ _ _ _ _ _ _ _, P5.snd _ _ _ _ _ _ _ _, F5.snd _ _ _ _ _ _ _ _, ((PR.enter h k m ex r t T).go (below_alloc _ _)).out⟩
theorem PT.pr {W : World} {ex : Bool} {A : Option Addr} {c : Nat} {xs : List ByteArray} {r : Bool} {B : Option Addr} {d : Nat} {ys : List ByteArray} {t : Bool} {w : World} (h : At (PT W ex A c xs r B d ys t) w) : At (PR W ex A c xs r B d ys t) w := ⟨PR.kept _ _ _ _ _ _ _ _ _ _, h.out.2.2⟩
theorem PT.cells {W : World} {ex : Bool} {A : Option Addr} {c : Nat} {xs : List ByteArray} {r : Bool} {B : Option Addr} {d : Nat} {ys : List ByteArray} {t : Bool} {w : World} (h : At (PT W ex A c xs r B d ys t) w) :
    w.cell? ⟨W.heap.size, 0, none⟩ = some (.bool ex) ∧ w.cell? ⟨W.heap.size, 1, none⟩ = some (.slice A xs.length c) ∧ w.cell? ⟨W.heap.size, 2, none⟩ = some (.bool r) ∧ w.cell? ⟨W.heap.size, 3, none⟩ = some (.slice B ys.length d) ∧ w.cell? ⟨W.heap.size, 4, none⟩ = some (.bool t) :=
  ⟨h.out.2.2.1.1, h.out.2.2.1.2.1, h.out.2.2.1.2.2.1, h.out.2.2.1.2.2.2.1, h.out.2.2.1.2.2.2.2.1⟩
/-- a call hands back a rule -/
def RetR (w : World) (ex : Bool) (xs : List ByteArray) (r : Bool) (ys : List ByteArray) (t : Bool) (e : Ending) (w' : World) : Prop :=
  ∃ A c B d, e = .returned (ruV ex A c xs r B d ys t) ∧ RT w' A c xs ∧ RT w' B d ys ∧ Below w.heap.size w w'

set_option maxHeartbeats 4000000 in
theorem turn_any (ex : Bool) (A B : Option Addr) (c d : Nat) (xs ys : List ByteArray) (r t : Bool) (w : World) (h : RT w A c xs) (k : RT w B d ys) (hm : ML w) (hlx : xs.length ≤ 100000) (hly : ys.length ≤ 100000) :
    Calls Tryd.prog 20 #[ruV ex A c xs r B d ys t] w (RetR w ex ys t xs r) := by
  have HI := PT.enter h k hm ex r t 26
  have HCP := Lib.hid (fun A c xs r w h hl => pcopy_any A c xs r w h hl)
  unfold ruV
  have hx1 := h.1
  have hx2 := h.2.1
  have hy1 := k.1
  have hy2 := k.2.1
  clear h k hm
  have tok1 : True := trivial
  go_enter Tryd.func20, Tryd.ntmps20
  go_wp2_with fail
  go_region_held3 (fun w' => (w'.cell? ⟨w.heap.size, 0, none⟩ = some (.bool ex) ∧ w'.cell? ⟨w.heap.size, 1, none⟩ = some (.slice A xs.length c) ∧ w'.cell? ⟨w.heap.size, 2, none⟩ = some (.bool r) ∧ w'.cell? ⟨w.heap.size, 3, none⟩ = some (.slice B ys.length d) ∧ w'.cell? ⟨w.heap.size, 4, none⟩ = some (.bool t)))
    (first | (refine PT.cells (HI.go ?_) <;> (repeat (first | exact Below.refl _ _ | apply Below.drew | apply below_drewN | apply below_al)) <;> done) | go_keep)
    (first
      | (go_at_call 39; have _t := tok1; refine (HCP.out _ _ _ _ _ (by first | exact PR.x (PT.pr (HI.go (by repeat (first | exact Below.refl _ _ | apply Below.drew | apply below_drewN | apply below_al)))) | exact PR.y (PT.pr (HI.go (by repeat (first | exact Below.refl _ _ | apply Below.drew | apply below_drewN | apply below_al))))) (by first | exact hlx | exact hly)).mono ?_; rintro e w3 ⟨B1, d1, rfl, hr, hb⟩; replace HI := HI.go2 (by repeat (first | exact Below.refl _ _ | apply Below.drew | apply below_drewN | apply below_al)) hb; have HR1 := Lib.hid hr; clear tok1 _t hr hb)
      | (go_at_call 39; refine (HCP.out _ _ _ _ _ (by first | exact PR.x (PT.pr (HI.go (by repeat (first | exact Below.refl _ _ | apply Below.drew | apply below_drewN | apply below_al)))) | exact PR.y (PT.pr (HI.go (by repeat (first | exact Below.refl _ _ | apply Below.drew | apply below_drewN | apply below_al))))) (by first | exact hlx | exact hly)).mono ?_; rintro e w4 ⟨B2, d2, rfl, hr, hb⟩; replace HI := HI.go2 (by repeat (first | exact Below.refl _ _ | apply Below.drew | apply below_drewN | apply below_al)) hb; have HR2 := Lib.hid hr; have HR3 := Lib.hid (HR1.out.below (below_two (by repeat (first | exact Below.refl _ _ | apply Below.drew | apply below_drewN | apply below_al)) hb)); have HP := Lib.hid HI.out.1; have HF := Lib.hid HI.out.2.1; obtain ⟨p0, p1, p2, p3, p4, p5⟩ := HP.out; obtain ⟨f0, f1, f2, f3, f4, f5⟩ := HF.out; obtain ⟨a0, a1, a2, a3, a4⟩ := PT.cells HI; clear hr hb))
  all_goals go_wp2_with fail
  all_goals
    first
    | (refine bodyPost_ret (v := .agg #[.bool ex, .slice B1 ys.length d1, .bool t, .slice B2 xs.length d2, .bool r]) (by simp [results, Tryd.results20, go_sem, p0, p1, p2, p3, p4, f0, f1, f2, f3, f4]) rfl ⟨B1, d1, B2, d2, rfl, HR3.out.set5 HP.out (bool_ns _) (slice_ns _ _ _) (bool_ns _) (slice_ns _ _ _) (bool_ns _) _ _ _ _ _, HR2.out.set5 HP.out (bool_ns _) (slice_ns _ _ _) (bool_ns _) (slice_ns _ _ _) (bool_ns _) _ _ _ _ _, below_set5 (PR.b (PT.pr HI)) (by omega) _ _ _ _ _⟩)
    | (refine bodyPost_ret (v := .agg #[.bool ex, .slice B2 ys.length d2, .bool t, .slice B1 xs.length d1, .bool r]) (by simp [results, Tryd.results20, go_sem, p0, p1, p2, p3, p4, f0, f1, f2, f3, f4]) rfl ⟨B2, d2, B1, d1, rfl, HR2.out.set5 HP.out (bool_ns _) (slice_ns _ _ _) (bool_ns _) (slice_ns _ _ _) (bool_ns _) _ _ _ _ _, HR3.out.set5 HP.out (bool_ns _) (slice_ns _ _ _) (bool_ns _) (slice_ns _ _ _) (bool_ns _) _ _ _ _ _, below_set5 (PR.b (PT.pr HI)) (by omega) _ _ _ _ _⟩)
set_option maxHeartbeats 4000000 in
theorem rturn_any (ex : Bool) (A B : Option Addr) (c d : Nat) (xs ys : List ByteArray) (r t : Bool) (w : World) (h : RT w A c xs) (k : RT w B d ys) (hm : ML w) (hlx : xs.length ≤ 100000) (hly : ys.length ≤ 100000) :
    Calls Tryd.prog 19 #[ruV ex A c xs r B d ys t] w (RetR w ex ys t xs r) := by
  have HI := PT.enter h k hm ex r t 26
  have HCP := Lib.hid (fun A c xs r w h hl => rcopy_any A c xs r w h hl)
  unfold ruV
  have hx1 := h.1
  have hx2 := h.2.1
  have hy1 := k.1
  have hy2 := k.2.1
  clear h k hm
  have tok1 : True := trivial
  go_enter Tryd.func19, Tryd.ntmps19
  go_wp2_with fail
  go_region_held3 (fun w' => (w'.cell? ⟨w.heap.size, 0, none⟩ = some (.bool ex) ∧ w'.cell? ⟨w.heap.size, 1, none⟩ = some (.slice A xs.length c) ∧ w'.cell? ⟨w.heap.size, 2, none⟩ = some (.bool r) ∧ w'.cell? ⟨w.heap.size, 3, none⟩ = some (.slice B ys.length d) ∧ w'.cell? ⟨w.heap.size, 4, none⟩ = some (.bool t)))
    (first | (refine PT.cells (HI.go ?_) <;> (repeat (first | exact Below.refl _ _ | apply Below.drew | apply below_drewN | apply below_al)) <;> done) | go_keep)
    (first
      | (go_at_call 38; have _t := tok1; refine (HCP.out _ _ _ _ _ (by first | exact PR.x (PT.pr (HI.go (by repeat (first | exact Below.refl _ _ | apply Below.drew | apply below_drewN | apply below_al)))) | exact PR.y (PT.pr (HI.go (by repeat (first | exact Below.refl _ _ | apply Below.drew | apply below_drewN | apply below_al))))) (by first | exact hlx | exact hly)).mono ?_; rintro e w3 ⟨B1, d1, rfl, hr, hb⟩; replace HI := HI.go2 (by repeat (first | exact Below.refl _ _ | apply Below.drew | apply below_drewN | apply below_al)) hb; have HR1 := Lib.hid hr; clear tok1 _t hr hb)
      | (go_at_call 38; refine (HCP.out _ _ _ _ _ (by first | exact PR.x (PT.pr (HI.go (by repeat (first | exact Below.refl _ _ | apply Below.drew | apply below_drewN | apply below_al)))) | exact PR.y (PT.pr (HI.go (by repeat (first | exact Below.refl _ _ | apply Below.drew | apply below_drewN | apply below_al))))) (by first | exact hlx | exact hly)).mono ?_; rintro e w4 ⟨B2, d2, rfl, hr, hb⟩; replace HI := HI.go2 (by repeat (first | exact Below.refl _ _ | apply Below.drew | apply below_drewN | apply below_al)) hb; have HR2 := Lib.hid hr; have HR3 := Lib.hid (HR1.out.below (below_two (by repeat (first | exact Below.refl _ _ | apply Below.drew | apply below_drewN | apply below_al)) hb)); have HP := Lib.hid HI.out.1; have HF := Lib.hid HI.out.2.1; obtain ⟨p0, p1, p2, p3, p4, p5⟩ := HP.out; obtain ⟨f0, f1, f2, f3, f4, f5⟩ := HF.out; obtain ⟨a0, a1, a2, a3, a4⟩ := PT.cells HI; clear hr hb))
  all_goals go_wp2_with fail
  all_goals
    first
    | (refine bodyPost_ret (v := .agg #[.bool ex, .slice B1 ys.length d1, .bool t, .slice B2 xs.length d2, .bool r]) (by simp [results, Tryd.results19, go_sem, p0, p1, p2, p3, p4, f0, f1, f2, f3, f4]) rfl ⟨B1, d1, B2, d2, rfl, HR3.out.set5 HP.out (bool_ns _) (slice_ns _ _ _) (bool_ns _) (slice_ns _ _ _) (bool_ns _) _ _ _ _ _, HR2.out.set5 HP.out (bool_ns _) (slice_ns _ _ _) (bool_ns _) (slice_ns _ _ _) (bool_ns _) _ _ _ _ _, below_set5 (PR.b (PT.pr HI)) (by omega) _ _ _ _ _⟩)
    | (refine bodyPost_ret (v := .agg #[.bool ex, .slice B2 ys.length d2, .bool t, .slice B1 xs.length d1, .bool r]) (by simp [results, Tryd.results19, go_sem, p0, p1, p2, p3, p4, f0, f1, f2, f3, f4]) rfl ⟨B2, d2, B1, d1, rfl, HR2.out.set5 HP.out (bool_ns _) (slice_ns _ _ _) (bool_ns _) (slice_ns _ _ _) (bool_ns _) _ _ _ _ _, HR3.out.set5 HP.out (bool_ns _) (slice_ns _ _ _) (bool_ns _) (slice_ns _ _ _) (bool_ns _) _ _ _ _ _, below_set5 (PR.b (PT.pr HI)) (by omega) _ _ _ _ _⟩)
end Go.Proofs.YtidjmbmnfnnleaaDoor

