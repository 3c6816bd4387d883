/-
  What an edit that is accepted says; what comes back of the reference's edit.
-/
import Derived.Test.YteagecjhpfijjaaDoorV9
import Derived.Test.YteagecjhpfijjaaDoorV11
import Derived.Laws.StructEq
namespace Go.Proofs.YteagecjhpfijjaaDoor
set_option linter.unusedSimpArgs false
set_option linter.unusedVariables false
open Go.RowKit
open Pm

/-- an edit that is accepted, of the depot rs, behind the edit o -/
def EditOk (rs : List Rv) (o : Option Ed) (x : Ed) : Prop :=
  (pathOk x.path.data.toList = true ∧ x.path.size ≤ 200) ∧ (∀ y, o = some y → ordR y.path x.path < 0) ∧
  (1 ≤ x.act ∧ x.act ≤ 5 ∧ ((x.act = 1 ∨ x.act = 4) ↔ liveR rs x.path = false)) ∧ x.base = lastN rs x.path ∧
  ((x.act = 4 ∧ liveR rs x.frm = true ∧ lastN rs x.frm = x.fnum ∧ x.frm ≠ x.path) ∨ (x.act ≠ 4 ∧ x.frm = ⟨#[]⟩ ∧ x.fnum = 0))
/-- an error comes back, or none, and then P -/
def RetEd (w : World) (P : Prop) (e : Ending) (w' : World) : Prop := ∃ n : Int, e = .returned (.int .i64 n) ∧ (n = 0 → P) ∧ Below w.heap.size w w'
theorem RetEd.bad {w : World} {P : Prop} {n : Int} {w' : World} (hn : n ≠ 0) (hb : Below w.heap.size w w') : RetEd w P (.returned (.int .i64 n)) w' := ⟨n, rfl, fun h => absurd h hn, hb⟩
theorem RetEd.ok {w : World} {P : Prop} {n : Int} {w' : World} (h : P) (hb : Below w.heap.size w w') : RetEd w P (.returned (.int .i64 n)) w' := ⟨n, rfl, fun _ => h, hb⟩
/-- the boxes of edit: the depot, the change, the edit -/
def ES (w : World) (A B : Option Addr) (c m d : Nat) (rs : List Rv) (n : Int) (S T : ByteArray) (C D : Option Addr) (ce dr nr : Nat) (es : List Ed) (x : Ed) (w' : World) : Prop :=
  BX w' w.heap.size [.slice A rs.length c, .slice B m d] ∧ BX w' (w.heap.size + 1) [.int .i64 n, .string S, .string T, .slice C es.length ce, .slice D dr nr] ∧ BX w' (w.heap.size + 1 + 1) (edV x) ∧ Below w.heap.size w w'
theorem ES.kept (w : World) (A B : Option Addr) (c m d : Nat) (rs : List Rv) (n : Int) (S T : ByteArray) (C D : Option Addr) (ce dr nr : Nat) (es : List Ed) (x : Ed) : Kept (ES w A B c m d rs n S T C D ce dr nr es x) := fun X Y h hb =>
  ⟨h.1.below hb, h.2.1.below hb, h.2.2.1.below hb, go3 h.2.2.2 hb⟩
theorem ES.start (w : World) (A B : Option Addr) (c m d : Nat) (rs : List Rv) (n : Int) (S T : ByteArray) (C D : Option Addr) (ce dr nr : Nat) (es : List Ed) (x : Ed) (T1 T2 T3 : TypeId) :
    At (ES w A B c m d rs n S T C D ce dr nr es x) (((w.alloc (.cells #[.slice A rs.length c, .slice B m d] T1)).alloc (.cells #[.int .i64 n, .string S, .string T, .slice C es.length ce, .slice D dr nr] T2)).alloc (.cells (edV x).toArray T3)) :=
  ⟨ES.kept _ _ _ _ _ _ _ _ _ _ _ _ _ _ _ _ _, (BX.new w [.slice A rs.length c, .slice B m d] T1 rfl).below (below_two _ _ _), (BX.new (w.alloc (.cells #[.slice A rs.length c, .slice B m d] T1)) [.int .i64 n, .string S, .string T, .slice C es.length ce, .slice D dr nr] T2 (g := w.heap.size + 1) (by simp)).below (below_alloc _ _),
    BX.new _ (edV x) T3 (g := w.heap.size + 1 + 1) (by simp), below_three _ _ _ _⟩
set_option maxHeartbeats 4000000 in
set_option maxRecDepth 100000 in
/-- an edit whose path is none, or too long -/
theorem edit_path (A B : Option Addr) (c m d : Nat) (rs : List Rv) (n : Int) (S T : ByteArray) (C D : Option Addr) (ce dr nr : Nat) (es : List Ed) (i : Nat) (x : Ed) (P : Prop) (w : World) (h : RV w A c rs) (k : EV w C ce es) (hm : ML w) (hx : es[i]? = some x) (hz : x.path.size ≤ 1000) (hie : es.length ≤ 100000)
    (hbad : pathOk x.path.data.toList = false ∨ 200 < x.path.size) :
    Calls Tryd.prog 50 #[.agg #[.slice A rs.length c, .slice B m d], .agg #[.int .i64 n, .string S, .string T, .slice C es.length ce, .slice D dr nr], .int .i64 i] w (RetEd w P) := by
  have HR := Lib.hid h
  have HM := Lib.hid hm
  have k1 := k.1
  have k2 := k.2.1
  rw [List.length_map] at k1
  have hil := (List.getElem?_eq_some_iff.1 hx).1
  obtain ⟨b, o', rfl, hb1, y0, y1, y2, y3, y4, y5, y6, y7, y8, y9, y10, y11⟩ := (k.below (below_two w (.cells #[.slice A rs.length c, .slice B m d] 28) (.cells #[.int .i64 n, .string S, .string T, .slice C es.length ce, .slice D dr nr] 52))).at_ hx
  have HS := ES.start w A B c m d rs n S T (some ⟨b, o', none⟩) D ce dr nr es x 28 52 63
  have d0 := HS.out.1.1 0 _ rfl
  have d1 := HS.out.1.1 1 _ rfl
  have k0 := HS.out.2.1.1 0 _ rfl
  have k1 := HS.out.2.1.1 1 _ rfl
  have k2 := HS.out.2.1.1 2 _ rfl
  have k3 := HS.out.2.1.1 3 _ rfl
  have k4 := HS.out.2.1.1 4 _ rfl
  obtain ⟨x0, x1, x2, x3, x4, x5, x6, x7, x8, x9, x10, x11⟩ := HS.out.2.2.1.ed
  have gs := HS.out.2.2.1.2.2
  cases hp : pathOk x.path.data.toList with
  | false =>
    have HPT := Lib.hid (fun W h => rpath_no x.path W (by omega) h hp)
    unfold RetNB at HPT
    clear hbad hp h k hm hx
    go_enter Tryd.func50, Tryd.ntmps50
    go_wp2_with (go_at_call 54; refine (HPT.out _ (HM.out.below HS.out.2.2.2)).mono ?_; rintro e w1 ⟨rfl, hb⟩; replace HS := HS.go2 (by repeat (first | exact Below.refl _ _ | apply Below.drew | apply below_drewN | apply below_al)) hb; clear hb; have d0 := HS.out.1.1 0 _ rfl; have d1 := HS.out.1.1 1 _ rfl; have k0 := HS.out.2.1.1 0 _ rfl; have k1 := HS.out.2.1.1 1 _ rfl; have k2 := HS.out.2.1.1 2 _ rfl; have k3 := HS.out.2.1.1 3 _ rfl; have k4 := HS.out.2.1.1 4 _ rfl; obtain ⟨x0, x1, x2, x3, x4, x5, x6, x7, x8, x9, x10, x11⟩ := HS.out.2.2.1.ed; have gs := HS.out.2.2.1.2.2)
    go_ret
    exact RetEd.bad (by decide) HS.out.2.2.2
  | true =>
    have hlong : 200 < x.path.size := by rcases hbad with h | h; (rw [hp] at h; cases h); exact h
    have HPT := Lib.hid (fun W h => rpath_yes x.path W (by omega) h hp)
    unfold RetTB RetT at HPT
    generalize compsB x.path = ps at *
    have hlI : (200 : Int) < (x.path.size : Int) := by omega
    clear hbad hp h k hm hx
    go_enter Tryd.func50, Tryd.ntmps50
    go_wp2_with (go_at_call 54; refine (HPT.out _ (HM.out.below HS.out.2.2.2)).mono ?_; rintro e w1 ⟨A1, c1, rfl, _, hb⟩; replace HS := HS.go2 (by repeat (first | exact Below.refl _ _ | apply Below.drew | apply below_drewN | apply below_al)) hb; clear hb; have d0 := HS.out.1.1 0 _ rfl; have d1 := HS.out.1.1 1 _ rfl; have k0 := HS.out.2.1.1 0 _ rfl; have k1 := HS.out.2.1.1 1 _ rfl; have k2 := HS.out.2.1.1 2 _ rfl; have k3 := HS.out.2.1.1 3 _ rfl; have k4 := HS.out.2.1.1 4 _ rfl; obtain ⟨x0, x1, x2, x3, x4, x5, x6, x7, x8, x9, x10, x11⟩ := HS.out.2.2.1.ed; have gs := HS.out.2.2.1.2.2)
    go_ret
    exact RetEd.bad (by decide) HS.out.2.2.2
end Go.Proofs.YteagecjhpfijjaaDoor

