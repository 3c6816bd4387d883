/-
  States of a walk: facts that calls which leave the old memory alone carry along.
-/
import Derived.Test.YtidjmbmnfnnleaaDoorQ7
namespace Go.Proofs.YtidjmbmnfnnleaaDoor
set_option linter.unusedSimpArgs false
set_option linter.unusedVariables false
open Go.RowKit
open Pm

theorem below_al {w w' : World} (h : Below w.heap.size w w') (o : Obj) : Below w.heap.size w (w'.alloc o) := h.alloc h.size o

theorem bcell {W w1 : World} (hb : Below W.heap.size W w1) : (∀ b o, b < W.heap.size → w1.cell? ⟨b, o, none⟩ = W.cell? ⟨b, o, none⟩) ∧ (∀ b o, b < W.heap.size → w1.frozen? ⟨b, o, none⟩ = W.frozen? ⟨b, o, none⟩) :=
  ⟨fun b o h => hb.cell (p := ⟨b, o, none⟩) h, fun b o h => hb.frozen (p := ⟨b, o, none⟩) h⟩
theorem go3 {w v w' : World} (h1 : Below w.heap.size w v) (h2 : Below v.heap.size v w') : Below w.heap.size w w' := h1.trans (h2.mono h1.size)
theorem below_set {w w' : World} (h : Below w.heap.size w w') (p : Addr) (hp : w.heap.size ≤ p.block) (u : Value) : Below w.heap.size w (w'.setCell p u) := h.setCell hp u

/-- what is kept by whatever leaves the old memory alone -/
def Kept (I : World → Prop) : Prop := ∀ w w' : World, I w → Below w.heap.size w w' → I w'
theorem Kept.both {P Q : World → Prop} (h : Kept P) (k : Kept Q) : Kept (fun w => P w ∧ Q w) := fun w w' hw hb => ⟨h w w' hw.1 hb, k w w' hw.2 hb⟩
theorem kept_below (W : World) : Kept (fun w => Below W.heap.size W w) := fun w w' h hb => h.trans (hb.mono h.size)
theorem kept_rt (A : Option Addr) (c : Nat) (xs : List ByteArray) : Kept (fun w => RT w A c xs) := fun w w' h hb => h.below hb
theorem kept_px (g : Nat) (u v : Value) : Kept (fun w => PX w g u v) := fun w w' h hb => h.below hb
theorem kept_ml : Kept ML := fun w w' h hb => h.below hb
theorem kept_ot (base : Nat) (v : Value) (xs : List ByteArray) : Kept (fun w => OT w base v xs) := fun w w' h hb => h.below hb

/-- the state of a walk: I holds, and is kept -/
def At (I : World → Prop) (w : World) : Prop := Kept I ∧ I w
theorem At.out {I : World → Prop} {w : World} (h : At I w) : I w := h.2
theorem At.go {I : World → Prop} {w w' : World} (h : At I w) (hb : Below w.heap.size w w') : At I w' := ⟨h.1, h.1 w w' h.2 hb⟩
theorem At.go2 {I : World → Prop} {w v w' : World} (h : At I w) (h1 : Below w.heap.size w v) (h2 : Below v.heap.size v w') : At I w' := h.go (h1.trans (h2.mono h1.size))
theorem At.start (W : World) : At (fun w => Below W.heap.size W w) W := ⟨kept_below W, Below.refl _ _⟩
theorem At.add {I P : World → Prop} {w : World} (h : At I w) (k : Kept P) (hp : P w) : At (fun w => P w ∧ I w) w := ⟨k.both h.1, hp, h.2⟩
theorem At.rt {I : World → Prop} {w : World} (h : At I w) {A : Option Addr} {c : Nat} {xs : List ByteArray} (hp : RT w A c xs) : At (fun w => RT w A c xs ∧ I w) w := h.add (kept_rt A c xs) hp
theorem At.ml {I : World → Prop} {w : World} (h : At I w) (hp : ML w) : At (fun w => ML w ∧ I w) w := h.add kept_ml hp
/-- a new box of two cells -/
theorem At.box {I : World → Prop} {w : World} (h : At I w) (u v : Value) (t : TypeId) : At (fun w' => PX w' w.heap.size u v ∧ I w') (w.alloc (.cells #[u, v] t)) := (h.go (below_alloc w _)).add (kept_px _ u v) (PX.new w u v t)
theorem PX.at1 {w : World} {g : Nat} {u v : Value} (h : PX w g u v) : w.cell? ⟨g, 0, none⟩ = some u := h.1

/-- a pattern in a box of its own, and where its texts lie -/
def P1 (W : World) (A : Option Addr) (c : Nat) (xs : List ByteArray) (r : Bool) (w : World) : Prop :=
  PX w W.heap.size (.slice A xs.length c) (.bool r) ∧ RT w A c xs ∧ ML w ∧ Below W.heap.size W w
theorem P1.kept (W : World) (A : Option Addr) (c : Nat) (xs : List ByteArray) (r : Bool) : Kept (P1 W A c xs r) :=
  (kept_px _ _ _).both ((kept_rt _ _ _).both (kept_ml.both (kept_below W)))
theorem P1.enter {W : World} {A : Option Addr} {c : Nat} {xs : List ByteArray} (h : RT W A c xs) (m : ML W) (r : Bool) (T : TypeId) :
    At (P1 W A c xs r) (W.alloc (.cells #[.slice A xs.length c, .bool r] T)) :=
  ⟨P1.kept _ _ _ _ _, PX.new W _ _ _, h.below (below_alloc _ _), m.below (below_alloc _ _), below_alloc _ _⟩
theorem P1.cells {W : World} {A : Option Addr} {c : Nat} {xs : List ByteArray} {r : Bool} {w : World} (h : At (P1 W A c xs r) w) :
    w.cell? ⟨W.heap.size, 0, none⟩ = some (.slice A xs.length c) ∧ w.cell? ⟨W.heap.size, 1, none⟩ = some (.bool r) := ⟨h.out.1.1, h.out.1.2.1⟩
theorem P1.x {W : World} {A : Option Addr} {c : Nat} {xs : List ByteArray} {r : Bool} {w : World} (h : At (P1 W A c xs r) w) : RT w A c xs := h.out.2.1
theorem P1.m {W : World} {A : Option Addr} {c : Nat} {xs : List ByteArray} {r : Bool} {w : World} (h : At (P1 W A c xs r) w) : ML w := h.out.2.2.1
theorem P1.b {W : World} {A : Option Addr} {c : Nat} {xs : List ByteArray} {r : Bool} {w : World} (h : At (P1 W A c xs r) w) : Below W.heap.size W w := h.out.2.2.2

/-- two patterns in boxes of their own, and where their texts lie -/
def P2 (W : World) (A : Option Addr) (c : Nat) (xs : List ByteArray) (r : Bool) (B : Option Addr) (d : Nat) (ys : List ByteArray) (t : Bool) (w : World) : Prop :=
  PX w W.heap.size (.slice A xs.length c) (.bool r) ∧ PX w (W.heap.size + 1) (.slice B ys.length d) (.bool t) ∧ RT w A c xs ∧ RT w B d ys ∧ ML w ∧ Below W.heap.size W w
theorem P2.kept (W : World) (A : Option Addr) (c : Nat) (xs : List ByteArray) (r : Bool) (B : Option Addr) (d : Nat) (ys : List ByteArray) (t : Bool) : Kept (P2 W A c xs r B d ys t) :=
  (kept_px _ _ _).both ((kept_px _ _ _).both ((kept_rt _ _ _).both ((kept_rt _ _ _).both (kept_ml.both (kept_below W)))))
theorem P2.enter {W : World} {A : Option Addr} {c : Nat} {xs : List ByteArray} {B : Option Addr} {d : Nat} {ys : List ByteArray} (h : RT W A c xs) (k : RT W B d ys) (m : ML W) (r t : Bool) (T : TypeId) :
    At (P2 W A c xs r B d ys t) ((W.alloc (.cells #[.slice A xs.length c, .bool r] T)).alloc (.cells #[.slice B ys.length d, .bool t] T)) :=
  ⟨P2.kept _ _ _ _ _ _ _ _ _, (PX.new W _ _ _).below (below_alloc _ _), by simpa using PX.new (W.alloc (.cells #[.slice A xs.length c, .bool r] T)) (.slice B ys.length d) (.bool t) T,
    h.below (below_alloc2 _ _ _), k.below (below_alloc2 _ _ _), m.below (below_alloc2 _ _ _), below_alloc2 _ _ _⟩
theorem P2.cells {W : World} {A : Option Addr} {c : Nat} {xs : List ByteArray} {r : Bool} {B : Option Addr} {d : Nat} {ys : List ByteArray} {t : Bool} {w : World} (h : At (P2 W A c xs r B d ys t) w) :
    w.cell? ⟨W.heap.size, 0, none⟩ = some (.slice A xs.length c) ∧ w.cell? ⟨W.heap.size, 1, none⟩ = some (.bool r) ∧ w.cell? ⟨W.heap.size + 1, 0, none⟩ = some (.slice B ys.length d) ∧ w.cell? ⟨W.heap.size + 1, 1, none⟩ = some (.bool t) :=
  ⟨h.out.1.1, h.out.1.2.1, h.out.2.1.1, h.out.2.1.2.1⟩
theorem P2.x {W : World} {A : Option Addr} {c : Nat} {xs : List ByteArray} {r : Bool} {B : Option Addr} {d : Nat} {ys : List ByteArray} {t : Bool} {w : World} (h : At (P2 W A c xs r B d ys t) w) : RT w A c xs := h.out.2.2.1
theorem P2.y {W : World} {A : Option Addr} {c : Nat} {xs : List ByteArray} {r : Bool} {B : Option Addr} {d : Nat} {ys : List ByteArray} {t : Bool} {w : World} (h : At (P2 W A c xs r B d ys t) w) : RT w B d ys := h.out.2.2.2.1
theorem P2.m {W : World} {A : Option Addr} {c : Nat} {xs : List ByteArray} {r : Bool} {B : Option Addr} {d : Nat} {ys : List ByteArray} {t : Bool} {w : World} (h : At (P2 W A c xs r B d ys t) w) : ML w := h.out.2.2.2.2.1
theorem P2.b {W : World} {A : Option Addr} {c : Nat} {xs : List ByteArray} {r : Bool} {B : Option Addr} {d : Nat} {ys : List ByteArray} {t : Bool} {w : World} (h : At (P2 W A c xs r B d ys t) w) : Below W.heap.size W w := h.out.2.2.2.2.2
end Go.Proofs.YtidjmbmnfnnleaaDoor

