/-
  Rules: what Agree answers, and the state of its walks.
-/
import Derived.Test.YtidjmbmnfnnleaaDoorA5a
import Derived.Test.YtidjmbmnfnnleaaDoorA3
import Derived.Test.YtidjmbmnfnnleaaDoorR9
namespace Go.Proofs.YtidjmbmnfnnleaaDoor
set_option linter.unusedSimpArgs false
set_option linter.unusedVariables false
open Go.RowKit
open Pm

/-- a call hands back a pattern, whether there is one, and an error -/
def RetA (w : World) (zs : List ByteArray) (q ok : Bool) (ne : Int) (e : Ending) (w' : World) : Prop :=
  ∃ C n, e = .returned (.tuple #[.agg #[.slice C zs.length n, .bool q], .bool ok, .int .i64 ne]) ∧ RT w' C n zs ∧ Below w.heap.size w w'
def RetAg (w : World) (xs : List ByteArray) (r : Bool) (ys : List ByteArray) (t : Bool) (zs : List ByteArray) (u : Bool) (vs : List ByteArray) (v : Bool) : Ending → World → Prop :=
  RetA w (agZ xs r ys t zs u vs v).1 ((agZ xs r ys t zs u vs v).2 && (r && u)) (agZ xs r ys t zs u vs v).2 (agE xs r ys t zs u vs v)
theorem ag_bad {w : World} {xs ys zs vs : List ByteArray} {r t u v : Bool} {n : Int} {e : Ending} {w' : World} (ho : agG xs r ys t zs u vs v = false) (hn : agE xs r ys t zs u vs v = n) (h : RetA w [] false false n e w') : RetAg w xs r ys t zs u vs v e w' := by
  unfold RetAg agZ
  rw [if_neg (by rw [ho]; decide), hn]
  exact h
/-- the state: two rules in boxes, the result's box -/
def PRA (W : World) (ex : Bool) (A : Option Addr) (c : Nat) (xs : List ByteArray) (r : Bool) (B : Option Addr) (d : Nat) (ys : List ByteArray) (t : Bool)
    (fx : Bool) (C : Option Addr) (e : Nat) (zs : List ByteArray) (u : Bool) (D : Option Addr) (f : Nat) (vs : List ByteArray) (v : Bool) (w : World) : Prop :=
  PX w (W.heap.size + 2) (.slice none 0 0) (.bool false) ∧ PRT W ex A c xs r B d ys t fx C e zs u D f vs v w
theorem PRA.kept (W : World) (ex : Bool) (A : Option Addr) (c : Nat) (xs : List ByteArray) (r : Bool) (B : Option Addr) (d : Nat) (ys : List ByteArray) (t : Bool)
    (fx : Bool) (C : Option Addr) (e : Nat) (zs : List ByteArray) (u : Bool) (D : Option Addr) (f : Nat) (vs : List ByteArray) (v : Bool) : Kept (PRA W ex A c xs r B d ys t fx C e zs u D f vs v) :=
  (kept_px _ _ _).both (PRT.kept _ _ _ _ _ _ _ _ _ _ _ _ _ _ _ _ _ _ _)
theorem PRA.enter {W : World} {A : Option Addr} {c : Nat} {xs : List ByteArray} {B : Option Addr} {d : Nat} {ys : List ByteArray} {C : Option Addr} {e : Nat} {zs : List ByteArray} {D : Option Addr} {f : Nat} {vs : List ByteArray} (h : RT W A c xs) (k : RT W B d ys) (h' : RT W C e zs) (k' : RT W D f vs) (m : ML W) (ex r t fx u v : Bool) (T U : TypeId) :
    At (PRA W ex A c xs r B d ys t fx C e zs u D f vs v) (((W.alloc (.cells #[.bool ex, .slice A xs.length c, .bool r, .slice B ys.length d, .bool t] T)).alloc (.cells #[.bool fx, .slice C zs.length e, .bool u, .slice D vs.length f, .bool v] T)).alloc (.cells #[.slice none 0 0, .bool false] U)) :=
  ⟨PRA.kept _ _ _ _ _ _ _ _ _ _ _ _ _ _ _ _ _ _ _, PX.nw (by simp), ((PRT.enter h k h' k' m ex r t fx u v T).go (below_alloc _ _)).out⟩
end Go.Proofs.YtidjmbmnfnnleaaDoor

