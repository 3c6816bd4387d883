/-
  Edits by value; when a change may follow a list of revisions; the lists of revisions that changes make: plain facts, no program in sight.
-/
import Derived.Test.YteagecjhpfijjaaDoorV1
namespace Go.Proofs.YteagecjhpfijjaaDoor
set_option linter.unusedSimpArgs false
set_option linter.unusedVariables false

/-- an edit -/
structure Ed where
  path : ByteArray
  act : Int
  ty : Int × Bool × Bool × Bool
  cid : Int × Int
  base : Int
  frm : ByteArray
  fnum : Int
  fence : Int
/-- the revision that an edit makes -/
def madeR (n : Int) (x : Ed) : Rv := ⟨x.path, x.base + 1, n, x.act, x.ty, x.cid, x.frm, x.fnum⟩
/-- y is the other side of the move x -/
def mvY (x y : Ed) : Bool := (x.act == 5 && (y.act == 4 && decide (y.frm = x.path))) || (x.act == 4 && (y.act == 5 && decide (y.path = x.frm)))
def mvN (es : List Ed) (x : Ed) : Nat := (es.filter (mvY x)).length
def movedB (es : List Ed) (x : Ed) : Bool := decide (mvN es x = 1) || (x.act != 5 && x.act != 4)
theorem mvN_snoc {es : List Ed} {x y : Ed} {k : Nat} (h : es[k]? = some y) : mvN (es.take (k + 1)) x = mvN (es.take k) x + (if mvY x y = true then 1 else 0) := by
  unfold mvN
  rw [List.take_add_one, h, List.filter_append, List.length_append]
  cases hm : mvY x y <;> simp [List.filter_cons, hm]
theorem mvN_le (es : List Ed) (x : Ed) : mvN es x ≤ es.length := List.length_filter_le _ _
/-- what an edit that is accepted says of the depot -/
def BaseOk (rs : List Rv) (x : Ed) : Prop := x.base = lastN rs x.path
def FromOk (rs : List Rv) (x : Ed) : Prop := (x.act = 4 ∧ liveR rs x.frm = true ∧ lastN rs x.frm = x.fnum ∧ x.frm ≠ x.path) ∨ (x.act ≠ 4 ∧ x.frm = ⟨#[]⟩ ∧ x.fnum = 0)
def ActOk (rs : List Rv) (x : Ed) : Prop := 1 ≤ x.act ∧ x.act ≤ 5 ∧ ((x.act = 1 ∨ x.act = 4) ↔ liveR rs x.path = false)
/-- the edits of a change that is accepted behind rs -/
structure Batch (rs : List Rv) (n : Int) (es : List Ed) : Prop where
  pos : 1 ≤ n
  top : n ≤ 1073741824
  lt : ∀ v ∈ rs, v.chg < n
  nodup : (es.map (fun x => x.path)).Nodup
  act : ∀ x ∈ es, ActOk rs x
  base : ∀ x ∈ es, BaseOk rs x
  frm : ∀ x ∈ es, FromOk rs x
  mov : ∀ x ∈ es, movedB es x = true
/-- the revisions of a depot that changes made -/
inductive VH : List Rv → Prop where
  | nil : VH []
  | app {rs : List Rv} {n : Int} {es : List Ed} (h : VH rs) (b : Batch rs n es) : VH (rs ++ es.map (madeR n))
end Go.Proofs.YteagecjhpfijjaaDoor

