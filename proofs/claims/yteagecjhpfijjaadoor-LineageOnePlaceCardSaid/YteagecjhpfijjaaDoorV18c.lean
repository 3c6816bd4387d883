/-
  The walk of the reference's record: some truth value comes back.
-/
import Derived.Test.YteagecjhpfijjaaDoorV14
import Derived.Test.YteagecjhpfijjaaDoorV16
import Derived.Test.YteagecjhpfijjaaDoorO1
import Derived.Deep.RegionHeld3
import Derived.Deep.DeepCutAuto
import Derived.IntWalk
import Derived.Deep.RegionWith
namespace Go.Proofs.YteagecjhpfijjaaDoor
set_option linter.unusedSimpArgs false
set_option linter.unusedVariables false
open Go.RowKit

section
variable {P : Program} {ops : Array Oper} {Q : Exit → Act → World → Prop} {md : Region.Mode} {S : World → Prop}
theorem takeA {i : Nat} {oi : Oper} {v : Value} {fuel : Nat} {listed : Array Bool} {a : Act} {w : World} (d : Tmp) (hi : ops[i]? = some oi) (hd : oi.dst = some d)
    (hs : Region.noSelect ops = true) (hf : Region.free md ops listed i = true) (hr : (Region.ready md ops listed).contains i = true)
    (hQ : ∀ c a w, Q (.panic c) (a.put (some d) v) w → Q (.panic c) a w) (hy : Yields P ops oi v a)
    (h : wpAny P md ops Q fuel (listed.setIfInBounds i true) (a.put (some d) v) w) : wpAny P md ops Q (fuel + 1) listed a w :=
  wpAny_take hi hs hf hr (by rw [hd]; exact hQ) hy (by rw [hd]; exact h)
theorem takeH {i : Nat} {oi : Oper} {v : Value} {fuel : Nat} {listed : Array Bool} {a : Act} {w : World} (d : Tmp) (hi : ops[i]? = some oi) (hd : oi.dst = some d)
    (hs : Region.noSelect ops = true) (hf : Region.free md ops listed i = true) (hr : (Region.ready md ops listed).contains i = true)
    (hQ : ∀ c a w, Q (.panic c) (a.put (some d) v) w → Q (.panic c) a w) (hy : YieldsIf P ops S oi v a) (hS : S w)
    (h : wpAnyH P md ops Q S fuel (listed.setIfInBounds i true) (a.put (some d) v) w) : wpAnyH P md ops Q S (fuel + 1) listed a w :=
  wpAnyH_take hi hs hf hr (by rw [hd]; exact hQ) hy hS (by rw [hd]; exact h)
end
theorem rec_prev {w' : World} {b o i g r : Nat} {A : Option Addr} {y x : Rc} {g1 k : Nat} (c : w'.cell? ⟨g1, 4, none⟩ = some (.slice A r k)) (a : AtC w' b (o + (i - 1) * 6) y) (b' : AtC w' g 0 x) : w'.cell? ⟨g1, 4, none⟩ = some (.slice A r k) ∧ w'.cell? ⟨b, o + (i - 1) * 6, none⟩ = some (.string y.frm) ∧ w'.cell? ⟨b, o + (i - 1) * 6 + 1, none⟩ = some (.int .i64 y.fst) ∧ w'.cell? ⟨b, o + (i - 1) * 6 + 2, none⟩ = some (.int .i64 y.lst) ∧ w'.cell? ⟨b, o + (i - 1) * 6 + 3, none⟩ = some (.string y.dst) ∧ w'.cell? ⟨b, o + (i - 1) * 6 + 4, none⟩ = some (.int .i64 y.num) ∧ w'.cell? ⟨b, o + (i - 1) * 6 + 5, none⟩ = some (.int .i64 y.how) ∧ w'.cell? ⟨g, 0, none⟩ = some (.string x.frm) ∧ w'.cell? ⟨g, 1, none⟩ = some (.int .i64 x.fst) ∧ w'.cell? ⟨g, 2, none⟩ = some (.int .i64 x.lst) ∧ w'.cell? ⟨g, 3, none⟩ = some (.string x.dst) ∧ w'.cell? ⟨g, 4, none⟩ = some (.int .i64 x.num) ∧ w'.cell? ⟨g, 5, none⟩ = some (.int .i64 x.how) :=
  ⟨c, a.1, a.2.1, a.2.2.1, a.2.2.2.1, a.2.2.2.2.1, a.2.2.2.2.2, b'.1, b'.2.1, b'.2.2.1, b'.2.2.2.1, b'.2.2.2.2.1, b'.2.2.2.2.2⟩
theorem reads25 {w' : World} {g0 gv g5 : Nat} {a0 a1 f0 f1 : Value} {v : Rv} (a : w'.cell? ⟨g0, 0, none⟩ = some a0 ∧ w'.cell? ⟨g0, 1, none⟩ = some a1) (b : At12 w' gv 0 v) (c : w'.cell? ⟨g5, 0, none⟩ = some f0 ∧ w'.cell? ⟨g5, 1, none⟩ = some f1) :
    w'.cell? ⟨g0, 0, none⟩ = some (a0) ∧ w'.cell? ⟨g0, 1, none⟩ = some (a1) ∧ w'.cell? ⟨gv, 0, none⟩ = some (.string v.path) ∧ w'.cell? ⟨gv, 1, none⟩ = some (.int .i64 v.num) ∧ w'.cell? ⟨gv, 2, none⟩ = some (.int .i64 v.chg) ∧ w'.cell? ⟨gv, 3, none⟩ = some (.int .i64 v.act) ∧ w'.cell? ⟨gv, 4, none⟩ = some (.int .i64 v.ty.1) ∧ w'.cell? ⟨gv, 5, none⟩ = some (.bool v.ty.2.1) ∧ w'.cell? ⟨gv, 6, none⟩ = some (.bool v.ty.2.2.1) ∧ w'.cell? ⟨gv, 7, none⟩ = some (.bool v.ty.2.2.2) ∧ w'.cell? ⟨gv, 8, none⟩ = some (.int .u64 v.cid.1) ∧ w'.cell? ⟨gv, 9, none⟩ = some (.int .i64 v.cid.2) ∧ w'.cell? ⟨gv, 10, none⟩ = some (.string v.frm) ∧ w'.cell? ⟨gv, 11, none⟩ = some (.int .i64 v.fnum) ∧ w'.cell? ⟨g5, 0, none⟩ = some (f0) ∧ w'.cell? ⟨g5, 1, none⟩ = some (f1) := by
  obtain ⟨b0, b1, b2, b3, b4, b5, b6, b7, b8, b9, b10, b11⟩ := b
  exact ⟨a.1, a.2, b0, b1, b2, b3, b4, b5, b6, b7, b8, b9, b10, b11, c.1, c.2⟩
theorem reads28 {w' : World} {g0 g1 g3 : Nat} {a0 a1 k0 k1 k2 k3 k4 : Value} {t : Ed} (a : w'.cell? ⟨g0, 0, none⟩ = some a0 ∧ w'.cell? ⟨g0, 1, none⟩ = some a1) (k : w'.cell? ⟨g1, 0, none⟩ = some (k0) ∧ w'.cell? ⟨g1, 1, none⟩ = some (k1) ∧ w'.cell? ⟨g1, 2, none⟩ = some (k2) ∧ w'.cell? ⟨g1, 3, none⟩ = some (k3) ∧ w'.cell? ⟨g1, 4, none⟩ = some (k4)) (b : AtE w' g3 0 t) :
    w'.cell? ⟨g0, 0, none⟩ = some (a0) ∧ w'.cell? ⟨g0, 1, none⟩ = some (a1) ∧ w'.cell? ⟨g1, 0, none⟩ = some (k0) ∧ w'.cell? ⟨g1, 1, none⟩ = some (k1) ∧ w'.cell? ⟨g1, 2, none⟩ = some (k2) ∧ w'.cell? ⟨g1, 3, none⟩ = some (k3) ∧ w'.cell? ⟨g1, 4, none⟩ = some (k4) ∧ w'.cell? ⟨g3, 0, none⟩ = some (.string t.path) ∧ w'.cell? ⟨g3, 1, none⟩ = some (.int .i64 t.act) ∧ w'.cell? ⟨g3, 2, none⟩ = some (.int .i64 t.ty.1) ∧ w'.cell? ⟨g3, 3, none⟩ = some (.bool t.ty.2.1) ∧ w'.cell? ⟨g3, 4, none⟩ = some (.bool t.ty.2.2.1) ∧ w'.cell? ⟨g3, 5, none⟩ = some (.bool t.ty.2.2.2) ∧ w'.cell? ⟨g3, 6, none⟩ = some (.int .u64 t.cid.1) ∧ w'.cell? ⟨g3, 7, none⟩ = some (.int .i64 t.cid.2) ∧ w'.cell? ⟨g3, 8, none⟩ = some (.int .i64 t.base) ∧ w'.cell? ⟨g3, 9, none⟩ = some (.string t.frm) ∧ w'.cell? ⟨g3, 10, none⟩ = some (.int .i64 t.fnum) ∧ w'.cell? ⟨g3, 11, none⟩ = some (.int .i64 t.fence) := by
  obtain ⟨b0, b1, b2, b3, b4, b5, b6, b7, b8, b9, b10, b11⟩ := b
  obtain ⟨q0, q1, q2, q3, q4⟩ := k
  exact ⟨a.1, a.2, q0, q1, q2, q3, q4, b0, b1, b2, b3, b4, b5, b6, b7, b8, b9, b10, b11⟩
/-- an edit of zeros -/
def ed0 : Ed := ⟨⟨#[]⟩, 0, (0, false, false, false), (0, 0), 0, ⟨#[]⟩, 0, 0⟩
theorem BB.put12 {w w' : World} {l : List (Nat × List Value)} {g : Nat} {cs : List Value} (h : BB w (l ++ [(g, cs)]) w') (hl : cs.length = 12) (hd : ∀ p ∈ l, p.1 ≠ g) (hB : w.heap.size ≤ g) (y0 y1 y2 y3 y4 y5 y6 y7 y8 y9 y10 y11 : Value) :
    BB w (l ++ [(g, [y0, y1, y2, y3, y4, y5, y6, y7, y8, y9, y10, y11])]) ((((((((((((w'.setCell ⟨g, 0, none⟩ y0).setCell ⟨g, 1, none⟩ y1).setCell ⟨g, 2, none⟩ y2).setCell ⟨g, 3, none⟩ y3).setCell ⟨g, 4, none⟩ y4).setCell ⟨g, 5, none⟩ y5).setCell ⟨g, 6, none⟩ y6).setCell ⟨g, 7, none⟩ y7).setCell ⟨g, 8, none⟩ y8).setCell ⟨g, 9, none⟩ y9).setCell ⟨g, 10, none⟩ y10).setCell ⟨g, 11, none⟩ y11) :=
  ⟨fun p hp => by
    rcases List.mem_append.1 hp with hp | hp
    · exact (h.1 p (List.mem_append_left _ hp)).other12 (fun e => hd p hp e.symm) _ _ _ _ _ _ _ _ _ _ _ _
    · rw [List.mem_singleton.1 hp]
      exact (h.1 (g, cs) (List.mem_append_right _ (List.mem_singleton.2 rfl))).put12 hl _ _ _ _ _ _ _ _ _ _ _ _, below12 h.2 hB _ _ _ _ _ _ _ _ _ _ _ _⟩
theorem BB.other12 {w w' : World} {l : List (Nat × List Value)} {g : Nat} (h : BB w l w') (hd : ∀ p ∈ l, p.1 ≠ g) (hB : w.heap.size ≤ g) (y0 y1 y2 y3 y4 y5 y6 y7 y8 y9 y10 y11 : Value) :
    BB w l ((((((((((((w'.setCell ⟨g, 0, none⟩ y0).setCell ⟨g, 1, none⟩ y1).setCell ⟨g, 2, none⟩ y2).setCell ⟨g, 3, none⟩ y3).setCell ⟨g, 4, none⟩ y4).setCell ⟨g, 5, none⟩ y5).setCell ⟨g, 6, none⟩ y6).setCell ⟨g, 7, none⟩ y7).setCell ⟨g, 8, none⟩ y8).setCell ⟨g, 9, none⟩ y9).setCell ⟨g, 10, none⟩ y10).setCell ⟨g, 11, none⟩ y11) :=
  ⟨fun p hp => (h.1 p hp).other12 (fun e => hd p hp e.symm) _ _ _ _ _ _ _ _ _ _ _ _, below12 h.2 hB _ _ _ _ _ _ _ _ _ _ _ _⟩
theorem BB.tgt {w w' : World} {a b c : Nat × List Value} {g : Nat} {t : Ed} (y : Ed) (h : BB w [a, b, c, (g, edV t)] w') (hd : ∀ p ∈ [a, b, c], p.1 ≠ g) (hB : w.heap.size ≤ g) :
    BB w [a, b, c, (g, edV y)] ((((((((((((w'.setCell ⟨g, 0, none⟩ (.string y.path)).setCell ⟨g, 1, none⟩ (.int .i64 y.act)).setCell ⟨g, 2, none⟩ (.int .i64 y.ty.1)).setCell ⟨g, 3, none⟩ (.bool y.ty.2.1)).setCell ⟨g, 4, none⟩ (.bool y.ty.2.2.1)).setCell ⟨g, 5, none⟩ (.bool y.ty.2.2.2)).setCell ⟨g, 6, none⟩ (.int .u64 y.cid.1)).setCell ⟨g, 7, none⟩ (.int .i64 y.cid.2)).setCell ⟨g, 8, none⟩ (.int .i64 y.base)).setCell ⟨g, 9, none⟩ (.string y.frm)).setCell ⟨g, 10, none⟩ (.int .i64 y.fnum)).setCell ⟨g, 11, none⟩ (.int .i64 y.fence)) :=
  BB.put12 (l := [a, b, c]) (cs := edV t) h rfl hd hB _ _ _ _ _ _ _ _ _ _ _ _
theorem BB.al {w w' : World} {l : List (Nat × List Value)} (h : BB w l w') (o : Obj) : BB w l (w'.alloc o) := BB.kept w l _ _ h (below_alloc _ _)
/-- the region with which a piece of code begins -/
def lmR : Code → Option Nat
  | .region i _ _ => some i
  | .seq a _ => lmR a
  | .block _ c => lmR c
  | .scope c => lmR c
  | .loop c => lmR c
  | _ => none
/-- the greatest piece that begins with a region -/
def atR_ (r : Nat) : Code → Option Code
  | .region i o b => if i = r then some (.region i o b) else none
  | .seq a b => if lmR a = some r then some (.seq a b) else match atR_ r a with | some c => some c | none => atR_ r b
  | .block i c => if lmR c = some r then some (.block i c) else atR_ r c
  | .scope c => if lmR c = some r then some (.scope c) else atR_ r c
  | .loop c => if lmR c = some r then some (.loop c) else atR_ r c
  | .cond t a b => match atR_ r a with | some c => some c | none => atR_ r b
  | _ => none
def cfst : Code → Code
  | .seq a _ => a
  | c => c
def csnd : Code → Code
  | .seq _ b => b
  | c => c
noncomputable def recAt (r : Nat) : Code := ((Tryd.f52.body).bind (atR_ r)).getD .skip
end Go.Proofs.YteagecjhpfijjaaDoor

