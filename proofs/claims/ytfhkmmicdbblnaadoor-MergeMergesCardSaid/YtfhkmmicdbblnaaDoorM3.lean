/-
  Rows of fields: a field is a value, or a slice that reads as a row of cells; as they lie in the world, and of the call's own.
-/
import Derived.Test.YtfhkmmicdbblnaaDoorM1
namespace Go.Proofs.YtfhkmmicdbblnaaDoor
set_option linter.unusedSimpArgs false
set_option linter.unusedVariables false
open Go.RowKit Go.WideShapes

/-- the row of cells does not lie in the block -/
def Off (k : Option Nat) (A : Option Addr) (n : Nat) : Prop := 0 < n → ∀ p, A = some p → k ≠ some p.block
/-- a slice of one-cell values that lies in the world -/
def RC (w : World) (A : Option Addr) (c : Nat) (vs : List Value) : Prop :=
  vs.length ≤ c ∧ c ≤ 9223372036854775807 ∧ (0 < vs.length → ∃ b o, A = some ⟨b, o, none⟩ ∧ b < w.heap.size ∧ ∀ (j : Nat) (u : Value), vs[j]? = some u → w.cell? ⟨b, o + j, none⟩ = some u)
theorem RC.nil (w : World) (A : Option Addr) (c : Nat) (h : c ≤ 9223372036854775807) : RC w A c [] := ⟨Nat.zero_le _, h, fun h => absurd h (Nat.lt_irrefl 0)⟩
theorem RC.below {w w' : World} {A : Option Addr} {c : Nat} {vs : List Value} (h : RC w A c vs) (hb : Below w.heap.size w w') : RC w' A c vs :=
  ⟨h.1, h.2.1, fun h0 => by
    obtain ⟨b, o, e, hlt, hc⟩ := h.2.2 h0
    exact ⟨b, o, e, Nat.lt_of_lt_of_le hlt hb.size, fun j u hu => (hb.cell (p := ⟨b, o + j, none⟩) hlt).trans (hc j u hu)⟩⟩
theorem kept_rc (A : Option Addr) (c : Nat) (vs : List Value) : Kept (fun w => RC w A c vs) := fun w w' h hb => h.below hb
theorem RC.grown {w w' : World} {A : Option Addr} {c : Nat} {vs : List Value} {k : Option Nat} (h : RC w A c vs) (hg : w.grownBy w' k) (ho : Off k A vs.length) : RC w' A c vs :=
  ⟨h.1, h.2.1, fun h0 => by
    obtain ⟨b, o, e, hlt, hc⟩ := h.2.2 h0
    exact ⟨b, o, e, Nat.lt_of_lt_of_le hlt hg.size, fun j u hu => (World.cell?_of_block (hg.block b hlt (fun e2 => ho h0 _ e e2.symm))).trans (hc j u hu)⟩⟩
theorem RC.other {w : World} {A : Option Addr} {c : Nat} {vs : List Value} (h : RC w A c vs) {p : Addr} (ho : Off (some p.block) A vs.length) (u : Value) : RC (w.setCell p u) A c vs :=
  ⟨h.1, h.2.1, fun h0 => by
    obtain ⟨b, o, e, hlt, hc⟩ := h.2.2 h0
    refine ⟨b, o, e, by simpa [World.setCell] using hlt, fun j x hx => ?_⟩
    rw [World.cell?_setCell_other]
    · exact hc j x hx
    · rintro rfl
      exact ho h0 _ e rfl⟩
theorem RC.lt {w : World} {A : Option Addr} {c : Nat} {vs : List Value} (h : RC w A c vs) : Off (some w.heap.size) A vs.length := fun h0 p hp e => by
  obtain ⟨b, o, e2, hlt, _⟩ := h.2.2 h0
  rw [e2] at hp
  cases hp
  have : w.heap.size = b := Option.some.inj e
  omega
theorem RT.rc {w : World} {A : Option Addr} {c : Nat} {xs : List ByteArray} (h : RT w A c xs) : RC w A c (xs.map Value.string) :=
  ⟨by rw [List.length_map]; exact h.1, h.2.1, fun h0 => by
    obtain ⟨b, o, e, hlt, hc⟩ := h.2.2 (by simpa using h0)
    refine ⟨b, o, e, hlt, fun j u hu => ?_⟩
    rw [List.getElem?_map] at hu
    obtain ⟨x, hx, rfl⟩ := Option.map_eq_some_iff.1 hu
    exact hc j x hx⟩
theorem RC.rt {w : World} {A : Option Addr} {c : Nat} {xs : List ByteArray} (h : RC w A c (xs.map Value.string)) : RT w A c xs :=
  ⟨by have := h.1; rw [List.length_map] at this; exact this, h.2.1, fun h0 => by
    obtain ⟨b, o, e, hlt, hc⟩ := h.2.2 (by simpa using h0)
    exact ⟨b, o, e, hlt, fun j x hx => hc j (.string x) (by rw [List.getElem?_map, hx]; rfl)⟩⟩
/-- numbers as cells -/
def iV (n : Int) : Value := .int .i64 n
theorem RC.ints {w : World} {A : Option Addr} {c : Nat} {ns : List Int} (h : RC w A c (ns.map iV)) : ns.length ≤ c ∧ c ≤ 9223372036854775807 ∧ (0 < ns.length → ∃ b o, A = some ⟨b, o, none⟩ ∧ b < w.heap.size ∧ ∀ (j : Nat) (n : Int), ns[j]? = some n → w.cell? ⟨b, o + j, none⟩ = some (.int .i64 n)) :=
  ⟨by have := h.1; rw [List.length_map] at this; exact this, h.2.1, fun h0 => by
    obtain ⟨b, o, e, hlt, hc⟩ := h.2.2 (by simpa using h0)
    exact ⟨b, o, e, hlt, fun j n hn => hc j (.int .i64 n) (by rw [List.getElem?_map, hn]; rfl)⟩⟩

/-- two lists, member by member -/
def Rel2 {α β : Type} (R : α → β → Prop) (l : List α) (m : List β) : Prop := l.length = m.length ∧ ∀ (j : Nat) (a : α) (b : β), l[j]? = some a → m[j]? = some b → R a b
theorem Rel2.mono {α β : Type} {R S : α → β → Prop} {l : List α} {m : List β} (h : Rel2 R l m) (hrs : ∀ a b, R a b → S a b) : Rel2 S l m := ⟨h.1, fun j a b ha hb => hrs a b (h.2 j a b ha hb)⟩
theorem Rel2.nil {α β : Type} {R : α → β → Prop} : Rel2 R [] [] := ⟨rfl, fun j a b h => by simp at h⟩
theorem Rel2.cons {α β : Type} {R : α → β → Prop} {a : α} {b : β} {l : List α} {m : List β} (h : R a b) (hl : Rel2 R l m) : Rel2 R (a :: l) (b :: m) :=
  ⟨by rw [List.length_cons, List.length_cons, hl.1], fun j x y hx hy => by
    cases j with
    | zero =>
      have e1 : a = x := by simpa using hx
      have e2 : b = y := by simpa using hy
      rw [← e1, ← e2]; exact h
    | succ j => exact hl.2 j x y (by simpa using hx) (by simpa using hy)⟩
theorem Rel2.snoc {α β : Type} {R : α → β → Prop} {a : α} {b : β} {l : List α} {m : List β} (hl : Rel2 R l m) (h : R a b) : Rel2 R (l ++ [a]) (m ++ [b]) :=
  ⟨by rw [List.length_append, List.length_append, hl.1]; rfl, fun j x y hx hy => by
    rcases Nat.lt_trichotomy j l.length with h1 | h1 | h1
    · rw [List.getElem?_append_left h1] at hx
      rw [List.getElem?_append_left (by rw [← hl.1]; exact h1)] at hy
      exact hl.2 j x y hx hy
    · subst h1
      rw [List.getElem?_append_right (Nat.le_refl _), Nat.sub_self] at hx
      rw [List.getElem?_append_right (by rw [hl.1]; exact Nat.le_refl _), hl.1, Nat.sub_self] at hy
      have e1 : a = x := by simpa using hx
      have e2 : b = y := by simpa using hy
      rw [← e1, ← e2]; exact h
    · rw [List.getElem?_eq_none (by rw [List.length_append]; simp; omega)] at hx
      cases hx⟩
theorem Rel2.at_ {α β : Type} {R : α → β → Prop} {l : List α} {m : List β} (h : Rel2 R l m) {j : Nat} {a : α} (ha : l[j]? = some a) : ∃ b, m[j]? = some b ∧ R a b := by
  have hj : j < m.length := by rw [← h.1]; exact (List.getElem?_eq_some_iff.1 ha).1
  exact ⟨_, List.getElem?_eq_getElem hj, h.2 j a _ ha (List.getElem?_eq_getElem hj)⟩

/-- a field: a value, or a slice that reads as a row of cells -/
inductive Fld where
  | val (v : Value)
  | row (vs : List Value)
/-- the cell u holds the field, and what it leads to does not lie in block k -/
def Fld.is (w : World) (k : Option Nat) : Fld → Value → Prop
  | .val v, u => u = v
  | .row vs, u => ∃ C n, u = .slice C vs.length n ∧ RC w C n vs ∧ Off k C vs.length
theorem Fld.is.below {w w' : World} {k : Option Nat} {f : Fld} {u : Value} (h : f.is w k u) (hb : Below w.heap.size w w') : f.is w' k u := by
  cases f with
  | val v => exact h
  | row vs => obtain ⟨C, n, e, hr, ho⟩ := h; exact ⟨C, n, e, hr.below hb, ho⟩
theorem Fld.is.grown {w w' : World} {k k' : Option Nat} {f : Fld} {u : Value} (h : f.is w k u) (hg : w.grownBy w' k) (hk : k' = k ∨ k' = some w.heap.size) : f.is w' k' u := by
  cases f with
  | val v => exact h
  | row vs =>
    obtain ⟨C, n, e, hr, ho⟩ := h
    refine ⟨C, n, e, hr.grown hg ho, ?_⟩
    rcases hk with rfl | rfl
    · exact ho
    · exact hr.lt
theorem Fld.is.other {w : World} {k : Option Nat} {f : Fld} {u : Value} (h : f.is w k u) {p : Addr} (hk : k = some p.block) (x : Value) : f.is (w.setCell p x) k u := by
  cases f with
  | val v => exact h
  | row vs => obtain ⟨C, n, e, hr, ho⟩ := h; exact ⟨C, n, e, hr.other (hk ▸ ho) x, ho⟩
theorem Fld.is.free {w : World} {k : Option Nat} {f : Fld} {u : Value} (h : f.is w k u) : f.is w none u := by
  cases f with
  | val v => exact h
  | row vs => obtain ⟨C, n, e, hr, ho⟩ := h; exact ⟨C, n, e, hr, fun _ _ _ h => by cases h⟩

/-- a slice of structs that lies in the world, each of `size` fields -/
def RF (w : World) (A : Option Addr) (c size : Nat) (fs : List (List Fld)) : Prop :=
  fs.length ≤ c ∧ c ≤ 9223372036854775807 ∧ (0 < fs.length → ∃ b o, A = some ⟨b, o, none⟩ ∧ b < w.heap.size ∧ ∀ (j : Nat) (f : List Fld), fs[j]? = some f → ∀ (i : Nat) (g : Fld), f[i]? = some g → ∃ u, w.cell? ⟨b, o + j * size + i, none⟩ = some u ∧ g.is w none u)
theorem RF.nil (w : World) (A : Option Addr) (c size : Nat) (h : c ≤ 9223372036854775807) : RF w A c size [] := ⟨Nat.zero_le _, h, fun h => absurd h (Nat.lt_irrefl 0)⟩
theorem RF.below {w w' : World} {A : Option Addr} {c size : Nat} {fs : List (List Fld)} (h : RF w A c size fs) (hb : Below w.heap.size w w') : RF w' A c size fs :=
  ⟨h.1, h.2.1, fun h0 => by
    obtain ⟨b, o, e, hlt, hc⟩ := h.2.2 h0
    refine ⟨b, o, e, Nat.lt_of_lt_of_le hlt hb.size, fun j f hf i g hg => ?_⟩
    obtain ⟨u, h1, h2⟩ := hc j f hf i g hg
    exact ⟨u, (hb.cell (p := ⟨b, o + j * size + i, none⟩) hlt).trans h1, h2.below hb⟩⟩
theorem kept_rf (A : Option Addr) (c size : Nat) (fs : List (List Fld)) : Kept (fun w => RF w A c size fs) := fun w w' h hb => h.below hb

/-- v is a row of the call's own and holds structs of `size` fields -/
def OF (w : World) (base : Nat) (E : TypeId) (size : Nat) (v : Value) (fs : List (List Fld)) : Prop :=
  ∃ rows, OR w base E size v rows ∧ Rel2 (Rel2 (Fld.is w v.ownBlock)) fs rows
theorem OF.nil (w : World) (base : Nat) (E : TypeId) (size : Nat) : OF w base E size (.slice none 0 0) [] := ⟨[], OR.nil w base E size, Rel2.nil⟩
theorem OF.own {w : World} {base : Nat} {E : TypeId} {size : Nat} {v : Value} {fs : List (List Fld)} (h : OF w base E size v fs) : ∀ k, v.ownBlock = some k → base ≤ k ∧ k < w.heap.size := by
  obtain ⟨rows, h1, _⟩ := h; exact h1.own
theorem OF.below {w w' : World} {base : Nat} {E : TypeId} {size : Nat} {v : Value} {fs : List (List Fld)} (h : OF w base E size v fs) (hb : Below w.heap.size w w') : OF w' base E size v fs := by
  obtain ⟨rows, h1, h2⟩ := h
  exact ⟨rows, h1.below hb, h2.mono fun _ _ h => h.mono fun _ _ h => h.below hb⟩
theorem kept_of (base : Nat) (E : TypeId) (size : Nat) (v : Value) (fs : List (List Fld)) : Kept (fun w => OF w base E size v fs) := fun w w' h hb => h.below hb
theorem OF.read {w : World} {base : Nat} {E : TypeId} {size : Nat} {v : Value} {fs : List (List Fld)} (h : OF w base E size v fs) : ∃ A c, v = .slice A fs.length c ∧ RF w A c size fs := by
  obtain ⟨rows, h1, h2⟩ := h
  obtain ⟨A, c, e, r1, r2, r3⟩ := h1.read
  refine ⟨A, c, by rw [e, h2.1], by rw [h2.1]; exact r1, r2, fun h0 => ?_⟩
  obtain ⟨b, o, e2, hlt, hc⟩ := r3 (by rw [← h2.1]; exact h0)
  refine ⟨b, o, e2, hlt, fun j f hf i g hg => ?_⟩
  obtain ⟨r, hr, hfr⟩ := h2.at_ hf
  obtain ⟨u, hu, hgu⟩ := hfr.at_ hg
  exact ⟨u, hc j r hr i u hu, hgu.free⟩

section
variable {P : Program} {S E : TypeId} {i : TypeInfo} {z : Value} {size bytes : Nat}
theorem OF.snoc {w w' : World} {base : Nat} {v v' : Value} {fs : List (List Fld)} {f : List Fld} {rows : List (List Value)} {r : List Value} (h2 : Rel2 (Rel2 (Fld.is w v.ownBlock)) fs rows) (hf : Rel2 (Fld.is w v.ownBlock) f r)
    (hown : OR w' base E size v' (rows ++ [r])) (hg : w.grownBy w' v.ownBlock) (hl : v'.ownBlock = v.ownBlock ∨ v'.ownBlock = some w.heap.size) : OF w' base E size v' (fs ++ [f]) :=
  ⟨_, hown, (h2.mono fun _ _ h => h.mono fun _ _ h => h.grown hg hl).snoc (hf.mono fun _ _ h => h.grown hg hl)⟩
theorem wpList_append_fld (hu : P.underlying S = some (.slice E)) (hi : P.info? E = some i) (hz : i.zero = some z) (hs : i.size = size) (hby : i.bytes = bytes) (hzs : z.cells.size = size) (hsz : 0 < size) (hb8 : bytes ≤ 100000000)
    {w : World} {ops : Array Oper} {rest : List Oper} {o : Oper} {a : Act} {Q : Exit → Act → World → Prop} (hgd : o.guard = none) (s x : Operand)
    (ho : o.op = .call { callee := .builtin .append, args := #[s, x], argTypes := #[S, S] })
    (base : Nat) (v : Value) (fs : List (List Fld)) (f : List Fld) (r : List Value) (b c : Nat) (hs' : a.eval s = v) (hx : a.eval x = .slice (some ⟨b, 0, none⟩) 1 c) (hown : OF w base E size v fs) (hr : r.length = size) (hcells : ∀ (k : Nat) (u : Value), r[k]? = some u → w.cell? ⟨b, k, none⟩ = some u) (h1 : ∀ u ∈ r, u.oneCell' = true) (hf : Rel2 (Fld.is w v.ownBlock) f r)
    (hlen : fs.length + 1 ≤ 1000000) (hbase : base ≤ w.heap.size)
    (h : ∀ v' w', OF w' base E size v' (fs ++ [f]) → w.grownBy w' v.ownBlock → (v'.ownBlock = v.ownBlock ∨ v'.ownBlock = some w.heap.size) → wpList P ops Q rest (a.put o.dst v') w') : wpList P ops Q (o :: rest) a w := by
  obtain ⟨rows, hor, h2⟩ := hown
  exact wpList_append_row hu hi hz hs hby hzs hsz hb8 hgd s x ho base v rows r b c hs' hx hor hr hcells h1 (by rw [← h2.1]; exact hlen) hbase fun v' w' k1 k2 k3 => h v' w' (OF.snoc h2 hf k1 k2 k3) k2 k3
theorem step_append_fld (hu : P.underlying S = some (.slice E)) (hi : P.info? E = some i) (hz : i.zero = some z) (hs : i.size = size) (hby : i.bytes = bytes) (hzs : z.cells.size = size) (hsz : 0 < size) (hb8 : bytes ≤ 100000000)
    {w : World} {ops : Array Oper} {o : Oper} {a : Act} {K : Act → World → Prop} {Q : Exit → Act → World → Prop} {G : Prop} (hgd : o.guard = none) (s x : Operand)
    (ho : o.op = .call { callee := .builtin .append, args := #[s, x], argTypes := #[S, S] })
    (base : Nat) (v : Value) (fs : List (List Fld)) (f : List Fld) (r : List Value) (b c : Nat) (hs' : a.eval s = v) (hx : a.eval x = .slice (some ⟨b, 0, none⟩) 1 c) (hown : OF w base E size v fs) (hr : r.length = size) (hcells : ∀ (k : Nat) (u : Value), r[k]? = some u → w.cell? ⟨b, k, none⟩ = some u) (h1 : ∀ u ∈ r, u.oneCell' = true) (hf : Rel2 (Fld.is w v.ownBlock) f r)
    (hlen : fs.length + 1 ≤ 1000000) (hbase : base ≤ w.heap.size)
    (h : ∀ v' w', OF w' base E size v' (fs ++ [f]) → w.grownBy w' v.ownBlock → (v'.ownBlock = v.ownBlock ∨ v'.ownBlock = some w.heap.size) → K (a.put o.dst v') w') :
    if Region.wanted o (yielded ops a.tmps) = true then Oper.wp P o a w K Q else G := by
  obtain ⟨rows, hor, h2⟩ := hown
  exact step_append_row hu hi hz hs hby hzs hsz hb8 hgd s x ho base v rows r b c hs' hx hor hr hcells h1 (by rw [← h2.1]; exact hlen) hbase fun v' w' k1 k2 k3 => h v' w' (OF.snoc h2 hf k1 k2 k3) k2 k3
end

/-- the cells of a new box -/
theorem cells_new (w : World) (cs : List Value) (T : TypeId) {g : Nat} (hg : g = w.heap.size) : ∀ (k : Nat) (u : Value), cs[k]? = some u → (w.alloc (.cells cs.toArray T)).cell? ⟨g, k, none⟩ = some u := by
  subst hg
  intro k u hu
  rw [World.cell?_alloc_new]
  simpa using hu
/-- a row of texts as a field -/
theorem Fld.txt {w : World} {k : Option Nat} {A : Option Addr} {c : Nat} {xs : List ByteArray} (h : RT w A c xs) (ho : Off k A xs.length) : (Fld.row (xs.map Value.string)).is w k (.slice A xs.length c) :=
  ⟨A, c, by rw [List.length_map], h.rc, by rw [List.length_map]; exact ho⟩
theorem Off.new {w : World} {base : Nat} {E : TypeId} {size : Nat} {v : Value} {fs : List (List Fld)} (h : OF w base E size v fs) {A : Option Addr} {n : Nat} (hA : ∀ p, A = some p → w.heap.size ≤ p.block) : Off v.ownBlock A n := fun _ p hp e => by
  have := (h.own _ e).2
  have := hA p hp
  omega
end Go.Proofs.YtfhkmmicdbblnaaDoor

