/-
  Rows whose elements are any number of cells: of the call's own, and as they lie in the world; lists of lists of texts, hunks, numbers.
-/
import Derived.Test.YteagecjhpfijjaaDoorM0
namespace Go.Proofs.YteagecjhpfijjaaDoor
set_option linter.unusedSimpArgs false
set_option linter.unusedVariables false
open Go.RowKit Go.WideShapes

/-- rows of cells lie in the world -/
def RR (w : World) (A : Option Addr) (c size : Nat) (rows : List (List Value)) : Prop :=
  rows.length ≤ c ∧ c ≤ 9223372036854775807 ∧ (0 < rows.length → ∃ b o, A = some ⟨b, o, none⟩ ∧ b < w.heap.size ∧ ∀ (j : Nat) (r : List Value), rows[j]? = some r → ∀ (i : Nat) (u : Value), r[i]? = some u → w.cell? ⟨b, o + j * size + i, none⟩ = some u)
theorem RR.nil (w : World) (A : Option Addr) (c size : Nat) (h : c ≤ 9223372036854775807) : RR w A c size [] := ⟨Nat.zero_le _, h, fun h => absurd h (Nat.lt_irrefl 0)⟩
theorem RR.below {w w' : World} {A : Option Addr} {c size : Nat} {rows : List (List Value)} (h : RR w A c size rows) (hb : Below w.heap.size w w') : RR w' A c size rows :=
  ⟨h.1, h.2.1, fun h0 => by
    obtain ⟨b, o, e, hlt, hc⟩ := h.2.2 h0
    exact ⟨b, o, e, Nat.lt_of_lt_of_le hlt hb.size, fun j r hj i u hu => (hb.cell (p := ⟨b, o + j * size + i, none⟩) hlt).trans (hc j r hj i u hu)⟩⟩
theorem kept_rr (A : Option Addr) (c size : Nat) (rows : List (List Value)) : Kept (fun w => RR w A c size rows) := fun w w' h hb => h.below hb

/-- v is a row of the call's own (blocks from base on) and holds the elements rows -/
def OR (w : World) (base : Nat) (E : TypeId) (size : Nat) (v : Value) (rows : List (List Value)) : Prop := w.ownsRow base E size v rows.length rows.flatten ∧ ∀ r ∈ rows, r.length = size
theorem OR.nil (w : World) (base : Nat) (E : TypeId) (size : Nat) : OR w base E size (.slice none 0 0) [] := ⟨⟨by simp, .inl ⟨rfl, rfl⟩⟩, fun r h => by cases h⟩
theorem OR.own {w : World} {base : Nat} {E : TypeId} {size : Nat} {v : Value} {rows : List (List Value)} (h : OR w base E size v rows) : ∀ k, v.ownBlock = some k → base ≤ k ∧ k < w.heap.size := h.1.lt
theorem OR.below {w w' : World} {base : Nat} {E : TypeId} {size : Nat} {v : Value} {rows : List (List Value)} (h : OR w base E size v rows) (hb : Below w.heap.size w w') : OR w' base E size v rows := by
  refine ⟨⟨h.1.1, ?_⟩, h.2⟩
  rcases h.1.2 with ⟨rfl, hn⟩ | ⟨g, cap, cur, rfl, hbg, hh, hrest⟩
  · exact .inl ⟨rfl, hn⟩
  · refine .inr ⟨g, cap, cur, rfl, hbg, ?_, hrest⟩
    rw [hb.block g ?_]
    · exact hh
    · rcases Nat.lt_or_ge g w.heap.size with h1 | h1
      · exact h1
      · rw [Array.getElem?_eq_none h1] at hh; cases hh
theorem OR.other {w : World} {base : Nat} {E : TypeId} {size : Nat} {v : Value} {rows : List (List Value)} (h : OR w base E size v rows) {p : Addr} (hp : v.ownBlock ≠ some p.block) (u : Value) : OR (w.setCell p u) base E size v rows := by
  refine ⟨⟨h.1.1, ?_⟩, h.2⟩
  rcases h.1.2 with ⟨rfl, hn⟩ | ⟨g, cap, cur, rfl, hbg, hh, hrest⟩
  · exact .inl ⟨rfl, hn⟩
  · refine .inr ⟨g, cap, cur, rfl, hbg, ?_, hrest⟩
    rw [heap_setCell_other _ _ _ _ (by intro e; exact hp (by rw [← e]; rfl))]
    exact hh
theorem flat_at {size : Nat} : ∀ {rows : List (List Value)}, (∀ r ∈ rows, r.length = size) → ∀ (j : Nat) (r : List Value), rows[j]? = some r → ∀ (i : Nat) (u : Value), r[i]? = some u → rows.flatten[j * size + i]? = some u
  | [], _, j, r, h, i, u, hu => by simp at h
  | q :: rows, hs, 0, r, h, i, u, hu => by
    have : q = r := by simpa using h
    subst this
    rw [List.flatten_cons, Nat.zero_mul, Nat.zero_add, List.getElem?_append_left (List.getElem?_eq_some_iff.1 hu).1]
    exact hu
  | q :: rows, hs, j + 1, r, h, i, u, hu => by
    have hq := hs q List.mem_cons_self
    have ih := flat_at (fun x hx => hs x (List.mem_cons_of_mem _ hx)) j r (by simpa using h) i u hu
    rw [List.flatten_cons, List.getElem?_append_right (by rw [hq, Nat.succ_mul]; omega), hq, ← ih]
    congr 1
    rw [Nat.succ_mul]
    omega
theorem flat_len {size : Nat} : ∀ {rows : List (List Value)}, (∀ r ∈ rows, r.length = size) → rows.flatten.length = rows.length * size
  | [], _ => by simp
  | q :: rows, hs => by
    rw [List.flatten_cons, List.length_append, hs q List.mem_cons_self, flat_len (fun x hx => hs x (List.mem_cons_of_mem _ hx)), List.length_cons, Nat.succ_mul]
    omega
theorem OR.read {w : World} {base : Nat} {E : TypeId} {size : Nat} {v : Value} {rows : List (List Value)} (h : OR w base E size v rows) : ∃ A c, v = .slice A rows.length c ∧ RR w A c size rows := by
  obtain ⟨⟨hl, h⟩, hs⟩ := h
  rcases h with ⟨rfl, hn⟩ | ⟨g, cap, cur, rfl, hbg, hh, hnc, hcm, hcs, htk⟩
  · have : rows = [] := List.eq_nil_of_length_eq_zero hn
    subst this
    exact ⟨none, 0, rfl, RR.nil w none 0 size (by omega)⟩
  · refine ⟨_, _, rfl, hnc, by simpa [maxLen] using hcm, fun h0 => ⟨g, 0, rfl, ?_, fun j r hj i u hu => ?_⟩⟩
    · rcases Nat.lt_or_ge g w.heap.size with h1 | h1
      · exact h1
      · rw [Array.getElem?_eq_none h1] at hh; cases hh
    · have e := flat_at hs j r hj i u hu
      have hlt : j * size + i < rows.length * size := by rw [← flat_len hs]; exact (List.getElem?_eq_some_iff.1 e).1
      rw [← htk, List.getElem?_take, if_pos hlt] at e
      have : (⟨g, 0 + j * size + i, none⟩ : Addr) = ⟨g, j * size + i, none⟩ := by simp
      rw [this, cell_of_row w g _ cur _ (0, 0) hh]
      simpa using e

section
variable {P : Program} {S E : TypeId} {i : TypeInfo} {z : Value} {size bytes : Nat}
theorem run_append_row (hu : P.underlying S = some (.slice E)) (hi : P.info? E = some i) (hz : i.zero = some z) (hs : i.size = size) (hby : i.bytes = bytes) (hzs : z.cells.size = size) (hsz : 0 < size) (hb8 : bytes ≤ 100000000)
    (w : World) (base : Nat) (v : Value) (rows : List (List Value)) (r : List Value) (b c : Nat) (ty : TypeId) (hown : OR w base E size v rows) (hr : r.length = size) (hcells : ∀ (k : Nat) (u : Value), r[k]? = some u → w.cell? ⟨b, k, none⟩ = some u) (h1 : ∀ u ∈ r, u.oneCell' = true)
    (hlen : rows.length + 1 ≤ 1000000) (hbase : base ≤ w.heap.size) :
    ∃ v' w', (Builtin.append_ #[S, S] ty #[v, .slice (some ⟨b, 0, none⟩) 1 c]).run P w = .ok v' w' ∧ OR w' base E size v' (rows ++ [r]) ∧ w.grownBy w' v.ownBlock ∧ (v'.ownBlock = v.ownBlock ∨ v'.ownBlock = some w.heap.size) := by
  obtain ⟨v', w', hrun, h3, h4, _, h5⟩ := run_append_own_at (P := P) w base S ty E i z size bytes hu hi hz hs hby hzs hsz v rows.length rows.flatten hown.1 ⟨b, 0, none⟩ 1 c r
    (by rw [hr, Nat.one_mul]) (fun k u hk => by rw [add_plain]; simpa using hcells k u hk) h1 (by simp only [maxLen]; omega) (by
      have : (rows.length + 1) * bytes ≤ 1000000 * 100000000 := Nat.mul_le_mul hlen hb8
      omega) hbase
  refine ⟨v', w', hrun, ⟨?_, ?_⟩, h4, h5⟩
  · rw [List.length_append, List.flatten_append]
    simpa using h3
  · intro q hq
    rcases List.mem_append.1 hq with hq | hq
    · exact hown.2 q hq
    · rw [List.mem_singleton.1 hq]; exact hr
theorem wp_append_row (hu : P.underlying S = some (.slice E)) (hi : P.info? E = some i) (hz : i.zero = some z) (hs : i.size = size) (hby : i.bytes = bytes) (hzs : z.cells.size = size) (hsz : 0 < size) (hb8 : bytes ≤ 100000000)
    {w : World} {o : Oper} {a : Act} {K : Act → World → Prop} {Q : Exit → Act → World → Prop} (s x : Operand)
    (ho : o.op = .call { callee := .builtin .append, args := #[s, x], argTypes := #[S, S] })
    (base : Nat) (v : Value) (rows : List (List Value)) (r : List Value) (b c : Nat) (hs' : a.eval s = v) (hx : a.eval x = .slice (some ⟨b, 0, none⟩) 1 c) (hown : OR w base E size v rows) (hr : r.length = size) (hcells : ∀ (k : Nat) (u : Value), r[k]? = some u → w.cell? ⟨b, k, none⟩ = some u) (h1 : ∀ u ∈ r, u.oneCell' = true)
    (hlen : rows.length + 1 ≤ 1000000) (hbase : base ≤ w.heap.size)
    (h : ∀ v' w', OR w' base E size v' (rows ++ [r]) → w.grownBy w' v.ownBlock → (v'.ownBlock = v.ownBlock ∨ v'.ownBlock = some w.heap.size) → K (a.put o.dst v') w') : o.wp P a w K Q := by
  obtain ⟨v', w', hrun, h2, h3, h4⟩ := run_append_row hu hi hz hs hby hzs hsz hb8 w base v rows r b c o.type hown hr hcells h1 hlen hbase
  unfold Oper.wp execOp
  simp only [ho, resolve, invoke, builtin, Sem.run_bind, Sem.run_pure, Result.andThen_ok, List.map_toArray, List.map_cons, List.map_nil, hs', hx, hrun]
  exact h v' w' h2 h3 h4
theorem wpList_append_row (hu : P.underlying S = some (.slice E)) (hi : P.info? E = some i) (hz : i.zero = some z) (hs : i.size = size) (hby : i.bytes = bytes) (hzs : z.cells.size = size) (hsz : 0 < size) (hb8 : bytes ≤ 100000000)
    {w : World} {ops : Array Oper} {rest : List Oper} {o : Oper} {a : Act} {Q : Exit → Act → World → Prop} (hgd : o.guard = none) (s x : Operand)
    (ho : o.op = .call { callee := .builtin .append, args := #[s, x], argTypes := #[S, S] })
    (base : Nat) (v : Value) (rows : List (List Value)) (r : List Value) (b c : Nat) (hs' : a.eval s = v) (hx : a.eval x = .slice (some ⟨b, 0, none⟩) 1 c) (hown : OR w base E size v rows) (hr : r.length = size) (hcells : ∀ (k : Nat) (u : Value), r[k]? = some u → w.cell? ⟨b, k, none⟩ = some u) (h1 : ∀ u ∈ r, u.oneCell' = true)
    (hlen : rows.length + 1 ≤ 1000000) (hbase : base ≤ w.heap.size)
    (h : ∀ v' w', OR w' base E size v' (rows ++ [r]) → w.grownBy w' v.ownBlock → (v'.ownBlock = v.ownBlock ∨ v'.ownBlock = some w.heap.size) → wpList P ops Q rest (a.put o.dst v') w') : wpList P ops Q (o :: rest) a w :=
  wpList_plain hgd fun _ hK => wp_append_row hu hi hz hs hby hzs hsz hb8 s x ho base v rows r b c hs' hx hown hr hcells h1 hlen hbase fun v' w' h2 h3 h4 => hK _ _ (h v' w' h2 h3 h4)
theorem step_append_row (hu : P.underlying S = some (.slice E)) (hi : P.info? E = some i) (hz : i.zero = some z) (hs : i.size = size) (hby : i.bytes = bytes) (hzs : z.cells.size = size) (hsz : 0 < size) (hb8 : bytes ≤ 100000000)
    {w : World} {ops : Array Oper} {o : Oper} {a : Act} {K : Act → World → Prop} {Q : Exit → Act → World → Prop} {G : Prop} (hgd : o.guard = none) (s x : Operand)
    (ho : o.op = .call { callee := .builtin .append, args := #[s, x], argTypes := #[S, S] })
    (base : Nat) (v : Value) (rows : List (List Value)) (r : List Value) (b c : Nat) (hs' : a.eval s = v) (hx : a.eval x = .slice (some ⟨b, 0, none⟩) 1 c) (hown : OR w base E size v rows) (hr : r.length = size) (hcells : ∀ (k : Nat) (u : Value), r[k]? = some u → w.cell? ⟨b, k, none⟩ = some u) (h1 : ∀ u ∈ r, u.oneCell' = true)
    (hlen : rows.length + 1 ≤ 1000000) (hbase : base ≤ w.heap.size)
    (h : ∀ v' w', OR w' base E size v' (rows ++ [r]) → w.grownBy w' v.ownBlock → (v'.ownBlock = v.ownBlock ∨ v'.ownBlock = some w.heap.size) → K (a.put o.dst v') w') :
    if Region.wanted o (yielded ops a.tmps) = true then Oper.wp P o a w K Q else G := by
  have hw : Region.wanted o (yielded ops a.tmps) = true := by simp [Region.wanted, hgd]
  rw [if_pos hw]
  exact wp_append_row hu hi hz hs hby hzs hsz hb8 s x ho base v rows r b c hs' hx hown hr hcells h1 hlen hbase h
end

/-- a slice of numbers -/
def RI (w : World) (A : Option Addr) (c : Nat) (ns : List Int) : Prop := RR w A c 1 (ns.map fun n => [.int .i64 n])
theorem RI.below {w w' : World} {A : Option Addr} {c : Nat} {ns : List Int} (h : RI w A c ns) (hb : Below w.heap.size w w') : RI w' A c ns := RR.below h hb
theorem RI.at_ {w : World} {A : Option Addr} {c : Nat} {ns : List Int} (h : RI w A c ns) : ns.length ≤ c ∧ c ≤ 9223372036854775807 ∧ (0 < ns.length → ∃ b o, A = some ⟨b, o, none⟩ ∧ b < w.heap.size ∧ ∀ (j : Nat) (n : Int), ns[j]? = some n → w.cell? ⟨b, o + j, none⟩ = some (.int .i64 n)) := by
  obtain ⟨h1, h2, h3⟩ := h
  rw [List.length_map] at h1 h3
  refine ⟨h1, h2, fun h0 => ?_⟩
  obtain ⟨b, o, e, hlt, hc⟩ := h3 h0
  refine ⟨b, o, e, hlt, fun j n hj => ?_⟩
  have := hc j [.int .i64 n] (by rw [List.getElem?_map, hj]; rfl) 0 (.int .i64 n) rfl
  simpa using this
/-- a slice of slices of texts -/
def LT (w : World) (A : Option Addr) (c : Nat) (ls : List (List ByteArray)) : Prop :=
  ls.length ≤ c ∧ c ≤ 9223372036854775807 ∧ (0 < ls.length → ∃ b o, A = some ⟨b, o, none⟩ ∧ b < w.heap.size ∧ ∀ (j : Nat) (xs : List ByteArray), ls[j]? = some xs → ∃ C n, w.cell? ⟨b, o + j, none⟩ = some (.slice C xs.length n) ∧ RT w C n xs)
theorem LT.below {w w' : World} {A : Option Addr} {c : Nat} {ls : List (List ByteArray)} (h : LT w A c ls) (hb : Below w.heap.size w w') : LT w' A c ls :=
  ⟨h.1, h.2.1, fun h0 => by
    obtain ⟨b, o, e, hlt, hc⟩ := h.2.2 h0
    refine ⟨b, o, e, Nat.lt_of_lt_of_le hlt hb.size, fun j xs hj => ?_⟩
    obtain ⟨C, n, h1, h2⟩ := hc j xs hj
    exact ⟨C, n, (hb.cell (p := ⟨b, o + j, none⟩) hlt).trans h1, h2.below hb⟩⟩
theorem kept_lt (A : Option Addr) (c : Nat) (ls : List (List ByteArray)) : Kept (fun w => LT w A c ls) := fun w w' h hb => h.below hb
/-- a slice of hunks: from, to, lines -/
def HT (w : World) (A : Option Addr) (c : Nat) (hs : List (Int × Int × List ByteArray)) : Prop :=
  hs.length ≤ c ∧ c ≤ 9223372036854775807 ∧ (0 < hs.length → ∃ b o, A = some ⟨b, o, none⟩ ∧ b < w.heap.size ∧ ∀ (j : Nat) (h : Int × Int × List ByteArray), hs[j]? = some h → ∃ C n, w.cell? ⟨b, o + j * 3, none⟩ = some (.int .i64 h.1) ∧ w.cell? ⟨b, o + j * 3 + 1, none⟩ = some (.int .i64 h.2.1) ∧ w.cell? ⟨b, o + j * 3 + 2, none⟩ = some (.slice C h.2.2.length n) ∧ RT w C n h.2.2)
theorem HT.below {w w' : World} {A : Option Addr} {c : Nat} {hs : List (Int × Int × List ByteArray)} (h : HT w A c hs) (hb : Below w.heap.size w w') : HT w' A c hs :=
  ⟨h.1, h.2.1, fun h0 => by
    obtain ⟨b, o, e, hlt, hc⟩ := h.2.2 h0
    refine ⟨b, o, e, Nat.lt_of_lt_of_le hlt hb.size, fun j xs hj => ?_⟩
    obtain ⟨C, n, h1, h2, h3, h4⟩ := hc j xs hj
    exact ⟨C, n, (hb.cell (p := ⟨b, o + j * 3, none⟩) hlt).trans h1, (hb.cell (p := ⟨b, o + j * 3 + 1, none⟩) hlt).trans h2, (hb.cell (p := ⟨b, o + j * 3 + 2, none⟩) hlt).trans h3, h4.below hb⟩⟩
theorem kept_ht (A : Option Addr) (c : Nat) (hs : List (Int × Int × List ByteArray)) : Kept (fun w => HT w A c hs) := fun w w' h hb => h.below hb
end Go.Proofs.YteagecjhpfijjaaDoor

