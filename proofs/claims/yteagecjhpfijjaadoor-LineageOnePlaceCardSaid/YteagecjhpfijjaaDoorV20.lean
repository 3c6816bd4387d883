/-
  Rows appended to a row of the call's own, all at once.
-/
import Derived.Test.YteagecjhpfijjaaDoorV16
import Derived.Laws.AppendOwnNone
namespace Go.Proofs.YteagecjhpfijjaaDoor
set_option linter.unusedSimpArgs false
set_option linter.unusedVariables false
open Go.RowKit Go.WideShapes

theorem flat_of {size : Nat} (hsz : 0 < size) : ∀ {rows : List (List Value)}, (∀ r ∈ rows, r.length = size) → ∀ (j : Nat) (u : Value), rows.flatten[j]? = some u → ∃ r, rows[j / size]? = some r ∧ r[j % size]? = some u
  | [], _, j, u, h => by simp at h
  | q :: rows, hs, j, u, h => by
    have hq := hs q List.mem_cons_self
    rw [List.flatten_cons] at h
    rcases Nat.lt_or_ge j size with hlt | hge
    · rw [List.getElem?_append_left (by omega)] at h
      refine ⟨q, ?_, ?_⟩
      · rw [Nat.div_eq_of_lt hlt]; rfl
      · rw [Nat.mod_eq_of_lt hlt]; exact h
    · rw [List.getElem?_append_right (by omega), hq] at h
      obtain ⟨r, h1, h2⟩ := flat_of hsz (fun x hx => hs x (List.mem_cons_of_mem _ hx)) (j - size) u h
      refine ⟨r, ?_, ?_⟩
      · rw [Nat.div_eq_sub_div hsz hge]
        exact h1
      · rw [Nat.mod_eq_sub_mod hge]
        exact h2
/-- a slice that is nil has no room -/
def NilC (A : Option Addr) (c : Nat) : Prop := A = none → c = 0
section
variable {P : Program} {S E : TypeId} {i : TypeInfo} {z : Value} {size bytes : Nat}
theorem run_append_rows (hu : P.underlying S = some (.slice E)) (hi : P.info? E = some i) (hz : i.zero = some z) (hs : i.size = size) (hby : i.bytes = bytes) (hzs : z.cells.size = size) (hsz : 0 < size) (hb8 : bytes ≤ 100000000)
    (w : World) (base : Nat) (v : Value) (rows more : List (List Value)) (A : Option Addr) (c : Nat) (ty : TypeId) (hown : OR w base E size v rows) (hm : RR w A c size more) (hn : NilC A c) (hl : ∀ r ∈ more, r.length = size) (h1 : ∀ r ∈ more, ∀ u ∈ r, u.oneCell' = true)
    (hlen : rows.length + more.length ≤ 1000000) (hbase : base ≤ w.heap.size) :
    ∃ v' w', (Builtin.append_ #[S, S] ty #[v, .slice A more.length c]).run P w = .ok v' w' ∧ OR w' base E size v' (rows ++ more) ∧ w.grownBy w' v.ownBlock ∧ (v'.ownBlock = v.ownBlock ∨ v'.ownBlock = some w.heap.size) ∧ (rows = [] → more = [] → v = .slice none 0 0 → v' = .slice none 0 0) := by
  have flen := flat_len hl
  have hbb : (rows.length + more.length) * bytes ≤ 140737488355328 := by
    have : (rows.length + more.length) * bytes ≤ 1000000 * 100000000 := Nat.mul_le_mul hlen hb8
    omega
  have fin : ∀ (a : Addr), A = some a → (∀ (j : Nat) (u : Value), more.flatten[j]? = some u → w.cell? (a.add j) = some u) →
      ∃ v' w', (Builtin.append_ #[S, S] ty #[v, .slice A more.length c]).run P w = .ok v' w' ∧ OR w' base E size v' (rows ++ more) ∧ w.grownBy w' v.ownBlock ∧ (v'.ownBlock = v.ownBlock ∨ v'.ownBlock = some w.heap.size) ∧ (rows = [] → more = [] → v = .slice none 0 0 → v' = .slice none 0 0) := fun a ha hc => by
    subst ha
    obtain ⟨v', w', hrun, h3, h4, h6, h5⟩ := run_append_own_at (P := P) w base S ty E i z size bytes hu hi hz hs hby hzs hsz v rows.length rows.flatten hown.1 a more.length c more.flatten flen hc
      (fun u hu => by obtain ⟨r, hr, hur⟩ := List.mem_flatten.1 hu; exact h1 r hr u hur) (by simp only [maxLen]; omega) hbb hbase
    refine ⟨v', w', hrun, ⟨?_, fun q hq => ?_⟩, h4, h5, fun e1 e2 e3 => h6.2 ⟨e3, by rw [e2]; rfl⟩⟩
    · rw [List.length_append, List.flatten_append]
      exact h3
    · rcases List.mem_append.1 hq with hq | hq
      · exact hown.2 q hq
      · exact hl q hq
  by_cases h0 : 0 < more.length
  · obtain ⟨b, o, rfl, hlt, hc⟩ := hm.2.2 h0
    refine fin ⟨b, o, none⟩ rfl (fun j u hj => ?_)
    obtain ⟨r, hr, hur⟩ := flat_of hsz hl j u hj
    have := hc _ r hr _ u hur
    rw [add_plain]
    have e : j / size * size + j % size = j := by rw [Nat.mul_comm]; exact Nat.div_add_mod j size
    rw [Nat.add_assoc, e] at this
    exact this
  · have hnil : more = [] := List.eq_nil_of_length_eq_zero (by omega)
    subst hnil
    cases A with
    | some a => exact fin a rfl (fun j u hj => by simp at hj)
    | none =>
      have hc0 := hn rfl
      subst hc0
      refine ⟨v, w, run_append_owned_none (P := P) (w := w) base S ty E i size hu hi v rows.length rows.flatten hown.1, by rw [List.append_nil]; exact hown, World.grownBy.refl _ _, .inl rfl, fun _ _ e => e⟩
theorem wp_append_rows (hu : P.underlying S = some (.slice E)) (hi : P.info? E = some i) (hz : i.zero = some z) (hs : i.size = size) (hby : i.bytes = bytes) (hzs : z.cells.size = size) (hsz : 0 < size) (hb8 : bytes ≤ 100000000)
    {w : World} {o : Oper} {a : Act} {K : Act → World → Prop} {Q : Exit → Act → World → Prop} (s x : Operand)
    (ho : o.op = .call { callee := .builtin .append, args := #[s, x], argTypes := #[S, S] })
    (base : Nat) (v : Value) (rows more : List (List Value)) (A : Option Addr) (n c : Nat) (hnl : n = more.length) (hs' : a.eval s = v) (hx : a.eval x = .slice A n c) (hown : OR w base E size v rows) (hm : RR w A c size more) (hn : NilC A c) (hl : ∀ r ∈ more, r.length = size) (h1 : ∀ r ∈ more, ∀ u ∈ r, u.oneCell' = true)
    (hlen : rows.length + more.length ≤ 1000000) (hbase : base ≤ w.heap.size)
    (h : ∀ v' w', OR w' base E size v' (rows ++ more) → w.grownBy w' v.ownBlock → (v'.ownBlock = v.ownBlock ∨ v'.ownBlock = some w.heap.size) → K (a.put o.dst v') w') : o.wp P a w K Q := by
  subst hnl
  obtain ⟨v', w', hrun, h2, h3, h4, _⟩ := run_append_rows hu hi hz hs hby hzs hsz hb8 w base v rows more A c o.type hown hm hn hl h1 hlen hbase
  unfold Oper.wp execOp
  simp only [ho, resolve, invoke, builtin, Sem.run_bind, Sem.run_pure, Result.andThen_ok, List.map_toArray, List.map_cons, List.map_nil, hs', hx, hrun]
  exact h v' w' h2 h3 h4
theorem wpList_append_rows (hu : P.underlying S = some (.slice E)) (hi : P.info? E = some i) (hz : i.zero = some z) (hs : i.size = size) (hby : i.bytes = bytes) (hzs : z.cells.size = size) (hsz : 0 < size) (hb8 : bytes ≤ 100000000)
    {w : World} {ops : Array Oper} {rest : List Oper} {o : Oper} {a : Act} {Q : Exit → Act → World → Prop} (hgd : o.guard = none) (s x : Operand)
    (ho : o.op = .call { callee := .builtin .append, args := #[s, x], argTypes := #[S, S] })
    (base : Nat) (v : Value) (rows more : List (List Value)) (A : Option Addr) (n c : Nat) (hnl : n = more.length) (hs' : a.eval s = v) (hx : a.eval x = .slice A n c) (hown : OR w base E size v rows) (hm : RR w A c size more) (hn : NilC A c) (hl : ∀ r ∈ more, r.length = size) (h1 : ∀ r ∈ more, ∀ u ∈ r, u.oneCell' = true)
    (hlen : rows.length + more.length ≤ 1000000) (hbase : base ≤ w.heap.size)
    (h : ∀ v' w', OR w' base E size v' (rows ++ more) → w.grownBy w' v.ownBlock → (v'.ownBlock = v.ownBlock ∨ v'.ownBlock = some w.heap.size) → wpList P ops Q rest (a.put o.dst v') w') : wpList P ops Q (o :: rest) a w :=
  wpList_plain hgd fun _ hK => wp_append_rows hu hi hz hs hby hzs hsz hb8 s x ho base v rows more A n c hnl hs' hx hown hm hn hl h1 hlen hbase fun v' w' h2 h3 h4 => hK _ _ (h v' w' h2 h3 h4)
end
theorem revV_len (l : List Rv) : ∀ r ∈ l.map revV, r.length = 12 := fun r h => by
  obtain ⟨x, _, rfl⟩ := List.mem_map.1 h
  rfl
theorem revV_one (l : List Rv) : ∀ r ∈ l.map revV, ∀ u ∈ r, u.oneCell' = true := fun r h u hu => by
  obtain ⟨x, _, rfl⟩ := List.mem_map.1 h
  unfold revV at hu
  simp only [List.mem_cons, List.not_mem_nil, or_false] at hu
  rcases hu with rfl | rfl | rfl | rfl | rfl | rfl | rfl | rfl | rfl | rfl | rfl | rfl <;> rfl
theorem recV_len' (l : List Rc) : ∀ r ∈ l.map recV, r.length = 6 := fun r h => by
  obtain ⟨x, _, rfl⟩ := List.mem_map.1 h
  rfl
theorem recV_one (l : List Rc) : ∀ r ∈ l.map recV, ∀ u ∈ r, u.oneCell' = true := fun r h u hu => by
  obtain ⟨x, _, rfl⟩ := List.mem_map.1 h
  unfold recV at hu
  simp only [List.mem_cons, List.not_mem_nil, or_false] at hu
  rcases hu with rfl | rfl | rfl | rfl | rfl | rfl <;> rfl
theorem recInfo : (Tryd.prog.info? 71).map (fun i => (i.zero, i.size, i.bytes)) = some (some (.agg #[.string ByteArray.empty, .int .i64 0, .int .i64 0, .string ByteArray.empty, .int .i64 0, .int .i64 0]), 6, 64) := by kernel_rfl
theorem OR.bx {w : World} {base : Nat} {E : TypeId} {size : Nat} {v : Value} {rows : List (List Value)} (h : OR w base E size v rows) :
    (v = .slice none 0 0 ∧ rows = []) ∨ ∃ g c, v = .slice (some ⟨g, 0, none⟩) rows.length c ∧ base ≤ g ∧ BX w g rows.flatten ∧ rows.length ≤ c ∧ c ≤ 9223372036854775807 := by
  obtain ⟨hl, hr⟩ := h.1
  rcases hr with ⟨e2, hn⟩ | ⟨g, cap, cur, e2, hbg, hh, hnc, hcm, hcs, htk⟩
  · exact .inl ⟨e2, List.eq_nil_of_length_eq_zero hn⟩
  · refine .inr ⟨g, cap, e2, hbg, ⟨fun j u hj => ?_, fun i => ?_, ?_⟩, hnc, by simpa [maxLen] using hcm⟩
    · have hlt : j < rows.length * size := by rw [← hl]; exact (List.getElem?_eq_some_iff.1 hj).1
      rw [← htk, List.getElem?_take, if_pos hlt] at hj
      rw [cell_of_row w g _ cur _ (0, 0) hh]
      simpa using hj
    · simp [World.frozen?, hh]
    · rcases Nat.lt_or_ge g w.heap.size with h1 | h1
      · exact h1
      · rw [Array.getElem?_eq_none h1] at hh; cases hh
theorem RR.of_bx {w : World} {g c size : Nat} {rows : List (List Value)} (h : BX w g rows.flatten) (hs : ∀ r ∈ rows, r.length = size) (h1 : rows.length ≤ c) (h2 : c ≤ 9223372036854775807) : RR w (some ⟨g, 0, none⟩) c size rows :=
  ⟨h1, h2, fun _ => ⟨g, 0, rfl, h.2.2, fun j r hj i u hu => by rw [Nat.zero_add]; exact h.1 _ u (flat_at hs j r hj i u hu)⟩⟩
theorem RR.other {w : World} {A : Option Addr} {c size : Nat} {rows : List (List Value)} (h : RR w A c size rows) {p : Addr} (hp : ∀ a, A = some a → p.block ≠ a.block) (y : Value) : RR (w.setCell p y) A c size rows :=
  ⟨h.1, h.2.1, fun h0 => by
    obtain ⟨b, o, e, hlt, hc⟩ := h.2.2 h0
    refine ⟨b, o, e, by simpa [World.setCell] using hlt, fun j r hj i u hu => ?_⟩
    rw [World.cell?_setCell_other _ _ _ _ (by intro e2; exact hp _ e (by rw [e2]))]
    exact hc j r hj i u hu⟩
theorem OR.readB {w : World} {base : Nat} {E : TypeId} {size : Nat} {v : Value} {rows : List (List Value)} (h : OR w base E size v rows) : ∃ A c, v = .slice A rows.length c ∧ RR w A c size rows ∧ NilC A c ∧ ∀ a, A = some a → base ≤ a.block := by
  rcases h.bx with ⟨e, hr⟩ | ⟨g, c, e, hg, hb, h1, h2⟩
  · subst hr
    exact ⟨none, 0, e, RR.nil w none 0 size (by omega), fun _ => rfl, fun a ha => by cases ha⟩
  · exact ⟨_, c, e, RR.of_bx hb h.2 h1 h2, (fun ha => by cases ha), fun a ha => by cases ha; exact hg⟩
theorem OR.readN {w : World} {base : Nat} {E : TypeId} {size : Nat} {v : Value} {rows : List (List Value)} (h : OR w base E size v rows) : ∃ A c, v = .slice A rows.length c ∧ RR w A c size rows ∧ NilC A c := by
  obtain ⟨A, c, e, hr⟩ := h.read
  refine ⟨A, c, e, hr, fun ha => ?_⟩
  subst ha
  rcases h.1.2 with ⟨e2, hn⟩ | ⟨g, cap, cur, e2, _⟩
  · rw [e] at e2
    injection e2
  · rw [e] at e2
    cases e2
end Go.Proofs.YteagecjhpfijjaaDoor

