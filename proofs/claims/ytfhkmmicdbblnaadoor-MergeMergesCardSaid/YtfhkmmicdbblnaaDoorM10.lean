/-
  Places are compared; the merger as a whole; a piece is appended to the pieces.
-/
import Derived.Test.YtfhkmmicdbblnaaDoorL10
import Derived.ChangeKeysEq
namespace Go.Proofs.YtfhkmmicdbblnaaDoor
set_option linter.unusedSimpArgs false
set_option linter.unusedVariables false
open Go.RowKit

theorem int3Info : ∃ i, Tryd.prog.info? 3 = some i := by
  cases h : Tryd.prog.info? 3 with
  | some i => exact ⟨i, rfl⟩
  | none =>
    have := intInfo
    rw [h] at this
    cases this
theorem cells_int : Tryd.prog.cellsOf 3 = 1 := by kernel_rfl
theorem part0 (x0 x1 x2 : Int) (w : World) : (_root_.Go.part 3 #[.int .i64 x0, .int .i64 x1, .int .i64 x2] 0).run Tryd.prog w = .ok (.int .i64 x0) w := by kernel_rfl
theorem part1 (x0 x1 x2 : Int) (w : World) : (_root_.Go.part 3 #[.int .i64 x0, .int .i64 x1, .int .i64 x2] 1).run Tryd.prog w = .ok (.int .i64 x1) w := by kernel_rfl
theorem part2 (x0 x1 x2 : Int) (w : World) : (_root_.Go.part 3 #[.int .i64 x0, .int .i64 x1, .int .i64 x2] 2).run Tryd.prog w = .ok (.int .i64 x2) w := by kernel_rfl
theorem arr_eq (a0 a1 a2 b0 b1 b2 : Int) (w : World) : (Op.equalIn 10000 72 (.agg #[.int .i64 a0, .int .i64 a1, .int .i64 a2]) (.agg #[.int .i64 b0, .int .i64 b1, .int .i64 b2])).run Tryd.prog w = .ok (decide (a0 = b0 ∧ a1 = b1 ∧ a2 = b2)) w := by
  obtain ⟨i, hi⟩ := int3Info
  rw [run_equalIn_array w 9999 (n := 3) (e := 3) _ _ (by kernel_rfl) hi, cells_int, show List.range 3 = [0, 1, 2] from rfl]
  have q := fun (a b : Int) (w : World) => run_equalIn_int (P := Tryd.prog) w 9998 3 .i64 .i64 a b Tryd.underlying3
  simp only [Op.eqItems, Sem.run_bind, Nat.zero_mul, Nat.mul_one, part0, part1, part2, Result.andThen_ok]
  simp only [List.getD_cons_zero, List.getD_cons_succ, q, Result.andThen_ok]
  by_cases h0 : a0 = b0
  · subst h0
    by_cases h1 : a1 = b1
    · subst h1
      by_cases h2 : a2 = b2
      · subst h2
        simp [part1, part2, q]
      · simp [part1, part2, q, h2]
    · simp [part1, part2, q, h1]
  · simp [part1, part2, q, h0]

theorem chunkInfo : (Tryd.prog.info? 81).map (fun i => (i.zero, i.size, i.bytes)) = some (some (.agg #[.int .i64 0, .slice none 0 0, .slice none 0 0, .slice none 0 0]), 4, 80) := by kernel_rfl
theorem PZ.rows_len {w : World} {N base : Nat} {v : Value} {ps : List (Pc ByteArray)} {rows : List (List Value)} (h2 : Rel2 (Rel2 (FRel w base (fun k => v.ownBlock = some k ∨ N ≤ k))) (ps.map pcF) rows) : rows.length = ps.length := by
  have := h2.1
  rw [List.length_map] at this
  exact this.symm
theorem step_append_chunk {w : World} {ops : Array Oper} {o : Oper} {a : Act} {K : Act → World → Prop} {Q : Exit → Act → World → Prop} {G : Prop} (hgd : o.guard = none) (s x : Operand)
    (ho : o.op = .call { callee := .builtin .append, args := #[s, x], argTypes := #[40, 40] })
    (N base : Nat) (v : Value) (ps : List (Pc ByteArray)) (p : Pc ByteArray) (u1 u2 u3 : Value) (b c : Nat) (hs' : a.eval s = v) (hx : a.eval x = .slice (some ⟨b, 0, none⟩) 1 c) (hz : PZ w N base v ps)
    (o1 : OT w N u1 p.o) (o2 : OT w N u2 p.a) (o3 : OT w N u3 p.b) (d12 : Dis u1 u2) (d13 : Dis u1 u3) (d23 : Dis u2 u3) (hN : base ≤ N) (hNw : N ≤ w.heap.size)
    (hcells : ∀ (k : Nat) (u : Value), [.int .i64 p.kind, u1, u2, u3][k]? = some u → w.cell? ⟨b, k, none⟩ = some u) (h1 : u1.oneCell' = true) (h2 : u2.oneCell' = true) (h3 : u3.oneCell' = true) (hlen : ps.length + 1 ≤ 1000000)
    (h : ∀ v' w', PS w' base v' (ps ++ [p]) → w.grownBy w' v.ownBlock → (∀ k, v.ownBlock = some k → base ≤ k) → K (a.put o.dst v') w') :
    if Region.wanted o (yielded ops a.tmps) = true then Oper.wp Tryd.prog o a w K Q else G := by
  obtain ⟨rows, hor, hrel, hlt⟩ := hz
  obtain ⟨i, hi, hz0, hz1, hz2⟩ := info_parts chunkInfo
  exact step_append_row Tryd.underlying40 hi hz0 hz1 hz2 rfl (by decide) (by decide) hgd s x ho base v rows [.int .i64 p.kind, u1, u2, u3] b c hs' hx hor rfl hcells (by
    intro u hu
    simp only [List.mem_cons, List.not_mem_nil, or_false] at hu
    rcases hu with rfl | rfl | rfl | rfl
    · rfl
    · exact h1
    · exact h2
    · exact h3) (by rw [PZ.rows_len hrel]; exact hlen) (Nat.le_trans hN hNw) fun v' w' k1 k2 k3 => h v' w' (PZ.append hrel hlt o1 o2 o3 d12 d13 d23 hN hNw k1 k2 k3) k2 (fun k e => (hor.own k e).1)
theorem MB.grown {w w' : World} {M : Nat} {tv v : Value} {f : List Nat} {k : Option Nat} (h : MB w M tv f v) (hg : w.grownBy w' k) (hk : k ≠ some M) : MB w' M tv f v := by
  obtain ⟨h0, h1, h2, h3, h4, h5⟩ := h
  exact ⟨h0, (cell_gb hg h5 hk 0).trans h1, fun j x hx => (cell_gb hg h5 hk _).trans (h2 j x hx), (cell_gb hg h5 hk 4).trans h3, fun i => (frozen_gb hg h5 hk i).trans (h4 i), Nat.lt_of_lt_of_le h5 hg.size⟩
theorem MB.setv {w : World} {M : Nat} {tv v : Value} {f : List Nat} (h : MB w M tv f v) (v' : Value) : MB (w.setCell ⟨M, 4, none⟩ v') M tv f v' := by
  obtain ⟨h0, h1, h2, h3, h4, h5⟩ := h
  refine ⟨h0, ?_, fun j x hx => ?_, World.cell?_setCell_same _ _ _ h3, fun i => by rw [World.frozen?_setCell]; exact h4 i, by simpa [World.setCell] using h5⟩
  · rw [World.cell?_setCell_other _ _ _ _ (by simp)]; exact h1
  · have hj : j < 3 := by rw [← h0]; exact (List.getElem?_eq_some_iff.1 hx).1
    rw [World.cell?_setCell_other _ _ _ _ (by intro e; simp only [Addr.mk.injEq, true_and, and_true] at e; omega)]
    exact h2 j x hx
theorem PS.set {w : World} {base : Nat} {v : Value} {ps : List (Pc ByteArray)} (h : PS w base v ps) {p : Addr} (hp : p.block < base) (x : Value) : PS (w.setCell p x) base v ps :=
  h.grown (k := some p.block) (gb_set (World.grownBy.refl w _) (.inl rfl) x) (fun j e => by cases e; exact hp)
theorem PZ.set {w : World} {N base : Nat} {v : Value} {ps : List (Pc ByteArray)} (h : PZ w N base v ps) {p : Addr} (hp : N ≤ p.block) (hb : base ≤ N) (x : Value) : PZ (w.setCell p x) N base v ps := by
  obtain ⟨rows, h1, h2, h3⟩ := h
  refine ⟨rows, h1.other (fun e => by have := h3 _ e; omega) x, h2.mono fun _ _ h => h.mono fun _ _ h => h.set (.inl (.inr hp)) x, h3⟩
theorem PS.shape {w : World} {base : Nat} {v : Value} {ps : List (Pc ByteArray)} (h : PS w base v ps) : ∃ A n c, v = .slice A n c := by
  obtain ⟨A, c, e, _⟩ := h.read
  exact ⟨A, _, c, e⟩
/-- what comes back of a step of the merger: W is the world ahead of its box -/
def RetM (W : World) (tv : Value) (t : List Nat) (ps : List (Pc ByteArray)) (e : Ending) (w' : World) : Prop :=
  e = .returned (.tuple #[]) ∧ ∃ v', MB w' W.heap.size tv t v' ∧ PS w' (W.heap.size + 1) v' ps ∧ Below W.heap.size W w'
theorem below_gbM {W w w' : World} (h : Below W.heap.size W w) (hg : w.grownBy w' (some W.heap.size)) : Below W.heap.size W w' := h.grown hg h.size (fun j e => by cases e; exact Nat.le_refl _)
end Go.Proofs.YtfhkmmicdbblnaaDoor

