/-
  Append of one value to a row of one-cell values; cuts and clones of rows of texts; two texts, two rows in a literal.
-/
import Derived.Test.YtfhkmmicdbblnaaDoorL5
namespace Go.Proofs.YtfhkmmicdbblnaaDoor
set_option linter.unusedSimpArgs false
set_option linter.unusedVariables false
open Go.RowKit

section
variable {P : Program} {S E : TypeId} {i : TypeInfo} {z : Value} {bytes : Nat}
theorem run_append_ov (hu : P.underlying S = some (.slice E)) (hi : P.info? E = some i) (hz : i.zero = some z) (hs : i.size = 1) (hby : i.bytes = bytes) (hzs : z.cells.size = 1) (hb8 : bytes ≤ 100000000)
    (w : World) (base : Nat) (v : Value) (vs : List Value) (u : Value) (b c : Nat) (ty : TypeId) (hown : OV w base E v vs) (hcell : w.cell? ⟨b, 0, none⟩ = some u) (h1 : u.oneCell' = true)
    (hlen : vs.length + 1 ≤ 1000000) (hbase : base ≤ w.heap.size) :
    ∃ v' w', (Builtin.append_ #[S, S] ty #[v, .slice (some ⟨b, 0, none⟩) 1 c]).run P w = .ok v' w' ∧ OV w' base E v' (vs ++ [u]) ∧ w.grownBy w' v.ownBlock ∧ (v'.ownBlock = v.ownBlock ∨ v'.ownBlock = some w.heap.size) := by
  obtain ⟨v', w', hrun, h3, h4, _, h5⟩ := run_append_own_at (P := P) w base S ty E i z 1 bytes hu hi hz hs hby hzs (by omega) v vs.length vs hown ⟨b, 0, none⟩ 1 c [u]
    rfl (fun k x hk => by
      rw [Go.WideShapes.add_plain]
      cases k with
      | zero => have e : u = x := by simpa using hk
                rw [← e]; simpa using hcell
      | succ k => simp at hk) (fun x hx => by rw [List.mem_singleton.1 hx]; exact h1) (by simp only [maxLen]; omega) (by
      have : (vs.length + 1) * bytes ≤ 1000000 * 100000000 := Nat.mul_le_mul hlen hb8
      omega) hbase
  refine ⟨v', w', hrun, ?_, h4, h5⟩
  unfold OV
  rw [List.length_append]
  exact h3
theorem wp_append_ov (hu : P.underlying S = some (.slice E)) (hi : P.info? E = some i) (hz : i.zero = some z) (hs : i.size = 1) (hby : i.bytes = bytes) (hzs : z.cells.size = 1) (hb8 : bytes ≤ 100000000)
    {w : World} {o : Oper} {a : Act} {K : Act → World → Prop} {Q : Exit → Act → World → Prop} (s x : Operand)
    (ho : o.op = .call { callee := .builtin .append, args := #[s, x], argTypes := #[S, S] })
    (base : Nat) (v : Value) (vs : List Value) (u : Value) (b c : Nat) (hs' : a.eval s = v) (hx : a.eval x = .slice (some ⟨b, 0, none⟩) 1 c) (hown : OV w base E v vs) (hcell : w.cell? ⟨b, 0, none⟩ = some u) (h1 : u.oneCell' = true)
    (hlen : vs.length + 1 ≤ 1000000) (hbase : base ≤ w.heap.size)
    (h : ∀ v' w', OV w' base E v' (vs ++ [u]) → w.grownBy w' v.ownBlock → (v'.ownBlock = v.ownBlock ∨ v'.ownBlock = some w.heap.size) → K (a.put o.dst v') w') : o.wp P a w K Q := by
  obtain ⟨v', w', hrun, h2, h3, h4⟩ := run_append_ov hu hi hz hs hby hzs hb8 w base v vs u b c o.type hown hcell h1 hlen hbase
  unfold Oper.wp execOp
  simp only [ho, resolve, invoke, builtin, Sem.run_bind, Sem.run_pure, Result.andThen_ok, List.map_toArray, List.map_cons, List.map_nil, hs', hx, hrun]
  exact h v' w' h2 h3 h4
end
theorem step_append_int {w : World} {ops : Array Oper} {o : Oper} {a : Act} {K : Act → World → Prop} {Q : Exit → Act → World → Prop} {G : Prop} (hgd : o.guard = none) (s x : Operand)
    (ho : o.op = .call { callee := .builtin .append, args := #[s, x], argTypes := #[53, 53] })
    (base : Nat) (v : Value) (vs : List Value) (u : Value) (b c : Nat) (hs' : a.eval s = v) (hx : a.eval x = .slice (some ⟨b, 0, none⟩) 1 c) (hown : OV w base 3 v vs) (hcell : w.cell? ⟨b, 0, none⟩ = some u) (h1 : u.oneCell' = true)
    (hlen : vs.length + 1 ≤ 1000000) (hbase : base ≤ w.heap.size)
    (h : ∀ v' w', OV w' base 3 v' (vs ++ [u]) → w.grownBy w' v.ownBlock → (v'.ownBlock = v.ownBlock ∨ v'.ownBlock = some w.heap.size) → K (a.put o.dst v') w') :
    if Region.wanted o (yielded ops a.tmps) = true then Oper.wp Tryd.prog o a w K Q else G := by
  have hw : Region.wanted o (yielded ops a.tmps) = true := by simp [Region.wanted, hgd]
  rw [if_pos hw]
  obtain ⟨i, hi, hz0, hz1, hz2⟩ := info_parts intInfo
  exact wp_append_ov Tryd.underlying53 hi hz0 hz1 hz2 rfl (by decide) s x ho base v vs u b c hs' hx hown hcell h1 hlen hbase h
theorem OV.base {w : World} {base base' : Nat} {E : TypeId} {v : Value} {vs : List Value} (h : OV w base E v vs) (hb : base' ≤ base) : OV w base' E v vs := by
  refine ⟨h.1, ?_⟩
  rcases h.2 with h1 | ⟨g, cap, cur, e, hbg, hrest⟩
  · exact .inl h1
  · exact .inr ⟨g, cap, cur, e, Nat.le_trans hb hbg, hrest⟩

theorem size_texts (w : World) : (sizeOf (Tryd.prog.elem 30)).run Tryd.prog w = .ok 1 w := by kernel_rfl
theorem run_cut_texts (A : Option Addr) (n c t j : Nat) (ht : t ≤ j) (hj : j ≤ c) (hc : c ≤ 9223372036854775807) (w : World) : (Instr.sliceAt 30 (.slice A n c) (some (.int .i64 (t : Int))) (some (.int .i64 (j : Int))) none).run Tryd.prog w = .ok (.slice (cutA A c t 1) (j - t) (c - t)) w := by
  rw [run_sliceAt_slice _ _ _ _ _ _ (by kernel_rfl), run_slice_lh _ _ _ _ _ (by kernel_rfl) _ _ _ _ (by omega) (by omega) (by omega), size_texts]
  rfl
theorem run_drop_texts (A : Option Addr) (n c t : Nat) (ht : t ≤ n) (w : World) : (Instr.sliceAt 30 (.slice A n c) (some (.int .i64 (t : Int))) none none).run Tryd.prog w = .ok (.slice (cutA A c t 1) (n - t) (c - t)) w := by
  rw [run_sliceAt_slice _ _ _ _ _ _ (by kernel_rfl), run_slice_l _ _ _ _ _ (by kernel_rfl) _ _ (by omega) (by omega), size_texts]
  rfl
theorem RC.take {w : World} {A : Option Addr} {c : Nat} {vs : List Value} (h : RC w A c vs) (m : Nat) : RC w A c (vs.take m) :=
  ⟨by rw [List.length_take]; have := h.1; omega, h.2.1, fun h0 => by
    rw [List.length_take] at h0
    obtain ⟨b, o, e, hlt, hc⟩ := h.2.2 (by omega)
    refine ⟨b, o, e, hlt, fun j x hx => hc j x ?_⟩
    rw [List.getElem?_take] at hx
    split at hx
    · exact hx
    · cases hx⟩
theorem RT.cut {w : World} {A : Option Addr} {c : Nat} {xs : List ByteArray} (h : RT w A c xs) {t : Nat} (j : Nat) (ht : t ≤ xs.length) : RT w (cutA A c t 1) (c - t) ((xs.drop t).take (j - t)) := by
  apply RC.rt
  rw [List.map_take, List.map_drop]
  exact (h.rc.cut (by rw [List.length_map]; exact ht)).take _
theorem cut_len {α : Type} {xs : List α} {t j : Nat} (hj : j ≤ xs.length) : ((xs.drop t).take (j - t)).length = j - t := by
  rw [List.length_take, List.length_drop]; omega
theorem own_text {w : World} {base n : Nat} {v : Value} {xs : List ByteArray} (h : w.ownsRow base 9 1 v n (xs.map Value.string)) (hn : n = xs.length) : ∃ A c, v = .slice A xs.length c ∧ OT w base (.slice A xs.length c) xs := by
  subst hn
  have h' : OT w base v xs := h
  obtain ⟨A, c, e, _⟩ := h'.read
  exact ⟨A, c, e, e ▸ h'⟩
theorem clone_any (A : Option Addr) (c n : Nat) (xs : List ByteArray) (w : World) (h : RT w A c xs) (hn : n = xs.length) (hl : xs.length ≤ 1000000) :
    Calls Tryd.prog 27 #[.slice A n c] w (RetO w xs id) := by
  subst hn
  rcases A with _ | a
  · have hx : xs = [] := by
      cases xs with
      | nil => rfl
      | cons y ys => obtain ⟨b, o, e, _⟩ := h.2.2 (by simp); cases e
    subst hx
    exact (Tryd.slices_Clone_string_nil 0 c w).mono fun e w' ⟨he, hw⟩ => hw ▸ ⟨none, 0, he, OT.nil _ _, Below.refl _ _⟩
  · by_cases h0 : 0 < xs.length
    · obtain ⟨b, o, e, _, hc⟩ := h.2.2 h0
      cases e
      refine (Tryd.slices_Clone_string b o xs.length c xs w (Nat.le_refl _) (by omega) (getD_cells hc)).mono fun e w' ⟨v', he, hown, _, hb⟩ => ?_
      rw [List.take_length] at hown
      obtain ⟨A', c', rfl, ho⟩ := own_text hown rfl
      exact ⟨A', c', he, ho, hb⟩
    · have hx : xs = [] := List.eq_nil_of_length_eq_zero (by omega)
      subst hx
      refine (Tryd.slices_Clone_string_zero a c w).mono fun e w' ⟨v', he, hown, _, hb⟩ => ?_
      obtain ⟨A', c', rfl, ho⟩ := own_text (xs := []) hown rfl
      exact ⟨A', c', he, ho, hb⟩
theorem RT.two {w : World} {x y : ByteArray} {t : TypeId} {g : Nat} (hg : g = w.heap.size) : RT (w.alloc (.cells #[.string x, .string y] t)) (some ⟨g, 0, none⟩) 2 [x, y] := by
  subst hg
  refine ⟨Nat.le_refl _, by omega, fun _ => ⟨w.heap.size, 0, rfl, by simp, fun j u hu => ?_⟩⟩
  match j, hu with
  | 0, hu => have e : x = u := by simpa using hu
             rw [← e]; simp [World.cell?_alloc_new]
  | 1, hu => have e : y = u := by simpa using hu
             rw [← e]; simp [World.cell?_alloc_new]
  | j + 2, hu => simp at hu
theorem RT.three {w : World} {x y z : ByteArray} {t : TypeId} {g : Nat} (hg : g = w.heap.size) : RT (w.alloc (.cells #[.string x, .string y, .string z] t)) (some ⟨g, 0, none⟩) 3 [x, y, z] := by
  subst hg
  refine ⟨Nat.le_refl _, by omega, fun _ => ⟨w.heap.size, 0, rfl, by simp, fun j u hu => ?_⟩⟩
  match j, hu with
  | 0, hu => have e : x = u := by simpa using hu
             rw [← e]; simp [World.cell?_alloc_new]
  | 1, hu => have e : y = u := by simpa using hu
             rw [← e]; simp [World.cell?_alloc_new]
  | 2, hu => have e : z = u := by simpa using hu
             rw [← e]; simp [World.cell?_alloc_new]
  | j + 3, hu => simp at hu
/-- rows of texts in a literal -/
theorem RF.lines2 {w : World} {A B : Option Addr} {c d : Nat} {xs ys : List ByteArray} {t : TypeId} (h : RT w A c xs) (k : RT w B d ys) {g : Nat} (hg : g = w.heap.size) : RF (w.alloc (.cells #[.slice A xs.length c, .slice B ys.length d] t)) (some ⟨g, 0, none⟩) 2 1 ([xs, ys].map lnF) := by
  subst hg
  refine ⟨Nat.le_refl _, by omega, fun _ => ⟨w.heap.size, 0, rfl, by simp, fun j f hf i q hq => ?_⟩⟩
  match j, hf with
  | 0, hf =>
    have e : lnF xs = f := by simpa using hf
    subst e
    match i, hq with
    | 0, hq => cases hq; exact ⟨_, by simp [World.cell?_alloc_new], Fld.txt (h.below (below_alloc _ _)) (fun _ _ _ e => by cases e)⟩
    | i + 1, hq => simp [lnF] at hq
  | 1, hf =>
    have e : lnF ys = f := by simpa using hf
    subst e
    match i, hq with
    | 0, hq => cases hq; exact ⟨_, by simp [World.cell?_alloc_new], Fld.txt (k.below (below_alloc _ _)) (fun _ _ _ e => by cases e)⟩
    | i + 1, hq => simp [lnF] at hq
  | j + 2, hf => simp at hf
/-- a row of one field at a place -/
theorem RF.row1 {w : World} {A : Option Addr} {c : Nat} {fs : List (List Fld)} (h : RF w A c 1 fs) {j : Nat} {vs : List Value} (hj : fs[j]? = some [Fld.row vs]) : ∃ b o C n, A = some ⟨b, o, none⟩ ∧ b < w.heap.size ∧ w.cell? ⟨b, o + j, none⟩ = some (.slice C vs.length n) ∧ RC w C n vs := by
  obtain ⟨b, o, e, hb, hc⟩ := h.2.2 (by have := (List.getElem?_eq_some_iff.1 hj).1; omega)
  obtain ⟨u, hu, C, n, e2, hr, _⟩ := hc j _ hj 0 (.row vs) rfl
  rw [Nat.mul_one, Nat.add_zero, e2] at hu
  exact ⟨b, o, C, n, e, hb, hu, hr⟩
end Go.Proofs.YtfhkmmicdbblnaaDoor

