/-
  The pieces that a merge collects, in memory: each but the last one lies still, the last one's rows are the call's own.
-/
import Derived.Test.YtfhkmmicdbblnaaDoorM8
import Derived.Test.YtfhkmmicdbblnaaDoorM6
namespace Go.Proofs.YtfhkmmicdbblnaaDoor
set_option linter.unusedSimpArgs false
set_option linter.unusedVariables false
open Go.RowKit

theorem OR.kept {w w' : World} {base : Nat} {E : TypeId} {size : Nat} {v : Value} {rows : List (List Value)} {k : Option Nat} (h : OR w base E size v rows) (hg : w.grownBy w' k) (hne : ∀ j, k = some j → v.ownBlock ≠ some j) : OR w' base E size v rows := by
  refine ⟨?_, h.2⟩
  cases k with
  | none =>
    rcases h.1.2 with ⟨e, _⟩ | ⟨g, cap, cur, e, _⟩
    · exact World.ownsRow.kept h.1 hg (.inl (by rw [e]; rfl))
    · exact World.ownsRow.kept h.1 hg (.inr (by rw [e]; intro e2; cases e2))
  | some j => exact World.ownsRow.kept h.1 hg (.inr (hne j rfl))
theorem OT.kept {w w' : World} {base : Nat} {v : Value} {xs : List ByteArray} {k : Option Nat} (h : OT w base v xs) (hg : w.grownBy w' k) (hne : ∀ j, k = some j → v.ownBlock ≠ some j) : OT w' base v xs := by
  unfold OT at *
  cases k with
  | none =>
    rcases h.2 with ⟨e, _⟩ | ⟨g, cap, cur, e, _⟩
    · exact World.ownsRow.kept h hg (.inl (by rw [e]; rfl))
    · exact World.ownsRow.kept h hg (.inr (by rw [e]; intro e2; cases e2))
  | some j => exact World.ownsRow.kept h hg (.inr (hne j rfl))
theorem OT.otherN {w : World} {base : Nat} {v : Value} {xs : List ByteArray} (h : OT w base v xs) {p : Addr} (hp : v.ownBlock ≠ some p.block) (u : Value) : OT (w.setCell p u) base v xs := OV.other (vs := xs.map Value.string) (by unfold OV; rw [List.length_map]; exact h) hp u |> fun h => by unfold OV at h; rw [List.length_map] at h; exact h
theorem OT.baseN {w : World} {base base' : Nat} {v : Value} {xs : List ByteArray} (h : OT w base v xs) (hb : base' ≤ base) : OT w base' v xs := by
  refine ⟨h.1, ?_⟩
  rcases h.2 with h1 | ⟨g, cap, cur, e, hbg, hrest⟩
  · exact .inl h1
  · exact .inr ⟨g, cap, cur, e, Nat.le_trans hb hbg, hrest⟩
/-- a cell of the last row -/
theorem flat_set {size : Nat} {rows : List (List Value)} {r : List Value} (hs : ∀ q ∈ rows, q.length = size) {i : Nat} (hi : i < r.length) (y : Value) : (rows ++ [r]).flatten.set (rows.length * size + i) y = (rows ++ [r.set i y]).flatten := by
  rw [List.flatten_append, List.flatten_append, ← flat_len hs, List.set_append_right _ _ (by omega)]
  simp
theorem OR.set {w : World} {base : Nat} {E : TypeId} {size g n cap : Nat} {rows : List (List Value)} {r : List Value} (h : OR w base E size (.slice (some ⟨g, 0, none⟩) n cap) (rows ++ [r])) {i : Nat} (hi : i < size) (y : Value) :
    OR (w.setCell ⟨g, rows.length * size + i, none⟩ y) base E size (.slice (some ⟨g, 0, none⟩) n cap) (rows ++ [r.set i y]) := by
  obtain ⟨⟨hl, h⟩, hs⟩ := h
  have hr : r.length = size := hs r (by simp)
  have hrs : ∀ q ∈ rows, q.length = size := fun q hq => hs q (by simp [hq])
  have hf := flat_set hrs (i := i) (by rw [hr]; exact hi) y
  rcases h with ⟨e, _⟩ | ⟨g', cap', cur, e, hbg, hh, hnc, hcm, hcs, htk⟩
  · cases e
  · cases e
    refine ⟨⟨?_, .inr ⟨g, cap, cur.setIfInBounds (rows.length * size + i) y, ?_, hbg, heap_setCell_same w g _ cur _ y hh, ?_, hcm, by simpa using hcs, ?_⟩⟩, ?_⟩
    · rw [← hf, List.length_set, hl]; simp
    · simp
    · simpa using hnc
    · rw [Array.toList_setIfInBounds, ← hf, ← htk]
      simp only [List.length_append, List.length_singleton]
      rw [List.take_set]
    · intro q hq
      rcases List.mem_append.1 hq with hq | hq
      · exact hrs q hq
      · rw [List.mem_singleton.1 hq, List.length_set, hr]
theorem OR.cell {w : World} {base : Nat} {E : TypeId} {size g n cap : Nat} {rows : List (List Value)} (h : OR w base E size (.slice (some ⟨g, 0, none⟩) n cap) rows) {j : Nat} {r : List Value} (hr : rows[j]? = some r) {i : Nat} {u : Value} (hu : r[i]? = some u) :
    w.cell? ⟨g, j * size + i, none⟩ = some u ∧ w.frozen? ⟨g, j * size + i, none⟩ = false ∧ base ≤ g ∧ g < w.heap.size ∧ n = rows.length ∧ n ≤ cap ∧ cap ≤ 9223372036854775807 := by
  obtain ⟨⟨hl, h⟩, hs⟩ := h
  rcases h with ⟨e, _⟩ | ⟨g', cap', cur, e, hbg, hh, hnc, hcm, hcs, htk⟩
  · cases e
  · cases e
    have e := flat_at hs j r hr i u hu
    have hlt : j * size + i < rows.length * size := by rw [← flat_len hs]; exact (List.getElem?_eq_some_iff.1 e).1
    rw [← htk, List.getElem?_take, if_pos hlt] at e
    refine ⟨?_, frozen_of_row w g _ cur _ hh, hbg, (Array.getElem?_eq_some_iff.1 hh).1, rfl, hnc, by simpa [maxLen] using hcm⟩
    rw [cell_of_row w g _ cur _ (0, 0) hh]
    simpa using e
theorem OR.block {w : World} {base : Nat} {E : TypeId} {size : Nat} {v : Value} {rows : List (List Value)} (h : OR w base E size v rows) (h0 : 0 < rows.length) : ∃ g cap, v = .slice (some ⟨g, 0, none⟩) rows.length cap := by
  rcases h.1.2 with ⟨e, hn⟩ | ⟨g, cap, cur, e, _⟩
  · omega
  · exact ⟨g, cap, e⟩

/-- a field whose row lies in blocks from base on, off the hot blocks -/
def FRel (w : World) (base : Nat) (K : Nat → Prop) : Fld → Value → Prop
  | .val v, u => u = v
  | .row vs, u => ∃ C n, u = .slice C vs.length n ∧ RC w C n vs ∧ (0 < vs.length → ∀ p, C = some p → base ≤ p.block ∧ ¬ K p.block)
theorem FRel.grown {w w' : World} {base : Nat} {K : Nat → Prop} {f : Fld} {u : Value} {k : Option Nat} (h : FRel w base K f u) (hg : w.grownBy w' k) (hk : ∀ j, k = some j → K j ∨ j < base) : FRel w' base K f u := by
  cases f with
  | val v => exact h
  | row vs =>
    obtain ⟨C, n, e, hr, ho⟩ := h
    refine ⟨C, n, e, hr.grown hg (fun h0 p hp e => ?_), ho⟩
    have h1 := ho h0 p hp
    rcases hk _ e with h2 | h2
    · exact h1.2 h2
    · omega
theorem FRel.set {w : World} {base : Nat} {K : Nat → Prop} {f : Fld} {u : Value} (h : FRel w base K f u) {p : Addr} (hp : K p.block ∨ p.block < base) (x : Value) : FRel (w.setCell p x) base K f u := by
  cases f with
  | val v => exact h
  | row vs =>
    obtain ⟨C, n, e, hr, ho⟩ := h
    refine ⟨C, n, e, hr.other (fun h0 q hq e => ?_) x, ho⟩
    have h1 := ho h0 q hq
    have e2 := Option.some.inj e
    rw [← e2] at h1
    rcases hp with h2 | h2
    · exact h1.2 h2
    · omega
theorem FRel.hot {w : World} {base : Nat} {K K' : Nat → Prop} {f : Fld} {u : Value} (h : FRel w base K f u) (hk : ∀ j, K' j → K j ∨ w.heap.size ≤ j) : FRel w base K' f u := by
  cases f with
  | val v => exact h
  | row vs =>
    obtain ⟨C, n, e, hr, ho⟩ := h
    refine ⟨C, n, e, hr, fun h0 p hp => ⟨(ho h0 p hp).1, fun hK => ?_⟩⟩
    rcases hk _ hK with h2 | h2
    · exact (ho h0 p hp).2 h2
    · obtain ⟨b, o, e2, hlt, _⟩ := hr.2.2 h0
      rw [e2] at hp
      cases hp
      exact absurd hlt (by simpa using h2)
theorem FRel.is {w : World} {base : Nat} {K : Nat → Prop} {f : Fld} {u : Value} (h : FRel w base K f u) : f.is w none u := by
  cases f with
  | val v => exact h
  | row vs =>
    obtain ⟨C, n, e, hr, _⟩ := h
    exact ⟨C, n, e, hr, fun _ _ _ h => by cases h⟩
/-- two values do not own one block -/
def Dis (u v : Value) : Prop := ∀ k, u.ownBlock = some k → v.ownBlock ≠ some k
theorem Dis.symm {u v : Value} (h : Dis u v) : Dis v u := fun k h1 h2 => h k h2 h1
theorem Dis.lt {u v : Value} {n : Nat} (h1 : ∀ k, u.ownBlock = some k → k < n) (h2 : ∀ k, v.ownBlock = some k → n ≤ k) : Dis u v := fun k e1 e2 => by
  have := h1 k e1; have := h2 k e2; omega
/-- the pieces ahead of the last one lie still; the last one's rows us are the call's own and hold ls -/
def PL (w : World) (base : Nat) (v : Value) (qs : List (Pc ByteArray)) (kd : Int) (us : List Value) (ls : List (List ByteArray)) : Prop :=
  ∃ rows, OR w base 81 4 v (rows ++ [.int .i64 kd :: us]) ∧ us.length = 3 ∧ ls.length = 3 ∧
    Rel2 (Rel2 (FRel w base (fun k => v.ownBlock = some k ∨ ∃ u ∈ us, u.ownBlock = some k))) (qs.map pcF) rows ∧
    (∀ (j : Nat) u l, us[j]? = some u → ls[j]? = some l → OT w base u l) ∧ (∀ u ∈ us, Dis v u) ∧ (∀ (i j : Nat) u u', i ≠ j → us[i]? = some u → us[j]? = some u' → Dis u u')
def PS (w : World) (base : Nat) (v : Value) (ps : List (Pc ByteArray)) : Prop :=
  (ps = [] ∧ v = .slice none 0 0) ∨ ∃ qs p us, ps = qs ++ [p] ∧ PL w base v qs p.kind us [p.o, p.a, p.b]
theorem PL.grown {w w' : World} {base : Nat} {v : Value} {qs : List (Pc ByteArray)} {kd : Int} {us : List Value} {ls : List (List ByteArray)} (h : PL w base v qs kd us ls) {k : Option Nat} (hg : w.grownBy w' k) (hk : ∀ j, k = some j → j < base) : PL w' base v qs kd us ls := by
  obtain ⟨rows, h1, h2, h3, h4, h5, h6, h7⟩ := h
  refine ⟨rows, h1.kept hg (fun j e e2 => ?_), h2, h3, h4.mono fun _ _ h => h.mono fun _ _ h => h.grown hg (fun j e => .inr (hk j e)), fun j u l hu hl => (h5 j u l hu hl).kept hg (fun i e e2 => ?_), h6, h7⟩
  · have := hk j e; have := (h1.own j e2).1; omega
  · have := hk i e; have := (h5 j u l hu hl).own i e2; omega
theorem PS.grown {w w' : World} {base : Nat} {v : Value} {ps : List (Pc ByteArray)} (h : PS w base v ps) {k : Option Nat} (hg : w.grownBy w' k) (hk : ∀ j, k = some j → j < base) : PS w' base v ps := by
  rcases h with h | ⟨qs, p, us, e, h⟩
  · exact .inl h
  · exact .inr ⟨qs, p, us, e, h.grown hg hk⟩
theorem PS.below {w w' : World} {base : Nat} {v : Value} {ps : List (Pc ByteArray)} (h : PS w base v ps) (hb : Below w.heap.size w w') : PS w' base v ps := h.grown (gb_below (World.grownBy.refl w none) hb) (fun j e => by cases e)
/-- all pieces lie still: what comes from block N on may be written -/
def PZ (w : World) (N base : Nat) (v : Value) (ps : List (Pc ByteArray)) : Prop :=
  ∃ rows, OR w base 81 4 v rows ∧ Rel2 (Rel2 (FRel w base (fun k => v.ownBlock = some k ∨ N ≤ k))) (ps.map pcF) rows ∧ ∀ k, v.ownBlock = some k → k < N
theorem PS.still {w : World} {base : Nat} {v : Value} {ps : List (Pc ByteArray)} (h : PS w base v ps) : PZ w w.heap.size base v ps := by
  rcases h with ⟨rfl, rfl⟩ | ⟨qs, p, us, rfl, rows, h1, h2, h3, h4, h5, h6, h7⟩
  · exact ⟨[], OR.nil _ _ _ _, Rel2.nil, fun k e => by cases e⟩
  · refine ⟨_, h1, ?_, fun k e => (h1.own k e).2⟩
    rw [List.map_append, List.map_singleton]
    refine (h4.mono fun _ _ h => h.mono fun _ _ h => h.hot (fun j hj => ?_)).snoc ?_
    · rcases hj with hj | hj
      · exact .inl (.inl hj)
      · exact .inr hj
    · match us, h2 with
      | [u1, u2, u3], _ =>
        have one : ∀ (j : Nat) u l, [u1, u2, u3][j]? = some u → [p.o, p.a, p.b][j]? = some l → FRel w base (fun k => v.ownBlock = some k ∨ w.heap.size ≤ k) (.row (l.map Value.string)) u := by
          intro j u l hu hl
          have hot := h5 j u l hu hl
          obtain ⟨A, c, e, hr⟩ := hot.read
          refine ⟨A, c, by rw [e, List.length_map], hr.rc, fun h0 q hq => ?_⟩
          have hob : u.ownBlock = some q.block := by rw [e, hq]; rfl
          refine ⟨hot.own _ hob, ?_⟩
          rintro (e1 | e1)
          · exact h6 u (List.mem_of_getElem? hu) _ e1 hob
          · have := (World.ownsRow.lt hot _ hob).2; omega
        exact Rel2.cons rfl (Rel2.cons (one 0 u1 p.o rfl rfl) (Rel2.cons (one 1 u2 p.a rfl rfl) (Rel2.cons (one 2 u3 p.b rfl rfl) Rel2.nil)))
theorem PZ.grown {w w' : World} {N base : Nat} {v : Value} {ps : List (Pc ByteArray)} (h : PZ w N base v ps) {k : Option Nat} (hg : w.grownBy w' k) (hk : ∀ j, k = some j → j < base) : PZ w' N base v ps := by
  obtain ⟨rows, h1, h2, h3⟩ := h
  exact ⟨rows, h1.kept hg (fun j e e2 => by have := hk j e; have := (h1.own j e2).1; omega), h2.mono fun _ _ h => h.mono fun _ _ h => h.grown hg (fun j e => .inr (hk j e)), h3⟩
theorem PZ.below {w w' : World} {N base : Nat} {v : Value} {ps : List (Pc ByteArray)} (h : PZ w N base v ps) (hb : Below w.heap.size w w') : PZ w' N base v ps := h.grown (gb_below (World.grownBy.refl w none) hb) (fun j e => by cases e)
theorem PZ.read {w : World} {N base : Nat} {v : Value} {ps : List (Pc ByteArray)} (h : PZ w N base v ps) : ∃ A c, v = .slice A ps.length c ∧ RF w A c 4 (ps.map pcF) := by
  obtain ⟨rows, h1, h2, _⟩ := h
  obtain ⟨A, c, e, r1, r2, r3⟩ := h1.read
  have hl : rows.length = ps.length := by have := h2.1; rw [List.length_map] at this; exact this.symm
  refine ⟨A, c, by rw [e, hl], by rw [List.length_map, ← hl]; exact r1, r2, fun h0 => ?_⟩
  obtain ⟨b, o, e2, hlt, hc⟩ := r3 (by rw [List.length_map, ← hl] at h0; exact h0)
  refine ⟨b, o, e2, hlt, fun j f hf i g hg => ?_⟩
  obtain ⟨r, hr, hfr⟩ := h2.at_ hf
  obtain ⟨u, hu, hgu⟩ := hfr.at_ hg
  exact ⟨u, hc j r hr i u hu, hgu.is⟩
theorem PS.read {w : World} {base : Nat} {v : Value} {ps : List (Pc ByteArray)} (h : PS w base v ps) : ∃ A c, v = .slice A ps.length c ∧ RF w A c 4 (ps.map pcF) := h.still.read
/-- a piece is appended whose rows are new -/
theorem PZ.append {w w' : World} {N base : Nat} {v v' : Value} {ps : List (Pc ByteArray)} {p : Pc ByteArray} {u1 u2 u3 : Value} {rows : List (List Value)} (h2 : Rel2 (Rel2 (FRel w base (fun k => v.ownBlock = some k ∨ N ≤ k))) (ps.map pcF) rows) (h3 : ∀ k, v.ownBlock = some k → k < N)
    (o1 : OT w N u1 p.o) (o2 : OT w N u2 p.a) (o3 : OT w N u3 p.b) (d12 : Dis u1 u2) (d13 : Dis u1 u3) (d23 : Dis u2 u3) (hN : base ≤ N) (hNw : N ≤ w.heap.size)
    (hor : OR w' base 81 4 v' (rows ++ [[.int .i64 p.kind, u1, u2, u3]])) (hg : w.grownBy w' v.ownBlock) (hv : v'.ownBlock = v.ownBlock ∨ v'.ownBlock = some w.heap.size) : PS w' base v' (ps ++ [p]) := by
  have lt1 : ∀ u, (u = u1 ∨ u = u2 ∨ u = u3) → ∀ k, u.ownBlock = some k → N ≤ k ∧ k < w.heap.size := by
    rintro u (rfl | rfl | rfl) k e
    · exact World.ownsRow.lt o1 k e
    · exact World.ownsRow.lt o2 k e
    · exact World.ownsRow.lt o3 k e
  have mem3 : ∀ u ∈ [u1, u2, u3], u = u1 ∨ u = u2 ∨ u = u3 := fun u hu => by simpa using hu
  have hvd : ∀ u, (u = u1 ∨ u = u2 ∨ u = u3) → Dis v' u := by
    intro u hu k e1 e2
    have := lt1 u hu k e2
    rcases hv with hv | hv
    · rw [hv] at e1; have := h3 k e1; omega
    · rw [hv] at e1; have := Option.some.inj e1; omega
  have kept : ∀ {u : Value} {l : List ByteArray}, OT w N u l → (u = u1 ∨ u = u2 ∨ u = u3) → OT w' base u l := by
    intro u l ho hu
    refine (ho.kept hg (fun j e e2 => ?_)).baseN hN
    have := h3 j e
    have := (lt1 u hu j e2).1
    omega
  refine .inr ⟨ps, p, [u1, u2, u3], rfl, rows, hor, rfl, rfl, (h2.mono fun _ _ h => h.mono fun _ _ h => ?_), fun j u l hu hl => ?_, fun u hu => hvd u (mem3 u hu), fun i j u u' hij hu hu' => ?_⟩
  · refine ((h.hot (K' := fun k => v.ownBlock = some k ∨ N ≤ k) (fun j hj => .inl hj)).grown hg (fun j e => .inl (.inl e))).hot (fun j hj => ?_)
    rcases hj with hj | ⟨u, hu, hj⟩
    · rcases hv with hv | hv
      · rw [hv] at hj; exact .inl (.inl hj)
      · rw [hv] at hj; have := Option.some.inj hj; exact .inl (.inr (by omega))
    · exact .inl (.inr (lt1 u (mem3 u hu) j hj).1)
  · match j, hu, hl with
    | 0, hu, hl => cases hu; cases hl; exact kept o1 (.inl rfl)
    | 1, hu, hl => cases hu; cases hl; exact kept o2 (.inr (.inl rfl))
    | 2, hu, hl => cases hu; cases hl; exact kept o3 (.inr (.inr rfl))
    | j + 3, hu, hl => simp at hu
  · match i, j, hu, hu', hij with
    | 0, 0, _, _, h => exact absurd rfl h
    | 1, 1, _, _, h => exact absurd rfl h
    | 2, 2, _, _, h => exact absurd rfl h
    | 0, 1, hu, hu', _ => cases hu; cases hu'; exact d12
    | 0, 2, hu, hu', _ => cases hu; cases hu'; exact d13
    | 1, 2, hu, hu', _ => cases hu; cases hu'; exact d23
    | 1, 0, hu, hu', _ => cases hu; cases hu'; exact d12.symm
    | 2, 0, hu, hu', _ => cases hu; cases hu'; exact d13.symm
    | 2, 1, hu, hu', _ => cases hu; cases hu'; exact d23.symm
    | i + 3, _, hu, _, _ => simp at hu
    | _, j + 3, _, hu', _ => simp at hu'
/-- one of the last piece's rows is grown -/
theorem PL.put {w w1 : World} {base g cap n : Nat} {qs : List (Pc ByteArray)} {kd : Int} {us : List Value} {ls : List (List ByteArray)} (h : PL w base (.slice (some ⟨g, 0, none⟩) n cap) qs kd us ls) {j : Nat} {u u' : Value} {l' : List ByteArray} (hj : us[j]? = some u)
    (hot : OT w1 base u' l') (hg : w.grownBy w1 u.ownBlock) (hu : u'.ownBlock = u.ownBlock ∨ u'.ownBlock = some w.heap.size) : PL (w1.setCell ⟨g, qs.length * 4 + (1 + j), none⟩ u') base (.slice (some ⟨g, 0, none⟩) n cap) qs kd (us.set j u') (ls.set j l') := by
  obtain ⟨rows, h1, h2, h3, h4, h5, h6, h7⟩ := h
  have hjl : j < 3 := by rw [← h2]; exact (List.getElem?_eq_some_iff.1 hj).1
  have hrl : rows.length = qs.length := by have := h4.1; rw [List.length_map] at this; exact this.symm
  have hum : u ∈ us := List.mem_of_getElem? hj
  have hgne : ∀ k, u.ownBlock = some k → k ≠ g := fun k e e2 => h6 u hum g rfl (by rw [e, e2])
  have hgl := (h1.own g rfl)
  have hu'g : u'.ownBlock ≠ some g := by
    intro e
    rcases hu with hu | hu
    · exact hgne g (by rw [← hu, e]) rfl
    · rw [hu] at e; have := Option.some.inj e; omega
  have setmem : ∀ (i : Nat) x, (us.set j u')[i]? = some x → (i = j ∧ x = u') ∨ (i ≠ j ∧ us[i]? = some x) := by
    intro i x hx
    by_cases e : i = j
    · subst e
      rw [List.getElem?_set_self (by rw [h2]; exact hjl)] at hx
      exact .inl ⟨rfl, (Option.some.inj hx).symm⟩
    · rw [List.getElem?_set_ne (fun h => e h.symm)] at hx
      exact .inr ⟨e, hx⟩
  have dis : ∀ (i : Nat) x, i ≠ j → us[i]? = some x → Dis u' x := by
    intro i x hi hx k e1 e2
    rcases hu with hu | hu
    · rw [hu] at e1; exact h7 j i u x (fun e => hi e.symm) hj hx k e1 e2
    · rw [hu] at e1
      have e3 := Option.some.inj e1
      have hil : i < ls.length := by rw [h3, ← h2]; exact (List.getElem?_eq_some_iff.1 hx).1
      have := (World.ownsRow.lt (h5 i x _ hx (List.getElem?_eq_getElem hil)) k e2).2
      omega
  refine ⟨rows, ?_, by rw [List.length_set]; exact h2, by rw [List.length_set]; exact h3, ?_, ?_, ?_, ?_⟩
  · have ho := (h1.kept hg (fun k e e2 => by cases e2; exact hgne g e rfl))
    have := ho.set (i := 1 + j) (by omega) u'
    rw [hrl] at this
    rw [show (Value.int .i64 kd :: us).set (1 + j) u' = .int .i64 kd :: us.set j u' by rw [Nat.add_comm]; rfl] at this
    exact this
  · refine h4.mono fun _ _ h => h.mono fun _ _ h => ?_
    have hh := ((h.hot (K' := fun k => (Value.slice (some ⟨g, 0, none⟩) n cap).ownBlock = some k ∨ (∃ x ∈ us, x.ownBlock = some k) ∨ w.heap.size ≤ k) (fun k hk => by
      rcases hk with hk | hk | hk
      · exact .inl (.inl hk)
      · exact .inl (.inr hk)
      · exact .inr hk)).grown hg (fun k e => .inl (.inr (.inl ⟨u, hum, e⟩)))).set (p := ⟨g, qs.length * 4 + (1 + j), none⟩) (.inl (.inl rfl)) u'
    refine hh.hot (fun k hk => .inl ?_)
    rcases hk with hk | ⟨x, hx, hk⟩
    · exact .inl hk
    · obtain ⟨i, hi⟩ := List.getElem?_of_mem hx
      rcases setmem i x hi with ⟨_, e⟩ | ⟨_, hi⟩
      · rw [e] at hk
        rcases hu with hu | hu
        · exact .inr (.inl ⟨u, hum, by rw [← hu]; exact hk⟩)
        · rw [hu] at hk; have := Option.some.inj hk; exact .inr (.inr (by omega))
      · exact .inr (.inl ⟨x, List.mem_of_getElem? hi, hk⟩)
  · intro i x l hx hl
    rcases setmem i x hx with ⟨rfl, rfl⟩ | ⟨hi, hx⟩
    · rw [List.getElem?_set_self (by rw [h3]; exact hjl)] at hl
      cases hl
      exact hot.otherN hu'g _
    · rw [List.getElem?_set_ne (fun h => hi h.symm)] at hl
      refine ((h5 i x l hx hl).kept hg (fun k e e2 => h7 j i u x (fun e => hi e.symm) hj hx k e e2)).otherN (fun e => ?_) _
      exact h6 x (List.mem_of_getElem? hx) g rfl e
  · intro x hx k e1 e2
    obtain ⟨i, hi⟩ := List.getElem?_of_mem hx
    cases e1
    rcases setmem i x hi with ⟨_, rfl⟩ | ⟨_, hi⟩
    · exact hu'g e2
    · exact h6 x (List.mem_of_getElem? hi) g rfl e2
  · intro i i' x x' hii hx hx'
    rcases setmem i x hx with ⟨rfl, rfl⟩ | ⟨hi, hx⟩
    · rcases setmem i' x' hx' with ⟨rfl, rfl⟩ | ⟨hi', hx'⟩
      · exact absurd rfl hii
      · exact dis i' x' hi' hx'
    · rcases setmem i' x' hx' with ⟨e1, e2⟩ | ⟨hi', hx2⟩
      · rw [e2]; exact (dis i x hi hx).symm
      · exact h7 i i' x x' hii hx hx2
end Go.Proofs.YtfhkmmicdbblnaaDoor

