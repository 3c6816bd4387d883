/-
  What the revisions of a depot that changes made are like: plain facts, no program in sight.
-/
import Derived.Test.YteagecjhpfijjaaDoorW0
namespace Go.Proofs.YteagecjhpfijjaaDoor
set_option linter.unusedSimpArgs false
set_option linter.unusedVariables false

theorem logR_app (a b : List Rv) (p : ByteArray) : logR (a ++ b) p = logR a p ++ logR b p := List.filter_append _ _
theorem getR_app (a b : List Rv) (p : ByteArray) (k : Int) : getR (a ++ b) p k = (getR a p k).or (getR b p k) := by
  unfold getR; rw [logR_app, List.find?_append]
theorem logR_made {n : Int} : ∀ {es : List Ed} (p : ByteArray), (es.map (fun x => x.path)).Nodup → (logR (es.map (madeR n)) p = [] ∧ ∀ x ∈ es, x.path ≠ p) ∨ ∃ x ∈ es, x.path = p ∧ logR (es.map (madeR n)) p = [madeR n x]
  | [], p, _ => .inl ⟨rfl, fun x h => by cases h⟩
  | y :: es, p, h => by
    rw [List.map_cons, List.nodup_cons] at h
    rcases logR_made (n := n) p h.2 with ⟨h1, h2⟩ | ⟨x, hx, h1, h2⟩
    · by_cases e : y.path = p
      · refine .inr ⟨y, List.mem_cons_self, e, ?_⟩
        unfold logR at h1 ⊢
        rw [List.map_cons, List.filter_cons, if_pos (show decide ((madeR n y).path = p) = true from decide_eq_true e), h1]
      · refine .inl ⟨?_, fun x hx => ?_⟩
        · unfold logR at h1 ⊢
          rw [List.map_cons, List.filter_cons, if_neg (show ¬ decide ((madeR n y).path = p) = true from fun h => e (of_decide_eq_true h)), h1]
        · rcases List.mem_cons.1 hx with rfl | hx
          · exact e
          · exact h2 x hx
    · refine .inr ⟨x, List.mem_cons_of_mem _ hx, h1, ?_⟩
      have e : y.path ≠ p := fun e => h.1 (by rw [e, ← h1]; exact List.mem_map_of_mem hx)
      unfold logR at h2 ⊢
      rw [List.map_cons, List.filter_cons, if_neg (show ¬ decide ((madeR n y).path = p) = true from fun h => e (of_decide_eq_true h)), h2]
theorem mem_logR {rs : List Rv} {p : ByteArray} {v : Rv} : v ∈ logR rs p ↔ v ∈ rs ∧ v.path = p := by
  unfold logR; rw [List.mem_filter]; simp

/-- what the revisions of a depot are like -/
structure Inv (rs : List Rv) : Prop where
  num : ∀ (p : ByteArray) (j : Nat) (v : Rv), (logR rs p)[j]? = some v → v.num = (j : Int) + 1
  asc : rs.Pairwise (fun a b => a.chg ≤ b.chg)
  pasc : ∀ p, (logR rs p).Pairwise (fun a b => a.chg < b.chg)
  act : ∀ v ∈ rs, 1 ≤ v.act ∧ v.act ≤ 5 ∧ 1 ≤ v.chg ∧ v.chg ≤ 1073741824
  prev : ∀ v ∈ rs, v.act ≠ 1 → ∃ u, prevR rs v = some u ∧ u.chg < v.chg ∧ goneR u = false
  next : ∀ u ∈ rs, ∀ v ∈ rs, v.path = u.path → v.num = u.num + 1 → goneR u = false → v.act ≠ 1 ∧ v.act ≠ 4
  away : ∀ v ∈ rs, v.act = 5 → ∃ s ∈ rs, s.act = 4 ∧ s.frm = v.path ∧ s.fnum = v.num - 1 ∧ s.chg = v.chg ∧ ∀ t ∈ rs, t.act = 4 → t.frm = v.path → t.chg = v.chg → t = s
  here : ∀ s ∈ rs, s.act = 4 → ∃ v ∈ rs, v.act = 5 ∧ v.path = s.frm ∧ v.num = s.fnum + 1 ∧ v.chg = s.chg
theorem Inv.idx {rs : List Rv} (h : Inv rs) {v : Rv} (hv : v ∈ rs) : ∃ j : Nat, (logR rs v.path)[j]? = some v ∧ v.num = (j : Int) + 1 ∧ j < (logR rs v.path).length := by
  obtain ⟨j, hj⟩ := List.mem_iff_getElem?.1 (mem_logR.2 ⟨hv, rfl⟩)
  exact ⟨j, hj, h.num _ _ _ hj, (List.getElem?_eq_some_iff.1 hj).1⟩
theorem Inv.get {rs : List Rv} (h : Inv rs) {p : ByteArray} {j : Nat} {v : Rv} (hv : (logR rs p)[j]? = some v) : getR rs p ((j : Int) + 1) = some v := by
  have hn := h.num _ _ _ hv
  have hm := List.mem_of_getElem? hv
  cases hg : getR rs p ((j : Int) + 1) with
  | none =>
    unfold getR at hg
    have := List.find?_eq_none.1 hg v hm
    simp [hn] at this
  | some u =>
    obtain ⟨h1, h2, h3⟩ := getR_mem hg
    obtain ⟨i, hi⟩ := List.mem_iff_getElem?.1 (mem_logR.2 ⟨h1, h2⟩)
    have := h.num _ _ _ hi
    have : i = j := by omega
    subst this
    rw [hi] at hv
    exact hv
theorem Inv.uniq {rs : List Rv} (h : Inv rs) {u v : Rv} (hu : u ∈ rs) (hv : v ∈ rs) (hp : u.path = v.path) (hn : u.num = v.num) : u = v := by
  obtain ⟨i, hi, ni, _⟩ := h.idx hu
  obtain ⟨j, hj, nj, _⟩ := h.idx hv
  have : i = j := by omega
  subst this
  rw [hp, hj] at hi
  exact (Option.some.inj hi).symm
theorem Inv.get_mem {rs : List Rv} (h : Inv rs) {v : Rv} (hv : v ∈ rs) : getR rs v.path v.num = some v := by
  obtain ⟨j, hj, nj, _⟩ := h.idx hv
  rw [nj]
  exact h.get hj
theorem Inv.lastN {rs : List Rv} (h : Inv rs) (p : ByteArray) : lastN rs p = ((logR rs p).length : Int) := by
  unfold Go.Proofs.YteagecjhpfijjaaDoor.lastN lastR
  cases hl : (logR rs p).getLast? with
  | none => rw [List.getLast?_eq_none_iff.1 hl]; rfl
  | some v =>
    rw [List.getLast?_eq_getElem?] at hl
    have := h.num _ _ _ hl
    have := (List.getElem?_eq_some_iff.1 hl).1
    simp only [Option.getD_some]
    omega
theorem Inv.num_le {rs : List Rv} (h : Inv rs) {v : Rv} (hv : v ∈ rs) : 1 ≤ v.num ∧ v.num ≤ Go.Proofs.YteagecjhpfijjaaDoor.lastN rs v.path := by
  obtain ⟨j, hj, nj, hl⟩ := h.idx hv
  rw [h.lastN]
  omega
theorem Inv.live {rs : List Rv} (h : Inv rs) {p : ByteArray} (hl : liveR rs p = true) : ∃ u, lastR rs p = some u ∧ u ∈ rs ∧ u.path = p ∧ goneR u = false ∧ Go.Proofs.YteagecjhpfijjaaDoor.lastN rs p = u.num ∧ getR rs p (Go.Proofs.YteagecjhpfijjaaDoor.lastN rs p) = some u := by
  unfold liveR at hl
  cases hq : lastR rs p with
  | none => rw [hq] at hl; cases hl
  | some u =>
    rw [hq] at hl
    have hn : Go.Proofs.YteagecjhpfijjaaDoor.lastN rs p = u.num := by unfold Go.Proofs.YteagecjhpfijjaaDoor.lastN; rw [hq]; rfl
    have hm : u ∈ logR rs p := List.mem_of_getLast? hq
    obtain ⟨h1, h2⟩ := mem_logR.1 hm
    refine ⟨u, rfl, h1, h2, by simpa using hl, hn, ?_⟩
    rw [hn, ← h2]
    exact h.get_mem h1
theorem Inv.last_eq {rs : List Rv} (h : Inv rs) {u : Rv} (hu : u ∈ rs) (hn : u.num = Go.Proofs.YteagecjhpfijjaaDoor.lastN rs u.path) : lastR rs u.path = some u := by
  obtain ⟨j, hj, nj, hl⟩ := h.idx hu
  rw [h.lastN] at hn
  unfold lastR
  rw [List.getLast?_eq_getElem?]
  have : (logR rs u.path).length - 1 = j := by omega
  rw [this]
  exact hj
theorem one_mem {α : Type} {l : List α} {a b : α} (h : l.length = 1) (ha : a ∈ l) (hb : b ∈ l) : a = b := by
  match l, h with
  | [c], _ => rw [List.mem_singleton.1 ha, List.mem_singleton.1 hb]
theorem mv_away {es : List Ed} {x : Ed} (hm : movedB es x = true) (ha : x.act = 5) : ∃ y ∈ es, y.act = 4 ∧ y.frm = x.path ∧ ∀ z ∈ es, z.act = 4 → z.frm = x.path → z = y := by
  unfold movedB at hm
  have h1 : mvN es x = 1 := by
    rcases Bool.or_eq_true_iff.1 hm with h | h
    · simpa using h
    · rw [ha] at h; simp at h
  unfold mvN at h1
  obtain ⟨y, hy⟩ : ∃ y, y ∈ es.filter (mvY x) := List.exists_mem_of_length_pos (by omega)
  have hk : ∀ z, mvY x z = true ↔ z.act = 4 ∧ z.frm = x.path := fun z => by unfold mvY; rw [ha]; simp
  obtain ⟨m1, m2⟩ := List.mem_filter.1 hy
  obtain ⟨a1, a2⟩ := (hk y).1 m2
  exact ⟨y, m1, a1, a2, fun z hz z1 z2 => one_mem h1 (List.mem_filter.2 ⟨hz, (hk z).2 ⟨z1, z2⟩⟩) hy⟩
theorem mv_here {es : List Ed} {x : Ed} (hm : movedB es x = true) (ha : x.act = 4) : ∃ y ∈ es, y.act = 5 ∧ y.path = x.frm := by
  unfold movedB at hm
  have h1 : mvN es x = 1 := by
    rcases Bool.or_eq_true_iff.1 hm with h | h
    · simpa using h
    · rw [ha] at h; simp at h
  unfold mvN at h1
  obtain ⟨y, hy⟩ : ∃ y, y ∈ es.filter (mvY x) := List.exists_mem_of_length_pos (by omega)
  obtain ⟨m1, m2⟩ := List.mem_filter.1 hy
  unfold mvY at m2
  rw [ha] at m2
  simp at m2
  exact ⟨y, m1, m2.1, m2.2⟩
theorem path_inj : ∀ {es : List Ed}, (es.map (fun x => x.path)).Nodup → ∀ {x y : Ed}, x ∈ es → y ∈ es → x.path = y.path → x = y
  | [], _, x, _, h, _, _ => by cases h
  | z :: es, h, x, y, hx, hy, e => by
    rw [List.map_cons, List.nodup_cons] at h
    rcases List.mem_cons.1 hx with hx1 | hx1
    · rcases List.mem_cons.1 hy with hy1 | hy1
      · rw [hx1, hy1]
      · exact absurd (by rw [← hx1, e]; exact List.mem_map_of_mem (f := fun x : Ed => x.path) hy1) h.1
    · rcases List.mem_cons.1 hy with hy1 | hy1
      · exact absurd (by rw [← hy1, ← e]; exact List.mem_map_of_mem (f := fun x : Ed => x.path) hx1) h.1
      · exact path_inj h.2 hx1 hy1 e
theorem Inv.nil : Inv [] :=
  ⟨fun p j v h => by simp [logR] at h, List.Pairwise.nil, fun p => by simp [logR], (fun v h => by cases h), (fun v h => by cases h), (fun u h => by cases h), (fun v h => by cases h), (fun v h => by cases h)⟩
theorem mem_made {n : Int} {es : List Ed} {v : Rv} (h : v ∈ es.map (madeR n)) : ∃ x ∈ es, madeR n x = v := List.mem_map.1 h
theorem prev_ext {rs bs : List Rv} {v u : Rv} (h : prevR rs v = some u) : prevR (rs ++ bs) v = some u := by
  unfold prevR at h ⊢
  split at h
  · cases h
  · rename_i h1
    rw [if_neg h1]
    split at h
    · rename_i h4
      rw [if_pos h4, getR_app, h]; rfl
    · rename_i h4
      rw [if_neg h4, getR_app, h]; rfl
theorem Batch.prev {rs : List Rv} {n : Int} {es : List Ed} (h : Inv rs) (b : Batch rs n es) {x : Ed} (hx : x ∈ es) (h1 : x.act ≠ 1) : ∃ u, prevR rs (madeR n x) = some u ∧ u.chg < n ∧ goneR u = false := by
  have hf := b.frm x hx
  have ha := b.act x hx
  have hb := b.base x hx
  unfold BaseOk at hb
  unfold prevR
  have h1' : (madeR n x).act ≠ 1 := h1
  rw [if_neg h1']
  by_cases h4 : x.act = 4
  · have h4' : (madeR n x).act = 4 := h4
    rw [if_pos h4']
    rcases hf with ⟨_, f1, f2, _⟩ | ⟨f0, _⟩
    · obtain ⟨u, _, hm, _, hg, hn, hgt⟩ := h.live f1
      refine ⟨u, ?_, b.lt u hm, hg⟩
      rw [← hgt, f2]
      rfl
    · exact absurd h4 f0
  · have h4' : ¬ (madeR n x).act = 4 := h4
    rw [if_neg h4']
    have hl : liveR rs x.path = true := by
      cases hl : liveR rs x.path with
      | true => rfl
      | false =>
        rcases ha.2.2.2 hl with e | e
        · exact absurd e h1
        · exact absurd e h4
    obtain ⟨u, _, hm, _, hg, hn, hgt⟩ := h.live hl
    refine ⟨u, ?_, b.lt u hm, hg⟩
    have e : (madeR n x).num - 1 = Go.Proofs.YteagecjhpfijjaaDoor.lastN rs x.path := by
      show x.base + 1 - 1 = _
      omega
    rw [e]
    exact hgt
theorem Inv.app {rs : List Rv} {n : Int} {es : List Ed} (h : Inv rs) (b : Batch rs n es) : Inv (rs ++ es.map (madeR n)) := by
  refine ⟨fun p j v hj => ?_, ?_, fun p => ?_, fun v hv => ?_, fun v hv ha => ?_, fun u hu v hv hp hn hg => ?_, fun v hv ha => ?_, fun s hs ha => ?_⟩
  · rw [logR_app] at hj
    rcases logR_made (n := n) p b.nodup with ⟨h1, _⟩ | ⟨x, hx, h1, h2⟩
    · rw [h1, List.append_nil] at hj
      exact h.num _ _ _ hj
    · rw [h2] at hj
      rcases Nat.lt_or_ge j (logR rs p).length with hlt | hge
      · rw [List.getElem?_append_left hlt] at hj
        exact h.num _ _ _ hj
      · rw [List.getElem?_append_right hge] at hj
        have hb := b.base x hx
        unfold BaseOk at hb
        rw [h1, h.lastN] at hb
        have hz : j - (logR rs p).length = 0 := by
          have := (List.getElem?_eq_some_iff.1 hj).1
          simp at this
          omega
        rw [hz] at hj
        have : madeR n x = v := by simpa using hj
        rw [← this]
        show x.base + 1 = _
        omega
  · refine List.pairwise_append.2 ⟨h.asc, ?_, fun u hu v hv => ?_⟩
    · rw [List.pairwise_map]
      exact List.pairwise_of_forall (fun _ _ => Int.le_refl _)
    · obtain ⟨x, _, rfl⟩ := mem_made hv
      exact Int.le_of_lt (b.lt u hu)
  · rw [logR_app]
    refine List.pairwise_append.2 ⟨h.pasc p, ?_, fun u hu v hv => ?_⟩
    · rcases logR_made (n := n) p b.nodup with ⟨h1, _⟩ | ⟨x, hx, h1, h2⟩
      · rw [h1]; exact List.Pairwise.nil
      · rw [h2]; exact List.pairwise_singleton _ _
    · obtain ⟨x, _, rfl⟩ := mem_made (mem_logR.1 hv).1
      exact b.lt u (mem_logR.1 hu).1
  · rcases List.mem_append.1 hv with hv | hv
    · exact h.act v hv
    · obtain ⟨x, hx, rfl⟩ := mem_made hv
      have := b.act x hx
      exact ⟨this.1, this.2.1, b.pos, b.top⟩
  · rcases List.mem_append.1 hv with hv | hv
    · obtain ⟨u, h1, h2, h3⟩ := h.prev v hv ha
      exact ⟨u, prev_ext h1, h2, h3⟩
    · obtain ⟨x, hx, rfl⟩ := mem_made hv
      obtain ⟨u, h1, h2, h3⟩ := b.prev h hx ha
      exact ⟨u, prev_ext h1, h2, h3⟩
  · rcases List.mem_append.1 hu with hu | hu
    · rcases List.mem_append.1 hv with hv | hv
      · exact h.next u hu v hv hp hn hg
      · obtain ⟨x, hx, rfl⟩ := mem_made hv
        have hb := b.base x hx
        unfold BaseOk at hb
        have hpx : x.path = u.path := hp
        have hnx : x.base + 1 = u.num + 1 := hn
        have hl := h.last_eq hu (by rw [hpx] at hb; omega)
        have hlv : liveR rs x.path = true := by
          unfold liveR
          rw [hpx, hl]
          simp [hg]
        have ha := (b.act x hx).2.2
        refine ⟨fun e => ?_, fun e => ?_⟩
        · rw [ha.1 (.inl e)] at hlv; cases hlv
        · rw [ha.1 (.inr e)] at hlv; cases hlv
    · obtain ⟨x, hx, rfl⟩ := mem_made hu
      have hb := b.base x hx
      unfold BaseOk at hb
      rcases List.mem_append.1 hv with hv | hv
      · exfalso
        have := (h.num_le hv).2
        have hpx : v.path = x.path := hp
        have hnx : v.num = x.base + 1 + 1 := hn
        rw [hpx] at this
        omega
      · exfalso
        obtain ⟨y, hy, rfl⟩ := mem_made hv
        have := path_inj b.nodup hy hx hp
        subst this
        have hnx : y.base + 1 = y.base + 1 + 1 := hn
        omega
  · rcases List.mem_append.1 hv with hv | hv
    · obtain ⟨s, h1, h2, h3, h4, h5, h6⟩ := h.away v hv ha
      refine ⟨s, List.mem_append_left _ h1, h2, h3, h4, h5, fun t ht t1 t2 t3 => ?_⟩
      rcases List.mem_append.1 ht with ht | ht
      · exact h6 t ht t1 t2 t3
      · exfalso
        obtain ⟨y, hy, rfl⟩ := mem_made ht
        have := b.lt v hv
        have : n = v.chg := t3
        omega
    · obtain ⟨x, hx, rfl⟩ := mem_made hv
      obtain ⟨y, y1, y2, y3, y4⟩ := mv_away (b.mov x hx) ha
      have hb := b.base x hx
      unfold BaseOk at hb
      refine ⟨madeR n y, List.mem_append_right _ (List.mem_map_of_mem y1), y2, y3, ?_, rfl, fun t ht t1 t2 t3 => ?_⟩
      · rcases b.frm y y1 with ⟨_, _, f2, _⟩ | ⟨f0, _⟩
        · show y.fnum = x.base + 1 - 1
          rw [y3] at f2
          omega
        · exact absurd y2 f0
      · rcases List.mem_append.1 ht with ht | ht
        · exfalso
          have := b.lt t ht
          have : t.chg = n := t3
          omega
        · obtain ⟨z, hz, rfl⟩ := mem_made ht
          rw [y4 z hz t1 t2]
  · rcases List.mem_append.1 hs with hs | hs
    · obtain ⟨v, h1, h2⟩ := h.here s hs ha
      exact ⟨v, List.mem_append_left _ h1, h2⟩
    · obtain ⟨x, hx, rfl⟩ := mem_made hs
      obtain ⟨y, y1, y2, y3⟩ := mv_here (b.mov x hx) ha
      have hb := b.base y y1
      unfold BaseOk at hb
      refine ⟨madeR n y, List.mem_append_right _ (List.mem_map_of_mem y1), y2, y3, ?_, rfl⟩
      rcases b.frm x hx with ⟨_, _, f2, _⟩ | ⟨f0, _⟩
      · show y.base + 1 = x.fnum + 1
        rw [y3] at hb
        omega
      · exact absurd ha f0
theorem VH.inv {rs : List Rv} (h : VH rs) : Inv rs := by
  induction h with
  | nil => exact Inv.nil
  | app h b ih => exact ih.app b
end Go.Proofs.YteagecjhpfijjaaDoor

