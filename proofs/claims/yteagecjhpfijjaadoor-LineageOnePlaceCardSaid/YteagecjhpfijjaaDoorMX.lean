/-
  Several texts in one: W4, W5, V35, V36, V37, V38, V39.
-/
import Derived.Test.YteagecjhpfijjaaDoorW3
import Derived.Test.YteagecjhpfijjaaDoorV34
import Derived.Test.YteagecjhpfijjaaDoorV23
import Derived.Test.YteagecjhpfijjaaDoorV29
import Derived.WideKeyEntry
import Derived.Test.YteagecjhpfijjaaDoorV9
import Derived.Test.YteagecjhpfijjaaDoorV16

/-
  How lines grow, and how a move alone goes on: plain facts, no program in sight.
-/
namespace Go.Proofs.YteagecjhpfijjaaDoor
set_option linter.unusedSimpArgs false
set_option linter.unusedVariables false

theorem Inv.first_app {rs bs : List Rv} (h : Inv rs) (h2 : Inv (rs ++ bs)) : ∀ (m : Nat) {v : Rv}, belowR rs v < m → v ∈ rs → firstR (rs ++ bs) v = firstR rs v
  | 0, v, hb, _ => by omega
  | m + 1, v, hb, hv => by
    by_cases h1 : v.act = 1
    · rw [firstR_add h1, firstR_add h1]
    · obtain ⟨u, hu, hc, _⟩ := h.prev v hv h1
      have hlt := belowR_lt (v := v) (prevR_mem hu) hc
      rw [firstR_step hu hc, firstR_step (prev_ext hu) hc]
      exact h.first_app h2 m (by omega) (prevR_mem hu)
theorem Inv.mem_app {rs bs : List Rv} (h : Inv rs) (h2 : Inv (rs ++ bs)) {f : ByteArray × Int} {v : Rv} (hv : v ∈ rs) : memF (rs ++ bs) f v = memF rs f v := by
  rw [Bool.eq_iff_iff, memF_iff, memF_iff, h.first_app h2 _ (Nat.lt_succ_self _) hv]
theorem Inv.line_app {rs bs : List Rv} (h : Inv rs) (h2 : Inv (rs ++ bs)) (f : ByteArray × Int) : lineR (rs ++ bs) f = lineR rs f ++ bs.filter (memF (rs ++ bs) f) := by
  unfold lineR
  rw [List.filter_append]
  congr 1
  exact List.filter_congr fun v hv => h.mem_app h2 hv
theorem made_chg {n : Int} {es : List Ed} {v : Rv} (hv : v ∈ es.map (madeR n)) : v.chg = n := by
  obtain ⟨x, _, rfl⟩ := List.mem_map.1 hv
  rfl
theorem Batch.top_chg {rs : List Rv} {n : Int} {es : List Ed} (b : Batch rs n es) {v : Rv} (hv : v ∈ rs ++ es.map (madeR n)) : v.chg ≤ n := by
  rcases List.mem_append.1 hv with h | h
  · exact Int.le_of_lt (b.lt v h)
  · rw [made_chg h]; exact Int.le_refl _
/-- a line grows by one member at most -/
theorem Inv.line_grow {rs : List Rv} {n : Int} {es : List Ed} (h : Inv rs) (b : Batch rs n es) (f : ByteArray × Int) :
    ∃ t, lineR (rs ++ es.map (madeR n)) f = lineR rs f ++ t ∧ t.length ≤ 1 ∧ ∀ v ∈ t, v.chg = n := by
  have h2 := h.app b
  refine ⟨(es.map (madeR n)).filter (memF (rs ++ es.map (madeR n)) f), h.line_app h2 f, ?_, fun v hv => made_chg (List.mem_filter.1 hv).1⟩
  have ha := h2.line_asc f
  rw [h.line_app h2 f, List.pairwise_append] at ha
  have hp := ha.2.1
  have hc : ∀ v ∈ (es.map (madeR n)).filter (memF (rs ++ es.map (madeR n)) f), v.chg = n := fun v hv => made_chg (List.mem_filter.1 hv).1
  generalize (es.map (madeR n)).filter (memF (rs ++ es.map (madeR n)) f) = t at *
  match t, hp, hc with
  | [], _, _ => simp
  | [_], _, _ => simp
  | a :: c :: t, hp, hc =>
    exfalso
    have h1 := hc a (by simp)
    have h3 := hc c (by simp)
    have := (List.pairwise_cons.1 hp).1 c (by simp)
    omega
/-- a line that begins with a change has one member behind that change -/
theorem Inv.line_new {rs : List Rv} {n : Int} {es : List Ed} (h : Inv rs) (b : Batch rs n es) {f : ByteArray × Int} (hf : f ∈ linesR (rs ++ es.map (madeR n))) :
    ∃ v, getR (rs ++ es.map (madeR n)) f.1 f.2 = some v ∧ (v.chg = n → (lineR (rs ++ es.map (madeR n)) f).length = 1) := by
  have h2 := h.app b
  obtain ⟨v, hv, hvf⟩ := List.mem_map.1 hf
  obtain ⟨hv1, hv2⟩ := List.mem_filter.1 hv
  have ha : v.act = 1 := by simpa using hv2
  refine ⟨v, by rw [← hvf]; exact h2.get_mem hv1, fun hc => ?_⟩
  have hm : v ∈ lineR (rs ++ es.map (madeR n)) f := mem_line.2 ⟨hv1, by omega, by rw [firstR_add ha]; exact hvf⟩
  have hch := h2.line_chain f
  have hasc := h2.line_asc f
  have hall : ∀ x ∈ lineR (rs ++ es.map (madeR n)) f, x ∈ rs ++ es.map (madeR n) := fun x hx => (mem_line.1 hx).1
  generalize lineR (rs ++ es.map (madeR n)) f = l at *
  match l, hm, hch, hasc, hall with
  | [_], _, _, _, _ => rfl
  | a :: c :: l, hm, hch, hasc, hall =>
    exfalso
    obtain ⟨a1, a2⟩ := hch.1 a rfl
    have e : a = v := by
      have : nameR a = nameR v := a2.trans hvf.symm
      obtain ⟨e1, e2⟩ := nameR_eq.1 this
      exact h2.uniq (hall a (by simp)) hv1 e1 e2
    have h3 := (List.pairwise_cons.1 hasc).1 c (by simp)
    have h4 := b.top_chg (hall c (by simp))
    rw [e] at h3
    omega
/-- a move alone: the line goes on at its new path -/
theorem Inv.rename {rs : List Rv} {n : Int} {es : List Ed} (h : Inv rs) (b : Batch rs n es) {p : ByteArray} {v : Rv} (hl : lastR rs p = some v) (hg : goneR v = false)
    {x y : Ed} (hx : x ∈ es) (hy : y ∈ es) (x4 : x.act = 4) (xf : x.frm = p) (xn : x.fnum = v.num) (y5 : y.act = 5) (yp : y.path = p) (yb : y.base = v.num) :
    memR rs p v.num = some v ∧ memR (rs ++ es.map (madeR n)) x.path (x.base + 1) = some (madeR n x) ∧ nameR (firstR (rs ++ es.map (madeR n)) (madeR n x)) = nameR (firstR rs v) ∧ memR (rs ++ es.map (madeR n)) p (v.num + 1) = none ∧
      whereR (rs ++ es.map (madeR n)) (nameR (firstR rs v)) n = some (madeR n x) ∧ whereR (rs ++ es.map (madeR n)) (nameR (firstR rs v)) (n - 1) = some v := by
  have h2 := h.app b
  have hvm : v ∈ logR rs p := List.mem_of_getLast? hl
  obtain ⟨hv, hvp⟩ := mem_logR.1 hvm
  obtain ⟨v5, v3⟩ := gone_act hg
  have hgv := h.get_mem hv
  rw [hvp] at hgv
  have hXm : madeR n x ∈ rs ++ es.map (madeR n) := List.mem_append_right _ (List.mem_map.2 ⟨x, hx, rfl⟩)
  have hYm : madeR n y ∈ rs ++ es.map (madeR n) := List.mem_append_right _ (List.mem_map.2 ⟨y, hy, rfl⟩)
  have hvm2 : v ∈ rs ++ es.map (madeR n) := List.mem_append_left _ hv
  have hgv2 := h2.get_mem hvm2
  have hpv : prevR (rs ++ es.map (madeR n)) (madeR n x) = some v := by
    rw [prevR_move (show (madeR n x).act = 4 from x4)]
    show getR _ x.frm x.fnum = _
    rw [xf, xn, ← hvp]
    exact hgv2
  have hvc := b.lt v hv
  have hfx : firstR (rs ++ es.map (madeR n)) (madeR n x) = firstR rs v := by
    rw [firstR_step hpv (show v.chg < n from hvc)]
    exact h.first_app h2 _ (Nat.lt_succ_self _) hv
  have hXl : madeR n x ∈ lineR (rs ++ es.map (madeR n)) (nameR (firstR rs v)) := mem_line.2 ⟨hXm, by show x.act ≠ 5; omega, by rw [hfx]⟩
  have hVl : v ∈ lineR (rs ++ es.map (madeR n)) (nameR (firstR rs v)) := mem_line.2 ⟨hvm2, v5, by rw [h.first_app h2 _ (Nat.lt_succ_self _) hv]⟩
  refine ⟨memR_some.2 ⟨hgv, v5⟩, memR_some.2 ⟨h2.get_mem hXm, by show x.act ≠ 5; omega⟩, by rw [hfx], ?_, ?_, ?_⟩
  · cases hm : memR (rs ++ es.map (madeR n)) p (v.num + 1) with
    | none => rfl
    | some u =>
      exfalso
      obtain ⟨g1, g2⟩ := memR_some.1 hm
      obtain ⟨u1, u2, u3⟩ := getR_mem g1
      have : u = madeR n y := h2.uniq u1 hYm (by rw [u2]; exact yp.symm) (by rw [u3]; show v.num + 1 = y.base + 1; rw [yb])
      rw [this] at g2
      exact g2 y5
  · exact h2.whereR_some.2 ⟨⟨hXl, Int.le_refl _, fun z hz _ => b.top_chg (mem_line.1 hz).1⟩, by show x.act ≠ 3; omega⟩
  · refine h2.whereR_some.2 ⟨⟨hVl, by omega, fun z hz hzc => ?_⟩, v3⟩
    rcases Int.lt_or_le v.chg z.chg with hlt | hle
    · exfalso
      obtain ⟨i, hi⟩ := List.mem_iff_getElem?.1 hVl
      obtain ⟨j, hj⟩ := List.mem_iff_getElem?.1 hXl
      obtain ⟨k, hk⟩ := List.mem_iff_getElem?.1 hz
      have hj0 : j ≠ 0 := fun e => by
        have := ((h2.line_at hj).1 e).1
        rw [hpv] at this
        cases this
      obtain ⟨j', rfl⟩ : ∃ j', j = j' + 1 := ⟨j - 1, by omega⟩
      obtain ⟨u, hu⟩ : ∃ u, (lineR (rs ++ es.map (madeR n)) (nameR (firstR rs v)))[j']? = some u := ⟨_, List.getElem?_eq_getElem (by have := (List.getElem?_eq_some_iff.1 hj).1; omega)⟩
      have hpu := ((h2.line_at hj).2 j' u rfl hu).1
      rw [hpv] at hpu
      cases hpu
      have hij : i = j' := by
        rcases Nat.lt_trichotomy i j' with hl | rfl | hl
        · obtain ⟨d, rfl⟩ : ∃ d, j' = i + d + 1 := ⟨j' - i - 1, by omega⟩
          have := h2.line_rise d i hi hu
          omega
        · rfl
        · obtain ⟨d, rfl⟩ : ∃ d, i = j' + d + 1 := ⟨i - j' - 1, by omega⟩
          have := h2.line_rise d j' hu hi
          omega
      subst hij
      have hik : i < k := by
        rcases Nat.lt_trichotomy i k with hl | rfl | hl
        · exact hl
        · rw [hi] at hk; cases hk; omega
        · obtain ⟨d, rfl⟩ : ∃ d, i = k + d + 1 := ⟨i - k - 1, by omega⟩
          have := h2.line_rise d k hk hi
          omega
      rcases Nat.lt_or_ge (i + 1) k with hl | hl
      · obtain ⟨d, rfl⟩ : ∃ d, k = i + 1 + d + 1 := ⟨k - (i + 1) - 1, by omega⟩
        have := h2.line_rise d (i + 1) hj hk
        have e : (madeR n x).chg = n := rfl
        omega
      · have : k = i + 1 := by omega
        subst this
        rw [hj] at hk
        cases hk
        have e : (madeR n x).chg = n := rfl
        omega
    · exact hle
end Go.Proofs.YteagecjhpfijjaaDoor

/-
  How the lines part the members, and how their places are the live paths: plain facts, no program in sight.
-/
namespace Go.Proofs.YteagecjhpfijjaaDoor
set_option linter.unusedSimpArgs false
set_option linter.unusedVariables false

section
variable {α : Type} [DecidableEq α]
theorem nodup_sub_len : ∀ {l m : List α}, l.Nodup → (∀ x ∈ l, x ∈ m) → l.length ≤ m.length
  | [], m, _, _ => Nat.zero_le _
  | a :: l, m, hn, hs => by
    rw [List.nodup_cons] at hn
    have ha := hs a List.mem_cons_self
    have := nodup_sub_len (l := l) (m := m.erase a) hn.2 (fun x hx => (List.mem_erase_of_ne (fun e => hn.1 (by rw [← e]; exact hx))).2 (hs x (List.mem_cons_of_mem _ hx)))
    rw [List.length_erase_of_mem ha] at this
    have : 0 < m.length := List.length_pos_of_mem ha
    simp only [List.length_cons]
    omega
end
theorem not_take {α : Type} {l : List α} (h : l.Nodup) {k : Nat} {a : α} (hk : l[k]? = some a) : a ∉ l.take k := by
  intro hm
  obtain ⟨i, hi⟩ := List.mem_iff_getElem?.1 hm
  rw [List.getElem?_take] at hi
  split at hi
  · rename_i hik
    obtain ⟨h1, h2⟩ := List.getElem?_eq_some_iff.1 hi
    obtain ⟨h3, h4⟩ := List.getElem?_eq_some_iff.1 hk
    unfold List.Nodup at h
    rw [List.pairwise_iff_getElem] at h
    exact h i k h1 h3 hik (h2.trans h4.symm)
  · cases hi
/-- the names of the members of these lines -/
def seenN (rs : List Rv) (fs : List (ByteArray × Int)) : List (ByteArray × Int) := fs.flatMap (fun f => (lineR rs f).map nameR)
def seenT (rs : List Rv) (fs : List (ByteArray × Int)) (k : Nat) (f : ByteArray × Int) (i : Nat) : List (ByteArray × Int) := seenN rs (fs.take k) ++ ((lineR rs f).take i).map nameR
theorem seenT_zero {rs : List Rv} {fs : List (ByteArray × Int)} {k : Nat} {f : ByteArray × Int} : seenT rs fs k f 0 = seenN rs (fs.take k) := by unfold seenT; simp
theorem seenT_snoc {rs : List Rv} {fs : List (ByteArray × Int)} {k : Nat} {f : ByteArray × Int} {i : Nat} {v : Rv} (hv : (lineR rs f)[i]? = some v) : seenT rs fs k f (i + 1) = seenT rs fs k f i ++ [nameR v] := by
  unfold seenT
  rw [List.take_add_one, hv, List.map_append, List.append_assoc]
  rfl
theorem seenT_end {rs : List Rv} {fs : List (ByteArray × Int)} {k : Nat} {f : ByteArray × Int} (hf : fs[k]? = some f) : seenT rs fs k f (lineR rs f).length = seenN rs (fs.take (k + 1)) := by
  unfold seenT seenN
  rw [List.take_length, List.take_add_one, hf, List.flatMap_append]
  simp
theorem mem_seenN {rs : List Rv} {fs : List (ByteArray × Int)} {g : ByteArray × Int} : g ∈ seenN rs fs ↔ ∃ f ∈ fs, ∃ v ∈ lineR rs f, nameR v = g := by
  unfold seenN
  rw [List.mem_flatMap]
  constructor
  · rintro ⟨f, hf, h⟩
    obtain ⟨v, hv, e⟩ := List.mem_map.1 h
    exact ⟨f, hf, v, hv, e⟩
  · rintro ⟨f, hf, v, hv, e⟩
    exact ⟨f, hf, List.mem_map.2 ⟨v, hv, e⟩⟩
/-- a member's name was not seen before -/
theorem Inv.fresh {rs : List Rv} (h : Inv rs) {k i : Nat} {f : ByteArray × Int} {v : Rv} (hf : (linesR rs)[k]? = some f) (hv : (lineR rs f)[i]? = some v) : nameR v ∉ seenT rs (linesR rs) k f i := by
  obtain ⟨v1, v2, v3⟩ := mem_line.1 (List.mem_of_getElem? hv)
  intro hm
  unfold seenT at hm
  rcases List.mem_append.1 hm with hm | hm
  · obtain ⟨g, hg, u, hu, e⟩ := mem_seenN.1 hm
    obtain ⟨u1, u2, u3⟩ := mem_line.1 hu
    obtain ⟨e1, e2⟩ := nameR_eq.1 e
    have := h.uniq u1 v1 e1 e2
    subst this
    rw [← u3, v3] at hg
    exact not_take h.lines_nodup hf hg
  · obtain ⟨u, hu, e⟩ := List.mem_map.1 hm
    have hul := List.mem_of_mem_take hu
    obtain ⟨u1, u2, u3⟩ := mem_line.1 hul
    obtain ⟨e1, e2⟩ := nameR_eq.1 e
    have := h.uniq u1 v1 e1 e2
    subst this
    have hnd : (lineR rs f).Nodup := by
      unfold List.Nodup
      exact (h.line_asc f).imp (fun hab e => by subst e; omega)
    exact not_take hnd hv hu
theorem Inv.seen_sub {rs : List Rv} {fs : List (ByteArray × Int)} {k i : Nat} {f : ByteArray × Int} : ∀ g ∈ seenT rs fs k f i, g ∈ rs.map nameR := fun g hg => by
  unfold seenT at hg
  rcases List.mem_append.1 hg with hm | hm
  · obtain ⟨_, _, u, hu, e⟩ := mem_seenN.1 hm
    exact List.mem_map.2 ⟨u, (mem_line.1 hu).1, e⟩
  · obtain ⟨u, hu, e⟩ := List.mem_map.1 hm
    exact List.mem_map.2 ⟨u, (mem_line.1 (List.mem_of_mem_take hu)).1, e⟩
/-- in the end all names are seen but those of the ActMoveAways -/
theorem Inv.all_seen {rs : List Rv} (h : Inv rs) {v : Rv} (hv : v ∈ rs) : nameR v ∈ seenN rs (linesR rs) ↔ v.act ≠ 5 := by
  rw [mem_seenN]
  constructor
  · rintro ⟨f, hf, u, hu, e⟩
    obtain ⟨u1, u2, u3⟩ := mem_line.1 hu
    obtain ⟨e1, e2⟩ := nameR_eq.1 e
    have := h.uniq u1 hv e1 e2
    subst this
    exact u2
  · intro h5
    exact ⟨_, h.first_line hv, v, mem_line.2 ⟨hv, h5, rfl⟩, rfl⟩
/-- the places of these lines -/
def placesR (rs : List Rv) (fs : List (ByteArray × Int)) (c : Int) : List ByteArray := fs.filterMap (fun f => (whereR rs f c).map (fun v => v.path))
def liveAt (rs : List Rv) (c : Int) (p : ByteArray) : Bool := match atR rs p c with
  | none => false
  | some v => v.act != 3 && v.act != 5
theorem mem_placesR {rs : List Rv} {fs : List (ByteArray × Int)} {c : Int} {p : ByteArray} : p ∈ placesR rs fs c ↔ ∃ f ∈ fs, ∃ v, whereR rs f c = some v ∧ v.path = p := by
  unfold placesR
  rw [List.mem_filterMap]
  constructor
  · rintro ⟨f, hf, e⟩
    obtain ⟨v, hv, e⟩ := Option.map_eq_some_iff.1 e
    exact ⟨f, hf, v, hv, e⟩
  · rintro ⟨f, hf, v, hv, e⟩
    exact ⟨f, hf, by rw [hv]; exact congrArg some e⟩
theorem placesR_snoc {rs : List Rv} {fs : List (ByteArray × Int)} {c : Int} {k : Nat} {f : ByteArray × Int} {v : Rv} (hf : fs[k]? = some f) (hw : whereR rs f c = some v) : placesR rs (fs.take (k + 1)) c = placesR rs (fs.take k) c ++ [v.path] := by
  unfold placesR
  rw [List.take_add_one, hf, List.filterMap_append]
  simp [hw]
theorem placesR_skip {rs : List Rv} {fs : List (ByteArray × Int)} {c : Int} {k : Nat} {f : ByteArray × Int} (hf : fs[k]? = some f) (hw : whereR rs f c = none) : placesR rs (fs.take (k + 1)) c = placesR rs (fs.take k) c := by
  unfold placesR
  rw [List.take_add_one, hf, List.filterMap_append]
  simp [hw]
/-- no path is a place twice -/
theorem Inv.place_fresh {rs : List Rv} (h : Inv rs) {c : Int} {k : Nat} {f : ByteArray × Int} {v : Rv} (hf : (linesR rs)[k]? = some f) (hw : whereR rs f c = some v) : v.path ∉ placesR rs ((linesR rs).take k) c := by
  intro hm
  obtain ⟨g, hg, u, hu, e⟩ := mem_placesR.1 hm
  obtain ⟨a1, a2, a3, a4⟩ := h.place hw
  obtain ⟨b1, b2, b3, b4⟩ := h.place hu
  rw [e, a1] at b1
  cases b1
  rw [← b4, a4] at hg
  exact not_take h.lines_nodup hf hg
theorem Inv.places_nodup {rs : List Rv} (h : Inv rs) (c : Int) : ∀ k, k ≤ (linesR rs).length → (placesR rs ((linesR rs).take k) c).Nodup
  | 0, _ => by simp [placesR]
  | k + 1, hk => by
    have ih := h.places_nodup c k (by omega)
    obtain ⟨f, hf⟩ : ∃ f, (linesR rs)[k]? = some f := ⟨_, List.getElem?_eq_getElem (by omega)⟩
    cases hw : whereR rs f c with
    | none => rw [placesR_skip hf hw]; exact ih
    | some v =>
      rw [placesR_snoc hf hw, List.nodup_append]
      refine ⟨ih, by simp, fun a ha b hb e => ?_⟩
      obtain rfl := List.mem_singleton.1 hb
      subst e
      exact h.place_fresh hf hw ha
/-- the places of all lines are just the live paths -/
theorem Inv.one_place {rs : List Rv} (h : Inv rs) (c : Int) {xs : List ByteArray} (hn : xs.Nodup) (hx : ∀ p, p ∈ xs ↔ ∃ v ∈ rs, v.path = p) : (xs.filter (liveAt rs c)).length = (placesR rs (linesR rs) c).length := by
  have hpn := h.places_nodup c _ (Nat.le_refl _)
  rw [List.take_length] at hpn
  have hm : ∀ p, p ∈ xs.filter (liveAt rs c) ↔ p ∈ placesR rs (linesR rs) c := fun p => by
    rw [List.mem_filter, mem_placesR, hx]
    constructor
    · rintro ⟨_, h2⟩
      unfold liveAt at h2
      cases ha : atR rs p c with
      | none => rw [ha] at h2; cases h2
      | some w =>
        rw [ha] at h2
        simp at h2
        obtain ⟨p1, p2⟩ := h.placed ha h2.1 h2.2
        exact ⟨_, p2, w, p1, (h.atR_some.1 ha).1.2⟩
    · rintro ⟨f, hf, v, hv, e⟩
      obtain ⟨a1, a2, a3, a4⟩ := h.place hv
      rw [e] at a1
      refine ⟨⟨v, (h.atR_some.1 a1).1.1, e⟩, ?_⟩
      unfold liveAt
      rw [a1]
      simp [a2, a3]
  exact Nat.le_antisymm (nodup_sub_len (hn.filter _) (fun p hp => (hm p).1 hp)) (nodup_sub_len hpn (fun p hp => (hm p).2 hp))
theorem placesR_len {rs : List Rv} {fs : List (ByteArray × Int)} {c : Int} : (placesR rs fs c).length ≤ fs.length := List.length_filterMap_le _ _
end Go.Proofs.YteagecjhpfijjaaDoor

/-
  The walk of the law's renamed.
-/
namespace Go.Proofs.YteagecjhpfijjaaDoor
set_option linter.unusedSimpArgs false
set_option linter.unusedVariables false
open Go.RowKit Go.WideShapes

set_option maxHeartbeats 8000000 in
set_option maxRecDepth 100000 in
theorem renamed_any (A B A2 B2 : Option Addr) (c m d c2 m2 d2 : Nat) (rs rs2 : List Rv) (p q : ByteArray) (n1 n2 ch : Int) (f : ByteArray × Int) (x v : Rv) (w : World) (h : RV w A c rs) (hd : Dp rs) (h2 : RV w A2 c2 rs2) (hd2 : Dp rs2) (hp : p.size ≤ 1000) (hq : q.size ≤ 1000) (hn1 : nearN n1 ∧ nearN (n1 + 1)) (hn2 : nearN n2) (hch : 1 ≤ ch ∧ ch ≤ 1073741824)
    (i1 : idR rs p n1 = some f) (i2 : idR rs2 q n2 = some f) (i3 : memR rs2 p (n1 + 1) = none) (k1 : whereR rs2 f ch = some x) (k2 : whereR rs2 f (ch - 1) = some v) (xp : x.path = q) (xn : x.num = n2) (vp : v.path = p) (vn : v.num = n1) :
    Calls Tryd.prog 29 #[.agg #[.slice A rs.length c, .slice B m d], .agg #[.slice A2 rs2.length c2, .slice B2 m2 d2], .string p, .string q, .int .i64 n1, .int .i64 n2, .int .i64 ch] w fun e w' => e = .returned (.bool true) ∧ Below w.heap.size w w' := by
  have HR := Lib.hid h
  have HR2 := Lib.hid h2
  obtain ⟨⟨na, nb⟩, nc, nd⟩ := hn1
  obtain ⟨nf, ng⟩ := hn2
  obtain ⟨nh, nj⟩ := hch
  have i3' : idR rs2 p (n1 + 1) = none := by unfold idR; rw [i3]; rfl
  have HI1 := Lib.hid (fun W h => lidentity_any A B c m d rs p n1 W h hd hp (okF_of (p := p) hp ⟨na, nb⟩).2)
  have HI2 := Lib.hid (fun W h => lidentity_any A2 B2 c2 m2 d2 rs2 q n2 W h hd2 hq (okF_of (p := q) hq ⟨nf, ng⟩).2)
  have HI3 := Lib.hid (fun W h => lidentity_any A2 B2 c2 m2 d2 rs2 p (n1 + 1) W h hd2 hp (okF_of (p := p) hp ⟨nc, nd⟩).2)
  have HW1 := Lib.hid (fun W h => lwhere_any A2 B2 c2 m2 d2 rs2 f.1 f.2 ch W h hd2)
  have HW2 := Lib.hid (fun W h => lwhere_any A2 B2 c2 m2 d2 rs2 f.1 f.2 (ch - 1) W h hd2)
  rw [i1] at HI1
  rw [i2] at HI2
  rw [i3'] at HI3
  rw [show (f.1, f.2) = f from rfl, k1] at HW1
  rw [show (f.1, f.2) = f from rfl, k2] at HW2
  unfold RetOF at HI1 HI2 HI3
  unfold RetOR at HW1 HW2
  simp only [Option.getD_some, Option.isSome_some, Option.getD_none, Option.isSome_none] at HI1 HI2 HI3 HW1 HW2
  have hfe := (fun w => file_eq f.1 f.1 f.2 f.2 w)
  simp only [show fileB f.1 f.1 f.2 f.2 = true from (fileB_iff _ _ _ _).2 rfl] at hfe
  have t1 := str_eqt xp
  have t2 := str_eqt vp
  have t3 : (x.num == n2) = true := by simpa using xn
  have t4 : (v.num == n1) = true := by simpa using vn
  unfold aggR at HW1 HW2
  have HS : At (BB w [(w.heap.size, [.slice A rs.length c, .slice B m d]), (w.heap.size + 1, [.slice A2 rs2.length c2, .slice B2 m2 d2])]) ((w.alloc (.cells #[.slice A rs.length c, .slice B m d] 28)).alloc (.cells #[.slice A2 rs2.length c2, .slice B2 m2 d2] 28)) := (((BB.nil w).push [.slice A rs.length c, .slice B m d] 28 rfl).push [.slice A2 rs2.length c2, .slice B2 m2 d2] 28 (g := w.heap.size + 1) (by simp)).at_
  clear h h2 hd hd2 hp hq i1 i2 i3 i3' k1 k2 xp xn vp vn
  replace HR := Lib.hid (HR.out.below (below_two _ (.cells #[.slice A rs.length c, .slice B m d] 28) (.cells #[.slice A2 rs2.length c2, .slice B2 m2 d2] 28)))
  replace HR2 := Lib.hid (HR2.out.below (below_two _ (.cells #[.slice A rs.length c, .slice B m d] 28) (.cells #[.slice A2 rs2.length c2, .slice B2 m2 d2] 28)))
  go_enter Tryd.func29, Tryd.ntmps29
  go_upto_region 2 with (go_at_call 14; refine (HI1.out _ (HR.out.below (by repeat (first | exact Below.refl _ _ | apply Below.drew | apply below_drewN | apply below_al)))).mono ?_; rintro e w4 ⟨rfl, hb⟩; replace HR := Lib.hid (HR.out.below (go3 (by repeat (first | exact Below.refl _ _ | apply Below.drew | apply below_drewN | apply below_al)) hb)); replace HR2 := Lib.hid (HR2.out.below (go3 (by repeat (first | exact Below.refl _ _ | apply Below.drew | apply below_drewN | apply below_al)) hb)); replace HS := HS.go2 (Below.refl _ _) hb; clear hb; obtain ⟨d0, d1⟩ := (HS.out.get 0 rfl).c2; obtain ⟨e0, e1⟩ := (HS.out.get 1 rfl).c2; have g0l := (HS.out.get 0 rfl).2.2; have g1l := (HS.out.get 1 rfl).2.2; replace HS := (HS.out.push [.string f.1, .int .i64 f.2] 31 (g := w4.heap.size) rfl).at_; replace HR := Lib.hid (HR.out.below (below_alloc _ (.cells #[.string f.1, .int .i64 f.2] 31))); replace HR2 := Lib.hid (HR2.out.below (below_alloc _ (.cells #[.string f.1, .int .i64 f.2] 31))))
  go_upto_region 3 with (go_at_call 14; refine (HI2.out _ (HR2.out.below (by repeat (first | exact Below.refl _ _ | apply Below.drew | apply below_drewN | apply below_al)))).mono ?_; rintro e w5 ⟨rfl, hb⟩; replace HR := Lib.hid (HR.out.below (go3 (by repeat (first | exact Below.refl _ _ | apply Below.drew | apply below_drewN | apply below_al)) hb)); replace HR2 := Lib.hid (HR2.out.below (go3 (by repeat (first | exact Below.refl _ _ | apply Below.drew | apply below_drewN | apply below_al)) hb)); replace HS := HS.go2 (Below.refl _ _) hb; clear hb; obtain ⟨d0, d1⟩ := (HS.out.get 0 rfl).c2; obtain ⟨e0, e1⟩ := (HS.out.get 1 rfl).c2; have g0l := (HS.out.get 0 rfl).2.2; have g1l := (HS.out.get 1 rfl).2.2; obtain ⟨q0, q1⟩ := (HS.out.get 2 rfl).c2; have q2 := (HS.out.get 2 rfl).2.2; replace HS := (HS.out.push [.string f.1, .int .i64 f.2] 31 (g := w5.heap.size) rfl).at_; replace HR := Lib.hid (HR.out.below (below_alloc _ (.cells #[.string f.1, .int .i64 f.2] 31))); replace HR2 := Lib.hid (HR2.out.below (below_alloc _ (.cells #[.string f.1, .int .i64 f.2] 31))))
  go_upto_region 4 with (go_at_call 14; refine (HI3.out _ (HR2.out.below (by repeat (first | exact Below.refl _ _ | apply Below.drew | apply below_drewN | apply below_al)))).mono ?_; rintro e w6 ⟨rfl, hb⟩; replace HR := Lib.hid (HR.out.below (go3 (by repeat (first | exact Below.refl _ _ | apply Below.drew | apply below_drewN | apply below_al)) hb)); replace HR2 := Lib.hid (HR2.out.below (go3 (by repeat (first | exact Below.refl _ _ | apply Below.drew | apply below_drewN | apply below_al)) hb)); replace HS := HS.go2 (Below.refl _ _) hb; clear hb; obtain ⟨d0, d1⟩ := (HS.out.get 0 rfl).c2; obtain ⟨e0, e1⟩ := (HS.out.get 1 rfl).c2; have g0l := (HS.out.get 0 rfl).2.2; have g1l := (HS.out.get 1 rfl).2.2; obtain ⟨q0, q1⟩ := (HS.out.get 2 rfl).c2; have q2 := (HS.out.get 2 rfl).2.2; obtain ⟨p0, p1⟩ := (HS.out.get 3 rfl).c2; have p2 := (HS.out.get 3 rfl).2.2; replace HS := (HS.out.push [.string ⟨#[]⟩, .int .i64 0] 31 (g := w6.heap.size) rfl).at_; replace HR := Lib.hid (HR.out.below (below_alloc _ (.cells #[.string ⟨#[]⟩, .int .i64 0] 31))); replace HR2 := Lib.hid (HR2.out.below (below_alloc _ (.cells #[.string ⟨#[]⟩, .int .i64 0] 31))))
  go_upto_region 5 with (go_at_call 25; refine (HW1.out _ (HR2.out.below (by repeat (first | exact Below.refl _ _ | apply Below.drew | apply below_drewN | apply below_al)))).mono ?_; rintro e w7 ⟨rfl, hb⟩; replace HR := Lib.hid (HR.out.below (go3 (by repeat (first | exact Below.refl _ _ | apply Below.drew | apply below_drewN | apply below_al)) hb)); replace HR2 := Lib.hid (HR2.out.below (go3 (by repeat (first | exact Below.refl _ _ | apply Below.drew | apply below_drewN | apply below_al)) hb)); replace HS := HS.go2 (Below.refl _ _) hb; clear hb; obtain ⟨d0, d1⟩ := (HS.out.get 0 rfl).c2; obtain ⟨e0, e1⟩ := (HS.out.get 1 rfl).c2; have g0l := (HS.out.get 0 rfl).2.2; have g1l := (HS.out.get 1 rfl).2.2; obtain ⟨q0, q1⟩ := (HS.out.get 2 rfl).c2; have q2 := (HS.out.get 2 rfl).2.2; obtain ⟨p0, p1⟩ := (HS.out.get 3 rfl).c2; have p2 := (HS.out.get 3 rfl).2.2; replace HS := (HS.out.push [.string x.path, .int .i64 x.num, .int .i64 x.chg, .int .i64 x.act, .int .i64 x.ty.1, .bool x.ty.2.1, .bool x.ty.2.2.1, .bool x.ty.2.2.2, .int .u64 x.cid.1, .int .i64 x.cid.2, .string x.frm, .int .i64 x.fnum] 40 (g := w7.heap.size) rfl).at_; replace HR := Lib.hid (HR.out.below (below_alloc _ (.cells #[.string x.path, .int .i64 x.num, .int .i64 x.chg, .int .i64 x.act, .int .i64 x.ty.1, .bool x.ty.2.1, .bool x.ty.2.2.1, .bool x.ty.2.2.2, .int .u64 x.cid.1, .int .i64 x.cid.2, .string x.frm, .int .i64 x.fnum] 40))); replace HR2 := Lib.hid (HR2.out.below (below_alloc _ (.cells #[.string x.path, .int .i64 x.num, .int .i64 x.chg, .int .i64 x.act, .int .i64 x.ty.1, .bool x.ty.2.1, .bool x.ty.2.2.1, .bool x.ty.2.2.2, .int .u64 x.cid.1, .int .i64 x.cid.2, .string x.frm, .int .i64 x.fnum] 40))))
  go_wp2_with (go_at_call 25; refine (HW2.out _ (HR2.out.below (by repeat (first | exact Below.refl _ _ | apply Below.drew | apply below_drewN | apply below_al)))).mono ?_; rintro e w8 ⟨rfl, hb⟩; replace HR := Lib.hid (HR.out.below (go3 (by repeat (first | exact Below.refl _ _ | apply Below.drew | apply below_drewN | apply below_al)) hb)); replace HR2 := Lib.hid (HR2.out.below (go3 (by repeat (first | exact Below.refl _ _ | apply Below.drew | apply below_drewN | apply below_al)) hb)); replace HS := HS.go2 (Below.refl _ _) hb; clear hb; obtain ⟨d0, d1⟩ := (HS.out.get 0 rfl).c2; obtain ⟨e0, e1⟩ := (HS.out.get 1 rfl).c2; have g0l := (HS.out.get 0 rfl).2.2; have g1l := (HS.out.get 1 rfl).2.2; obtain ⟨q0, q1⟩ := (HS.out.get 2 rfl).c2; have q2 := (HS.out.get 2 rfl).2.2; obtain ⟨p0, p1⟩ := (HS.out.get 3 rfl).c2; have p2 := (HS.out.get 3 rfl).2.2; obtain ⟨x0, x1, x2, x3, x4, x5, x6, x7, x8, x9, x10, x11⟩ := (HS.out.get 5 rfl).rev; have x12 := (HS.out.get 5 rfl).2.2)
  go_ret
  exact ⟨rfl, below_al HS.out.low _⟩
end Go.Proofs.YteagecjhpfijjaaDoor

/-
  Changes appended to changes: rows that weigh no more than the memory.
-/
namespace Go.Proofs.YteagecjhpfijjaaDoor
set_option linter.unusedSimpArgs false
set_option linter.unusedVariables false
open Go.RowKit Go.WideShapes

section
variable {P : Program} {S E : TypeId} {i : TypeInfo} {z : Value} {size bytes : Nat}
theorem run_append_rowsW (hu : P.underlying S = some (.slice E)) (hi : P.info? E = some i) (hz : i.zero = some z) (hs : i.size = size) (hby : i.bytes = bytes) (hzs : z.cells.size = size) (hsz : 0 < size)
    (w : World) (base : Nat) (v : Value) (rows more : List (List Value)) (A : Option Addr) (c : Nat) (ty : TypeId) (hown : OR w base E size v rows) (hm : RR w A c size more) (hn : NilC A c) (hl : ∀ r ∈ more, r.length = size) (h1 : ∀ r ∈ more, ∀ u ∈ r, u.oneCell' = true)
    (hlen : rows.length + more.length ≤ 9223372036854775807) (hbb : (rows.length + more.length) * bytes ≤ 140737488355328) (hbase : base ≤ w.heap.size) :
    ∃ v' w', (Builtin.append_ #[S, S] ty #[v, .slice A more.length c]).run P w = .ok v' w' ∧ OR w' base E size v' (rows ++ more) ∧ w.grownBy w' v.ownBlock ∧ (v'.ownBlock = v.ownBlock ∨ v'.ownBlock = some w.heap.size) ∧ (rows = [] → more = [] → v = .slice none 0 0 → v' = .slice none 0 0) := by
  have flen := flat_len hl
  have fin : ∀ (a : Addr), A = some a → (∀ (j : Nat) (u : Value), more.flatten[j]? = some u → w.cell? (a.add j) = some u) →
      ∃ v' w', (Builtin.append_ #[S, S] ty #[v, .slice A more.length c]).run P w = .ok v' w' ∧ OR w' base E size v' (rows ++ more) ∧ w.grownBy w' v.ownBlock ∧ (v'.ownBlock = v.ownBlock ∨ v'.ownBlock = some w.heap.size) ∧ (rows = [] → more = [] → v = .slice none 0 0 → v' = .slice none 0 0) := fun a ha hc => by
    subst ha
    obtain ⟨v', w', hrun, h3, h4, h6, h5⟩ := run_append_own_at (P := P) w base S ty E i z size bytes hu hi hz hs hby hzs hsz v rows.length rows.flatten hown.1 a more.length c more.flatten flen hc
      (fun u hu => by obtain ⟨r, hr, hur⟩ := List.mem_flatten.1 hu; exact h1 r hr u hur) (by simp only [maxLen]; omega) hbb hbase
    refine ⟨v', w', hrun, ⟨?_, fun q hq => ?_⟩, h4, h5, fun e1 e2 e3 => h6.2 ⟨e3, by rw [e2]; rfl⟩⟩
    · rw [List.length_append, List.flatten_append]
      exact h3
    · rcases List.mem_append.1 hq with hq | hq
      · exact hown.2 q hq
      · exact hl q hq
  by_cases h0 : 0 < more.length
  · obtain ⟨b, o, rfl, hlt, hc⟩ := hm.2.2 h0
    refine fin ⟨b, o, none⟩ rfl (fun j u hj => ?_)
    obtain ⟨r, hr, hur⟩ := flat_of hsz hl j u hj
    have := hc _ r hr _ u hur
    rw [add_plain]
    have e : j / size * size + j % size = j := by rw [Nat.mul_comm]; exact Nat.div_add_mod j size
    rw [Nat.add_assoc, e] at this
    exact this
  · have hnil : more = [] := List.eq_nil_of_length_eq_zero (by omega)
    subst hnil
    cases A with
    | some a => exact fin a rfl (fun j u hj => by simp at hj)
    | none =>
      have hc0 := hn rfl
      subst hc0
      refine ⟨v, w, run_append_owned_none (P := P) (w := w) base S ty E i size hu hi v rows.length rows.flatten hown.1, by rw [List.append_nil]; exact hown, World.grownBy.refl _ _, .inl rfl, fun _ _ e => e⟩
theorem wp_append_rowsW (hu : P.underlying S = some (.slice E)) (hi : P.info? E = some i) (hz : i.zero = some z) (hs : i.size = size) (hby : i.bytes = bytes) (hzs : z.cells.size = size) (hsz : 0 < size)
    {w : World} {o : Oper} {a : Act} {K : Act → World → Prop} {Q : Exit → Act → World → Prop} (s x : Operand)
    (ho : o.op = .call { callee := .builtin .append, args := #[s, x], argTypes := #[S, S] })
    (base : Nat) (v : Value) (rows more : List (List Value)) (A : Option Addr) (n c : Nat) (hnl : n = more.length) (hs' : a.eval s = v) (hx : a.eval x = .slice A n c) (hown : OR w base E size v rows) (hm : RR w A c size more) (hn : NilC A c) (hl : ∀ r ∈ more, r.length = size) (h1 : ∀ r ∈ more, ∀ u ∈ r, u.oneCell' = true)
    (hlen : rows.length + more.length ≤ 9223372036854775807) (hbb : (rows.length + more.length) * bytes ≤ 140737488355328) (hbase : base ≤ w.heap.size)
    (h : ∀ v' w', OR w' base E size v' (rows ++ more) → w.grownBy w' v.ownBlock → (v'.ownBlock = v.ownBlock ∨ v'.ownBlock = some w.heap.size) → K (a.put o.dst v') w') : o.wp P a w K Q := by
  subst hnl
  obtain ⟨v', w', hrun, h2, h3, h4, _⟩ := run_append_rowsW hu hi hz hs hby hzs hsz w base v rows more A c o.type hown hm hn hl h1 hlen hbb hbase
  unfold Oper.wp execOp
  simp only [ho, resolve, invoke, builtin, Sem.run_bind, Sem.run_pure, Result.andThen_ok, List.map_toArray, List.map_cons, List.map_nil, hs', hx, hrun]
  exact h v' w' h2 h3 h4
end
/-- the cells of a change -/
def chR (w : World) (x : Cg) (r : List Value) : Prop := ∃ C ce D dr, r = [.int .i64 x.n, .string x.s, .string x.t, .slice C x.es.length ce, .slice D x.rcs.length dr] ∧ EV w C ce x.es ∧ NilC C ce ∧ RC w D dr x.rcs ∧ NilC D dr
theorem chR.below {w w' : World} {x : Cg} {r : List Value} (h : chR w x r) (hb : Below w.heap.size w w') : chR w' x r := by
  obtain ⟨C, ce, D, dr, e, h1, h2, h3, h4⟩ := h
  exact ⟨C, ce, D, dr, e, h1.below hb, h2, h3.below hb, h4⟩
def relC (w : World) (ls : List Cg) (rows : List (List Value)) : Prop := rows.length = ls.length ∧ ∀ (j : Nat) (x : Cg) (r : List Value), ls[j]? = some x → rows[j]? = some r → chR w x r
theorem relC.below {w w' : World} {ls : List Cg} {rows : List (List Value)} (h : relC w ls rows) (hb : Below w.heap.size w w') : relC w' ls rows := ⟨h.1, fun j x r hx hr => (h.2 j x r hx hr).below hb⟩
theorem relC.mem {w : World} {ls : List Cg} {rows : List (List Value)} (h : relC w ls rows) {r : List Value} (hr : r ∈ rows) : ∃ x, chR w x r := by
  obtain ⟨j, hj⟩ := List.mem_iff_getElem?.1 hr
  have hl := (List.getElem?_eq_some_iff.1 hj).1
  exact ⟨_, h.2 j _ r (List.getElem?_eq_getElem (by rw [← h.1]; exact hl)) hj⟩
theorem relC.len {w : World} {ls : List Cg} {rows : List (List Value)} (h : relC w ls rows) : ∀ r ∈ rows, r.length = 5 := fun r hr => by
  obtain ⟨x, C, ce, D, dr, e, _⟩ := h.mem hr
  rw [e]; rfl
theorem relC.one {w : World} {ls : List Cg} {rows : List (List Value)} (h : relC w ls rows) : ∀ r ∈ rows, ∀ u ∈ r, u.oneCell' = true := fun r hr u hu => by
  obtain ⟨x, C, ce, D, dr, e, _⟩ := h.mem hr
  rw [e] at hu
  simp only [List.mem_cons, List.not_mem_nil, or_false] at hu
  rcases hu with rfl | rfl | rfl | rfl | rfl <;> rfl
theorem relC.snoc {w : World} {ls : List Cg} {rows : List (List Value)} (h : relC w ls rows) {x : Cg} {r : List Value} (hx : chR w x r) : relC w (ls ++ [x]) (rows ++ [r]) := by
  refine ⟨by simp [h.1], fun j y q hy hq => ?_⟩
  rcases Nat.lt_or_ge j ls.length with hlt | hge
  · rw [List.getElem?_append_left hlt] at hy
    rw [List.getElem?_append_left (by rw [h.1]; exact hlt)] at hq
    exact h.2 j y q hy hq
  · rw [List.getElem?_append_right hge] at hy
    rw [List.getElem?_append_right (by rw [h.1]; exact hge), h.1] at hq
    generalize j - ls.length = k at hy hq
    cases k with
    | zero =>
      have e1 : x = y := by simpa using hy
      have e2 : r = q := by simpa using hq
      subst e1 e2
      exact hx
    | succ k => simp at hy
theorem list_ofC {α : Type} (n : Nat) (P : Nat → α → Prop) (h : ∀ j, j < n → ∃ a, P j a) : ∃ l : List α, l.length = n ∧ ∀ j a, l[j]? = some a → P j a := by
  induction n with
  | zero => exact ⟨[], rfl, fun j a h => by simp at h⟩
  | succ n ih =>
    obtain ⟨l, hl, hP⟩ := ih (fun j hj => h j (by omega))
    obtain ⟨a, ha⟩ := h n (by omega)
    refine ⟨l ++ [a], by simp [hl], fun j b hb => ?_⟩
    rcases Nat.lt_or_ge j l.length with hlt | hge
    · rw [List.getElem?_append_left hlt] at hb
      exact hP j b hb
    · rw [List.getElem?_append_right hge] at hb
      have hj : j - l.length = 0 := by
        rcases Nat.eq_zero_or_pos (j - l.length) with e | e
        · exact e
        · rw [List.getElem?_eq_none (by simp; omega)] at hb; cases hb
      rw [hj] at hb
      have e1 : a = b := by simpa using hb
      have e2 : j = n := by omega
      rw [e2, ← e1]
      exact ha
theorem CV.rows {w : World} {A : Option Addr} {c : Nat} {ls : List Cg} (h : CV w A c ls) : ∃ rows, RR w A c 5 rows ∧ relC w ls rows := by
  by_cases h0 : 0 < ls.length
  · obtain ⟨b, o, e, hlt, hc⟩ := h.2.2 h0
    obtain ⟨rows, hl, hP⟩ := list_ofC ls.length (fun j r => ∃ x, ls[j]? = some x ∧ chR w x r ∧ ∀ (i : Nat) (u : Value), r[i]? = some u → w.cell? ⟨b, o + j * 5 + i, none⟩ = some u) (fun j hj => by
      obtain ⟨C, ce, D, dr, h1, h2, h3, h4, h5, h6, h7, h8, h9⟩ := hc j _ (List.getElem?_eq_getElem hj)
      refine ⟨_, _, List.getElem?_eq_getElem hj, ⟨C, ce, D, dr, rfl, h6, h7, h8, h9⟩, fun i u hu => ?_⟩
      match i, hu with
      | 0, hu => cases hu; exact h1
      | 1, hu => cases hu; exact h2
      | 2, hu => cases hu; exact h3
      | 3, hu => cases hu; exact h4
      | 4, hu => cases hu; exact h5
      | i + 5, hu => simp at hu)
    refine ⟨rows, ⟨by rw [hl]; exact h.1, h.2.1, fun _ => ⟨b, o, e, hlt, fun j r hj i u hu => ?_⟩⟩, hl, fun j x r hx hr => ?_⟩
    · obtain ⟨x, _, _, hh⟩ := hP j r hj
      exact hh i u hu
    · obtain ⟨y, hy, hh, _⟩ := hP j r hr
      rw [hx] at hy
      cases hy
      exact hh
  · have : ls = [] := List.eq_nil_of_length_eq_zero (by omega)
    subst this
    exact ⟨[], RR.nil _ _ _ _ h.2.1, rfl, fun j x r hx => by simp at hx⟩
theorem CV.of_rows {w : World} {A : Option Addr} {c : Nat} {ls : List Cg} {rows : List (List Value)} (h : RR w A c 5 rows) (hr : relC w ls rows) : CV w A c ls := by
  refine ⟨by rw [← hr.1]; exact h.1, h.2.1, fun h0 => ?_⟩
  obtain ⟨b, o, e, hlt, hc⟩ := h.2.2 (by rw [hr.1]; exact h0)
  refine ⟨b, o, e, hlt, fun j x hj => ?_⟩
  obtain ⟨r, hq⟩ : ∃ r, rows[j]? = some r := ⟨_, List.getElem?_eq_getElem (by rw [hr.1]; exact (List.getElem?_eq_some_iff.1 hj).1)⟩
  obtain ⟨C, ce, D, dr, er, h1, h2, h3, h4⟩ := hr.2 j x r hj hq
  subst er
  exact ⟨C, ce, D, dr, hc j _ hq 0 _ rfl, hc j _ hq 1 _ rfl, hc j _ hq 2 _ rfl, hc j _ hq 3 _ rfl, hc j _ hq 4 _ rfl, h1, h2, h3, h4⟩
set_option maxHeartbeats 4000000 in
set_option maxRecDepth 100000 in
theorem sameQ_any (A B : Option Addr) (c d : Nat) (xs ys : List Rv) (w : World) (h : RV w A c xs) (k : RV w B d ys) (he : xs = ys) (hl : xs.length ≤ 1000) :
    Calls Tryd.prog 19 #[.slice A xs.length c, .slice B ys.length d] w fun e w' => e = .returned (.bool true) ∧ ∃ m, w' = w.drewN m := by
  subst he
  have h1 := h.1
  have h2 := h.2.1
  have k1 := k.1
  have k2 := k.2.1
  rw [List.length_map] at h1 k1
  have HA := Lib.hid h
  have HB := Lib.hid k
  clear h k
  go_enter Tryd.func19, Tryd.ntmps19
  go_wp2_with fail
  go_loopw [13] (fun s wr => ∃ k : Nat, k ≤ xs.length ∧ s = .int .i64 k ∧ Hid (∃ m, wr = w.drewN m)) (fun s _ => xs.length - (intOf s).toNat)
  case atStart => exact ⟨0, Nat.zero_le _, rfl, Lib.hid ⟨0, rfl⟩⟩
  case round =>
    obtain ⟨k, hk, rfl, HW0⟩ := hrel
    have HW : Hid (Below w.heap.size w wr) := Lib.hid (by obtain ⟨m, e⟩ := HW0.out; rw [e]; exact (by repeat (first | exact Below.refl _ _ | apply Below.drew | apply below_drewN | apply below_al)))
    by_cases hlt : k < xs.length
    · obtain ⟨v, hv⟩ : ∃ v, xs[k]? = some v := ⟨_, List.getElem?_eq_getElem hlt⟩
      obtain ⟨b, o', rfl, hb1, x0, x1, x2, x3, x4, x5, x6, x7, x8, x9, x10, x11⟩ := (HA.out.below HW.out).at_ hv
      obtain ⟨b2, o2, rfl, hb2, y0, y1, y2, y3, y4, y5, y6, y7, y8, y9, y10, y11⟩ := (HB.out.below HW.out).at_ hv
      have hre := fun w => rev_eq v v w
      have hvv : revB v v = true := (revB_iff v v).2 rfl
      simp only [hvv] at hre
      unfold aggR at hre
      clear hv
      go_upto_region 6 with (fail)
      go_quiet (fail)
      all_goals
        go_wp2_with fail
        go_roundw
        case rel => exact ⟨k + 1, by omega, by go_num, Lib.hid (by obtain ⟨m, e⟩ := HW0.out; exact ⟨_, by rw [e, World.drewN_drewN]⟩)⟩
        case measure => simp [intOf]; omega
    · obtain rfl : k = xs.length := by omega
      go_wp2_with fail
      go_ret
      exact ⟨rfl, HW0.out⟩
end Go.Proofs.YteagecjhpfijjaaDoor

/-
  An entry of a map is taken ahead of its store: a count of names.
-/
namespace Go.Proofs.YteagecjhpfijjaaDoor
set_option linter.unusedSimpArgs false
set_option linter.unusedVariables false
open Go.RowKit Go.WideShapes

theorem MPv.entry {w : World} {e t : TypeId} {b : Nat} {M : ByteArray × Int → Option Value} {cnt : Nat} (h : MPv w b M cnt) (ht : Tryd.prog.underlying t = some (.map 31 e)) {z : Value} (hz : ∀ u : World, (zeroValue e).run Tryd.prog u = .ok z u) {f : ByteArray × Int} (hf : okF f) (hM : M f = none) (hn : cnt < 1000) :
    ∃ (st : Nat) (w1 : World), (Instr.mapEntry t (.map (some b)) (fileA f)).run Tryd.prog w = .ok (.tuple #[z, goInt st]) w1 ∧ w.grownBy w1 (some b) ∧ MPv w1 b (fun g => if g = f then some z else M g) (cnt + 1) ∧
      ∀ val, ∃ w3, (Instr.entryStore t (.map (some b)) (goInt st) val).run Tryd.prog w1 = .ok () w3 ∧ w.grownBy w3 (some b) ∧ MPv w3 b (fun g => if g = f then some val else M g) (cnt + 1) := by
  obtain ⟨n, D, h1, h2, h3, h4⟩ := id h
  obtain ⟨es, clock, hb, F, hs, hD⟩ := id h1
  obtain ⟨s1, s2, _⟩ := F.stamped
  have hlk := h.look ht (hz w) hf
  rw [hM] at hlk
  rcases fileKeyed.find w (keyOf_file hf) es.toList F.keys with ⟨q1, q2⟩ | ⟨j, e0, q1, q2, q3⟩
  · have hup : ∀ val, (Instr.mapUpdate t (.map (some b)) (fileA f) val).run Tryd.prog w = .ok () (ChangeMaps.setBlock w b (.map (es.push ⟨fileA f, val, clock⟩) (clock + 1))) := fun val => by
      simp [Instr.mapUpdate, run_underlying ht, MapKept.run_getObj_map hb, fileKeyed.check w false (keyOf_file hf), q1, MapKept.run_setObj_map _ hb, Result.andThen, ChangeMaps.setBlock]
    have hall : ∀ val, w.grownBy (ChangeMaps.setBlock w b (.map (es.push ⟨fileA f, val, clock⟩) (clock + 1))) (some b) ∧ MPv (ChangeMaps.setBlock w b (.map (es.push ⟨fileA f, val, clock⟩) (clock + 1))) b (fun g => if g = f then some val else M g) (cnt + 1) := fun val => by
      obtain ⟨w', hr, hm, hg⟩ := h.put ht hf val hn
      rw [hup val] at hr
      cases hr
      rw [hM] at hm
      exact ⟨hg, hm⟩
    have hb1 : (ChangeMaps.setBlock w b (.map (es.push ⟨fileA f, z, clock⟩) (clock + 1))).heap[b]? = some (.map (es.push ⟨fileA f, z, clock⟩) (clock + 1)) := ChangeMaps.heap_setBlock_same hb _
    refine ⟨clock, ChangeMaps.setBlock w b (.map (es.push ⟨fileA f, z, clock⟩) (clock + 1)), ?_, (hall z).1, (hall z).2, fun val => ⟨ChangeMaps.setBlock w b (.map (es.push ⟨fileA f, val, clock⟩) (clock + 1)), ?_, (hall val).1, (hall val).2⟩⟩
    · simp [Instr.mapEntry, run_underlying ht, MapKept.run_getObj_map hb, fileKeyed.check w false (keyOf_file hf), q1, hz, MapKept.run_setObj_map _ hb, Result.andThen, ChangeMaps.setBlock]
    · have hidx : (es.push ⟨fileA f, z, clock⟩).findIdx? (fun e => ((e.born : Nat) : Int) == ((clock : Nat) : Int)) = some es.size := by
        rw [WideElems.findIdx_arr]
        exact WideElems.findIdx_born (l := (es.push ⟨fileA f, z, clock⟩).toList) (j := es.size) (e0 := ⟨fileA f, z, clock⟩) (by
          simp only [Array.toList_push, List.map_append, List.map_cons, List.map_nil]
          refine List.nodup_append.2 ⟨s2, by simp, fun a ha c hc e1 => ?_⟩
          simp only [List.mem_singleton] at hc
          obtain ⟨x, hx, rfl⟩ := List.mem_map.1 ha
          have := s1 x hx
          omega) (by simp)
      have hmod : (es.push ⟨fileA f, z, clock⟩).modify es.size (fun e => { e with val := val }) = es.push ⟨fileA f, val, clock⟩ := by
        apply Array.ext'
        rw [Array.toList_modify, Array.toList_push, Array.toList_push, ← Array.length_toList, WideElems.modify_last]
      have hst : ∀ w1 : World, w1.heap[b]? = some (.map (es.push ⟨fileA f, z, clock⟩) (clock + 1)) → (Instr.entryStore t (.map (some b)) (goInt clock) val).run Tryd.prog w1 = .ok () (ChangeMaps.setBlock w1 b (.map (es.push ⟨fileA f, val, clock⟩) (clock + 1))) := fun w1 hb1 => by
        simp [Instr.entryStore, MapKept.run_getObj_map hb1, asInt, asIntOf, goInt, hidx, hmod, MapKept.run_setObj_map _ hb1, Result.andThen, ChangeMaps.setBlock]
      have hss : ∀ o, ChangeMaps.setBlock (ChangeMaps.setBlock w b (.map (es.push ⟨fileA f, z, clock⟩) (clock + 1))) b o = ChangeMaps.setBlock w b o := fun o => by
        simp [ChangeMaps.setBlock]
      have := hst _ hb1
      rw [hss] at this
      exact this
  · exfalso
    simp [Instr.lookup, run_underlying ht, MapKept.run_getObj_map hb, fileKeyed.check w _ (keyOf_file hf), q1, Result.andThen] at hlk
theorem MPv.nocell {w : World} {b : Nat} {M : ByteArray × Int → Option Value} {cnt : Nat} (h : MPv w b M cnt) {g j : Nat} {u : Value} (hc : w.cell? ⟨g, j, none⟩ = some u) : g ≠ b := by
  rintro rfl
  obtain ⟨n, D, ⟨es, clock, hb, _⟩, _⟩ := h
  unfold World.cell? at hc
  rw [hb] at hc
  cases hc
/-- rows lie in other blocks than a map -/
theorem RR.grownM {w w' : World} {A : Option Addr} {c size : Nat} {rows : List (List Value)} (h : RR w A c size rows) {b0 : Nat} {M : ByteArray × Int → Option Value} {cnt : Nat} (hM : MPv w b0 M cnt) (hg : w.grownBy w' (some b0)) : RR w' A c size rows :=
  ⟨h.1, h.2.1, fun h0 => by
    obtain ⟨b, o, e, hb, hc⟩ := h.2.2 h0
    refine ⟨b, o, e, Nat.lt_of_lt_of_le hb hg.size, fun j r hj i u hu => ?_⟩
    have h1 := hc j r hj i u hu
    exact (cell_gb hg hb (fun e => hM.nocell h1 (Option.some.inj e).symm) _).trans h1⟩
section
variable {w : World} {o : Oper} {a : Act} {K : Act → World → Prop} {Q : Exit → Act → World → Prop}
theorem wp_mapEntry (m x : Operand) (t : TypeId) (hop : o.op = Op.mapEntry t m x) {e : TypeId} (ht : Tryd.prog.underlying t = some (.map 31 e)) {z : Value} (hz : ∀ u : World, (zeroValue e).run Tryd.prog u = .ok z u)
    (b : Nat) (M : ByteArray × Int → Option Value) (cnt : Nat) (hm : a.eval m = .map (some b)) (h : MPv w b M cnt) (f : ByteArray × Int) (hx : a.eval x = fileA f) (hf : okF f) (hM : M f = none) (hn : cnt < 1000)
    (hK : ∀ (st : Nat) w1, w.grownBy w1 (some b) → MPv w1 b (fun g => if g = f then some z else M g) (cnt + 1) →
      (∀ val, ∃ w3, (Instr.entryStore t (.map (some b)) (goInt st) val).run Tryd.prog w1 = .ok () w3 ∧ w.grownBy w3 (some b) ∧ MPv w3 b (fun g => if g = f then some val else M g) (cnt + 1)) → K (a.put o.dst (.tuple #[z, goInt st])) w1) : o.wp Tryd.prog a w K Q := by
  obtain ⟨st, w1, hrun, h1, h2, h3⟩ := h.entry ht hz hf hM hn
  unfold Oper.wp
  simp [execOp, hop, hm, hx, hrun, Result.andThen]
  exact hK st w1 h1 h2 h3
theorem wp_entryStore (m x v : Operand) (t : TypeId) (hop : o.op = Op.entryStore t m x v) (b st : Nat) (val : Value) (hm : a.eval m = .map (some b)) (hx : a.eval x = goInt st) (hv : a.eval v = val) {w3 : World}
    (hrun : (Instr.entryStore t (.map (some b)) (goInt st) val).run Tryd.prog w = .ok () w3) (hK : K (a.put o.dst undef) w3) : o.wp Tryd.prog a w K Q := by
  unfold Oper.wp
  simp [execOp, hop, hm, hx, hv, hrun, Result.andThen]
  exact hK
end
/-- names counted once each -/
def MC (T : List (ByteArray × Int)) (g : ByteArray × Int) : Option Value := if (T.any fun x => decide (x = g)) = true then some (.int .i64 1) else none
theorem MC_in {T : List (ByteArray × Int)} {g : ByteArray × Int} (h : g ∈ T) : MC T g = some (.int .i64 1) := if_pos (List.any_eq_true.2 ⟨g, h, decide_eq_true rfl⟩)
theorem MC_out {T : List (ByteArray × Int)} {g : ByteArray × Int} (h : g ∉ T) : MC T g = none := if_neg (fun e => by
  obtain ⟨x, hx, e⟩ := List.any_eq_true.1 e
  exact h (of_decide_eq_true e ▸ hx))
theorem MC_snoc (T : List (ByteArray × Int)) (f : ByteArray × Int) : MC (T ++ [f]) = fun g => if g = f then some (.int .i64 1) else MC T g := by
  funext g
  by_cases e : g = f
  · rw [MC_in (by rw [e]; simp), if_pos e]
  · rw [if_neg e]
    by_cases h : g ∈ T
    · rw [MC_in h, MC_in (List.mem_append_left _ h)]
    · rw [MC_out h, MC_out (fun hm => by
        rcases List.mem_append.1 hm with hm | hm
        · exact h hm
        · exact e (List.mem_singleton.1 hm))]
theorem run_makeMapF (w : World) : (Instr.makeMap 49 none).run Tryd.prog w = .ok (.map (some w.heap.size)) (w.alloc (.map #[] 0)) := by
  simp [Instr.makeMap, run_underlying Tryd.underlying49, Result.andThen]
theorem zeroInt (w : World) : (zeroValue 3).run Tryd.prog w = .ok (.int .i64 0) w := by kernel_rfl
end Go.Proofs.YteagecjhpfijjaaDoor

/-
  Maps from texts; an order of operations' laws on them.
-/
namespace Go.Proofs.YteagecjhpfijjaaDoor
set_option linter.unusedSimpArgs false
set_option linter.unusedVariables false
open Go.RowKit Go.WideShapes

theorem strKeyed : Maps.Keyed Tryd.prog 9 := Maps.string_keyed Tryd.underlying9
theorem keyOf_str {f : ByteArray} (h : f.size ≤ 9223372036854775807) : keyOf Tryd.prog 9 (.string f) = some (.string f.data.toList) := WideMaps.keyOf_string_mk Tryd.underlying9 h
theorem KS_inj {f g : ByteArray} (hf : f.size ≤ 9223372036854775807) (hg : g.size ≤ 9223372036854775807) (h : (Lit.string f.data.toList) = .string g.data.toList) : f = g := by
  have := strKeyed.inj (keyOf_str hf) (h ▸ keyOf_str hg)
  simpa using this
theorem KS_key {f : ByteArray} (hf : f.size ≤ 9223372036854775807) : WideAt.IsKeyLit (.string f.data.toList) := strKeyed.key (keyOf_str hf)
/-- block b is a map from names to values that reads as M, with so many entries -/
def SPv (w : World) (b : Nat) (M : ByteArray → Option Value) (cnt : Nat) : Prop :=
  ∃ (n : Nat) (D : DataW Value), w.ownsMap Tryd.prog 9 RH b n D ∧ n ≤ 100000 ∧ Maps.size D = cnt ∧
    ∀ f, f.size ≤ 9223372036854775807 → Maps.has D (Lit.string f.data.toList) = (M f).isSome ∧ ∀ z, D.atKey (Lit.string f.data.toList) z = match M f with | some v => .held v | none => z
theorem SPv.grown {w w' : World} {b : Nat} {M : ByteArray → Option Value} {cnt : Nat} {row : Option Nat} (h : SPv w b M cnt) (hg : w.grownBy w' row) (hne : some b ≠ row) : SPv w' b M cnt := by
  obtain ⟨n, D, h1, h2⟩ := h
  exact ⟨n, D, h1.kept hg hne, h2⟩
theorem SPv.lt {w : World} {b : Nat} {M : ByteArray → Option Value} {cnt : Nat} (h : SPv w b M cnt) : b < w.heap.size := by
  obtain ⟨n, D, h1, _⟩ := h
  exact h1.lt
theorem SPv.below {w w' : World} {b : Nat} {M : ByteArray → Option Value} {cnt : Nat} (h : SPv w b M cnt) (hb : Below w.heap.size w w') : SPv w' b M cnt := h.grown (grown_below hb) (by simp)
theorem SPv.made (w : World) : SPv (w.alloc (.map #[] 0)) w.heap.size (fun _ => none) 0 :=
  ⟨0, .map [], World.ownsMap_made _ _ _ _, by omega, rfl, fun f hf => ⟨rfl, fun z => rfl⟩⟩
section
variable {w : World} {ops : Array Oper} {rest : List Oper} {o : Oper} {a : Act} {Q : Exit → Act → World → Prop}
/-- a store at the operation -/
theorem SPv.put {e t : TypeId} {b : Nat} {M : ByteArray → Option Value} {cnt : Nat} (h : SPv w b M cnt) (ht : Tryd.prog.underlying t = some (.map 9 e)) {f : ByteArray} (hf : f.size ≤ 9223372036854775807) (val : Value) (hn : cnt < 1000) :
    ∃ w', (Instr.mapUpdate t (.map (some b)) (.string f) val).run Tryd.prog w = .ok () w' ∧ SPv w' b (fun g => if g = f then some val else M g) (if (M f).isSome then cnt else cnt + 1) ∧ w.grownBy w' (some b) := by
  obtain ⟨n, D, h1, h2, h3, h4⟩ := h
  obtain ⟨es, clock, hb, F, hs, hD⟩ := h1
  have hes : es.size ≤ 1000 := by
    have : Maps.size D = es.size := by rw [hD]; simp [Maps.size, length_sorted]
    omega
  have h1' : w.ownsMap Tryd.prog 9 RH b 1000 D := ⟨es, clock, hb, F, hes, hD⟩
  obtain ⟨w', hrun, hown, hg⟩ := h1'.update strKeyed ht (by simp [maxLen]) (keyOf_str hf) (show RH val = some (.held val, []) from rfl)
  have hT : Maps.Tidy D := h1'.tidy strKeyed
  refine ⟨w', hrun, ⟨_, _, hown, by omega, ?_, fun g hg' => ?_⟩, hg⟩
  · rw [Maps.size_put hT, (h4 f hf).1, h3]
  · by_cases e : g = f
    · subst e
      dsimp only
      rw [if_pos rfl]
      exact ⟨by rw [Maps.has_put_same hT.isMap (KS_key hg')]; rfl, fun z => by rw [Maps.atKey_put_same hT.isMap (KS_key hg')]⟩
    · dsimp only
      rw [if_neg e]
      have hne : Lit.string g.data.toList ≠ Lit.string f.data.toList := fun h => e (KS_inj hg' hf h)
      rw [Maps.has_put_other hne]
      refine ⟨(h4 g hg').1, fun z => ?_⟩
      rw [Maps.atKey_put_other hne]
      exact (h4 g hg').2 z
/-- a look-up -/
theorem SPv.look {e t : TypeId} {b : Nat} {M : ByteArray → Option Value} {cnt : Nat} (h : SPv w b M cnt) (ht : Tryd.prog.underlying t = some (.map 9 e)) {z : Value} (hz : (zeroValue e).run Tryd.prog w = .ok z w) {f : ByteArray} (hf : f.size ≤ 9223372036854775807) :
    (Instr.lookup t (.map (some b)) (.string f) true).run Tryd.prog w = .ok (.tuple #[(M f).getD z, .bool (M f).isSome]) w := by
  obtain ⟨n, D, h1, h2, h3, h4⟩ := h
  obtain ⟨v, ps, hrun, hv⟩ := h1.look_ok strKeyed ht hz (show RH z = some (.held z, []) from rfl) (keyOf_str hf)
  rw [hrun, (h4 f hf).1]
  have hat := (h4 f hf).2 (.held z)
  unfold RH at hv
  rw [hat] at hv
  have hv := congrArg Prod.fst (Option.some.inj hv)
  cases hM : M f with
  | none => rw [hM] at hv; simp only at hv; cases hv; rfl
  | some u => rw [hM] at hv; simp only at hv; cases hv; rfl
theorem SPv.look0 {e t : TypeId} {b : Nat} {M : ByteArray → Option Value} {cnt : Nat} (h : SPv w b M cnt) (ht : Tryd.prog.underlying t = some (.map 9 e)) {z : Value} (hz : (zeroValue e).run Tryd.prog w = .ok z w) {f : ByteArray} (hf : f.size ≤ 9223372036854775807) :
    (Instr.lookup t (.map (some b)) (.string f) false).run Tryd.prog w = .ok ((M f).getD z) w := by
  obtain ⟨n, D, h1, h2, h3, h4⟩ := h
  obtain ⟨v, ps, hrun, hv⟩ := h1.lookup strKeyed ht hz (show RH z = some (.held z, []) from rfl) (keyOf_str hf)
  rw [hrun]
  have hat := (h4 f hf).2 (.held z)
  unfold RH at hv
  rw [hat] at hv
  have hv := congrArg Prod.fst (Option.some.inj hv)
  cases hM : M f with
  | none => rw [hM] at hv; simp only at hv; cases hv; rfl
  | some u => rw [hM] at hv; simp only at hv; cases hv; rfl
theorem SPv.len {e t : TypeId} {b : Nat} {M : ByteArray → Option Value} {cnt : Nat} (h : SPv w b M cnt) (ht : Tryd.prog.underlying t = some (.map 9 e)) (ty : TypeId) : (Builtin.len_ #[t] ty #[.map (some b)]).run Tryd.prog w = .ok (.int .i64 cnt) w := by
  obtain ⟨n, D, h1, h2, h3, h4⟩ := h
  rw [h1.len ht ty, h3]
end
theorem wpList_slook {w : World} {ops : Array Oper} {rest : List Oper} {o : Oper} {a : Act} {Q : Exit → Act → World → Prop} (hg : o.guard = none) (m x : Operand) (t : TypeId) (hop : o.op = Op.lookup t m x false)
    {e : TypeId} (ht : Tryd.prog.underlying t = some (.map 9 e)) {z : Value} (hz : (zeroValue e).run Tryd.prog w = .ok z w) (b : Nat) (M : ByteArray → Option Value) (cnt : Nat) (hm : a.eval m = .map (some b)) (hM : SPv w b M cnt) (f : ByteArray) (hx : a.eval x = .string f) (hf : f.size ≤ 9223372036854775807)
    (val : Value) (hv : (M f).getD z = val)
    (hK : wpList Tryd.prog ops Q rest (a.put o.dst val) w) : wpList Tryd.prog ops Q (o :: rest) a w := by
  subst hv
  refine wpList_plain hg fun K' hK' => ?_
  have hrun := hM.look0 ht hz hf
  unfold Oper.wp
  simp [execOp, hop, hm, hx, hrun, Result.andThen]
  exact hK' _ _ hK
theorem wp_sput {w : World} {o : Oper} {a : Act} {K : Act → World → Prop} {Q : Exit → Act → World → Prop} (m x v : Operand) (t : TypeId) (hop : o.op = Op.mapUpdate t m x v)
    {e : TypeId} (ht : Tryd.prog.underlying t = some (.map 9 e)) (b : Nat) (M : ByteArray → Option Value) (cnt : Nat) (hm : a.eval m = .map (some b)) (hM : SPv w b M cnt) (f : ByteArray) (val : Value) (hx : a.eval x = .string f) (hv : a.eval v = val) (hf : f.size ≤ 9223372036854775807) (hn : cnt < 1000)
    (h : ∀ w', SPv w' b (fun g => if g = f then some val else M g) (if (M f).isSome then cnt else cnt + 1) → w.grownBy w' (some b) → K (a.put o.dst undef) w') : o.wp Tryd.prog a w K Q := by
  obtain ⟨w', hrun, h1, h2⟩ := hM.put ht hf val hn
  unfold Oper.wp
  simp [execOp, hop, hm, hx, hv, hrun, Result.andThen]
  exact h w' h1 h2
/-- texts held once each -/
def MS (T : List ByteArray) (g : ByteArray) : Option Value := if (T.any fun x => decide (x = g)) = true then some (.bool true) else none
theorem MS_in {T : List ByteArray} {g : ByteArray} (h : g ∈ T) : MS T g = some (.bool true) := if_pos (List.any_eq_true.2 ⟨g, h, decide_eq_true rfl⟩)
theorem MS_out {T : List ByteArray} {g : ByteArray} (h : g ∉ T) : MS T g = none := if_neg (fun e => by
  obtain ⟨x, hx, e⟩ := List.any_eq_true.1 e
  exact h (of_decide_eq_true e ▸ hx))
theorem MS_snoc (T : List ByteArray) (f : ByteArray) : MS (T ++ [f]) = fun g => if g = f then some (.bool true) else MS T g := by
  funext g
  by_cases e : g = f
  · rw [MS_in (by rw [e]; simp), if_pos e]
  · rw [if_neg e]
    by_cases h : g ∈ T
    · rw [MS_in h, MS_in (List.mem_append_left _ h)]
    · rw [MS_out h, MS_out (fun hm => by
        rcases List.mem_append.1 hm with hm | hm
        · exact h hm
        · exact e (List.mem_singleton.1 hm))]
theorem run_makeMapS (w : World) : (Instr.makeMap 66 none).run Tryd.prog w = .ok (.map (some w.heap.size)) (w.alloc (.map #[] 0)) := by
  simp [Instr.makeMap, run_underlying Tryd.underlying66, Result.andThen]
theorem zeroBool (w : World) : (zeroValue 4).run Tryd.prog w = .ok (.bool false) w := by kernel_rfl
/-- block b holds these texts as a set -/
def SS (w : World) (b : Nat) (T : List ByteArray) : Prop := SPv w b (MS T) T.length
theorem SS.below {w w' : World} {b : Nat} {T : List ByteArray} (h : SS w b T) (hb : Below w.heap.size w w') : SS w' b T := SPv.below h hb
theorem SS.grown {w w' : World} {b : Nat} {T : List ByteArray} {row : Option Nat} (h : SS w b T) (hg : w.grownBy w' row) (hne : some b ≠ row) : SS w' b T := SPv.grown h hg hne
theorem SS.made (w : World) : SS (w.alloc (.map #[] 0)) w.heap.size [] := SPv.made w
theorem SS.lt {w : World} {b : Nat} {T : List ByteArray} (h : SS w b T) : b < w.heap.size := SPv.lt h
theorem SPv.nocell {w : World} {b : Nat} {M : ByteArray → Option Value} {cnt : Nat} (h : SPv w b M cnt) {g j : Nat} {u : Value} (hc : w.cell? ⟨g, j, none⟩ = some u) : g ≠ b := by
  rintro rfl
  obtain ⟨n, D, ⟨es, clock, hb, _⟩, _⟩ := h
  unfold World.cell? at hc
  rw [hb] at hc
  cases hc
theorem RR.grownS {w w' : World} {A : Option Addr} {c size : Nat} {rows : List (List Value)} (h : RR w A c size rows) {b0 : Nat} {T : List ByteArray} (hM : SS w b0 T) (hg : w.grownBy w' (some b0)) : RR w' A c size rows :=
  ⟨h.1, h.2.1, fun h0 => by
    obtain ⟨b, o, e, hb, hc⟩ := h.2.2 h0
    refine ⟨b, o, e, Nat.lt_of_lt_of_le hb hg.size, fun j r hj i u hu => ?_⟩
    have h1 := hc j r hj i u hu
    exact (cell_gb hg hb (fun e => hM.nocell h1 (Option.some.inj e).symm) _).trans h1⟩
section
variable {w : World} {ops : Array Oper} {rest : List Oper} {o : Oper} {a : Act} {Q : Exit → Act → World → Prop}
/-- is it there? -/
theorem wpList_has (hg : o.guard = none) (m x : Operand) (t : TypeId) (hop : o.op = Op.lookup t m x false) (ht : Tryd.prog.underlying t = some (.map 9 4))
    (b : Nat) (T : List ByteArray) (hm : a.eval m = .map (some b)) (hM : SS w b T) (f : ByteArray) (hx : a.eval x = .string f) (hf : f.size ≤ 9223372036854775807) (q : Bool) (hq : q = true ↔ f ∈ T)
    (hK : wpList Tryd.prog ops Q rest (a.put o.dst (.bool q)) w) : wpList Tryd.prog ops Q (o :: rest) a w := by
  refine wpList_slook hg m x t hop ht (zeroBool w) b (MS T) T.length hm hM f hx hf (.bool q) ?_ hK
  by_cases h : f ∈ T
  · rw [MS_in h, hq.2 h]; rfl
  · rw [MS_out h]
    cases q with
    | true => exact absurd (hq.1 rfl) h
    | false => rfl
/-- one more is put in -/
theorem wpList_into (hg : o.guard = none) (m x v : Operand) (t : TypeId) (hop : o.op = Op.mapUpdate t m x v) (ht : Tryd.prog.underlying t = some (.map 9 4))
    (b : Nat) (T : List ByteArray) (hm : a.eval m = .map (some b)) (hM : SS w b T) (f : ByteArray) (hx : a.eval x = .string f) (hv : a.eval v = .bool true) (hf : f.size ≤ 9223372036854775807) (hn : T.length < 1000) (hfr : f ∉ T)
    (hK : ∀ w', SS w' b (T ++ [f]) → w.grownBy w' (some b) → wpList Tryd.prog ops Q rest (a.put o.dst undef) w') : wpList Tryd.prog ops Q (o :: rest) a w := by
  refine wpList_plain hg fun K' hK' => ?_
  refine wp_sput m x v t hop ht b (MS T) T.length hm hM f (.bool true) hx hv hf hn fun w' h1 h2 => hK' _ _ (hK w' ?_ h2)
  rw [MS_out hfr] at h1
  unfold SS
  rw [MS_snoc, List.length_append]
  exact h1
end
end Go.Proofs.YteagecjhpfijjaaDoor

/-
  The walk of the reference's Paths.
-/
namespace Go.Proofs.YteagecjhpfijjaaDoor
set_option linter.unusedSimpArgs false
set_option linter.unusedVariables false
open Go.RowKit Go.WideShapes

theorem swap_perm : ∀ (xs : List ByteArray) (j : Nat) {x y : ByteArray}, xs[j]? = some y → xs[j + 1]? = some x → ((xs.set (j + 1) y).set j x).Perm xs
  | [], _, _, _, h, _ => by simp at h
  | [a], 0, _, _, _, h => by simp at h
  | a :: b :: l, 0, x, y, h1, h2 => by
    have e1 : a = y := by simpa using h1
    have e2 : b = x := by simpa using h2
    subst e1 e2
    exact List.Perm.swap _ _ _
  | a :: l, j + 1, x, y, h1, h2 => by
    have e1 : l[j]? = some y := by simpa using h1
    have e2 : l[j + 1]? = some x := by simpa using h2
    exact List.Perm.cons a (swap_perm l j e1 e2)
def RetPs (w : World) (rs : List Rv) (e : Ending) (w' : World) : Prop := ∃ A c xs, e = .returned (.slice A (List.length xs) c) ∧ RT w' A c xs ∧ xs.Nodup ∧ (∀ p, p ∈ xs ↔ ∃ v ∈ rs, v.path = p) ∧ Below w.heap.size w w'
theorem OT.grownM {w w' : World} {base : Nat} {v : Value} {xs : List ByteArray} {b : Nat} (h : OT w base v xs) (hg : w.grownBy w' (some b)) (hb : b < base) : OT w' base v xs :=
  World.ownsRow.kept h hg (.inr (fun e => by have := h.own _ e; omega))
/-- the paths so far -/
def TP (rs : List Rv) (T : List ByteArray) : Prop := T.Nodup ∧ ∀ p, p ∈ T ↔ ∃ v ∈ rs, v.path = p
theorem TP.old {rs : List Rv} {T : List ByteArray} {k : Nat} {v : Rv} (h : TP (rs.take k) T) (hv : rs[k]? = some v) (hm : v.path ∈ T) : TP (rs.take (k + 1)) T := by
  refine ⟨h.1, fun p => ?_⟩
  rw [List.take_add_one, hv, h.2 p]
  constructor
  · rintro ⟨u, hu, e⟩
    exact ⟨u, List.mem_append_left _ hu, e⟩
  · rintro ⟨u, hu, e⟩
    rcases List.mem_append.1 hu with hu | hu
    · exact ⟨u, hu, e⟩
    · have : u = v := by simpa using hu
      subst this
      rw [← e]
      exact (h.2 _).1 hm
theorem TP.new {rs : List Rv} {T : List ByteArray} {k : Nat} {v : Rv} (h : TP (rs.take k) T) (hv : rs[k]? = some v) (hm : v.path ∉ T) : TP (rs.take (k + 1)) (T ++ [v.path]) := by
  refine ⟨?_, fun p => ?_⟩
  · rw [List.nodup_append]
    exact ⟨h.1, by simp, fun a ha b hb e => by obtain rfl := List.mem_singleton.1 hb; subst e; exact hm ha⟩
  · rw [List.take_add_one, hv, List.mem_append, h.2 p]
    constructor
    · rintro (⟨u, hu, e⟩ | hp)
      · exact ⟨u, List.mem_append_left _ hu, e⟩
      · exact ⟨v, List.mem_append_right _ (by simp), (List.mem_singleton.1 hp).symm⟩
    · rintro ⟨u, hu, e⟩
      rcases List.mem_append.1 hu with hu | hu
      · exact .inl ⟨u, hu, e⟩
      · have : u = v := by simpa using hu
        subst this
        exact .inr (List.mem_singleton.2 e.symm)
theorem TP.perm {rs : List Rv} {T xs : List ByteArray} (h : TP rs T) (hp : xs.Perm T) : TP rs xs := ⟨hp.nodup_iff.2 h.1, fun p => hp.mem_iff.trans (h.2 p)⟩
theorem TP.size {rs : List Rv} {T : List ByteArray} (h : TP rs T) (hz : szR rs) {p : ByteArray} (hp : p ∈ T) : p.size ≤ 500 := by
  obtain ⟨v, hv, e⟩ := (h.2 p).1 hp
  rw [← e]
  exact hz v hv
set_option maxHeartbeats 8000000 in
set_option maxRecDepth 100000 in
theorem paths_any (A B : Option Addr) (c m d : Nat) (rs : List Rv) (w : World) (h : RV w A c rs) (hl : rs.length ≤ 500) (hz : szR rs) (hm : ML w) :
    Calls Tryd.prog 31 #[.agg #[.slice A rs.length c, .slice B m d]] w (RetPs w rs) := by
  have h1 := h.1
  have h2 := h.2.1
  rw [List.length_map] at h1
  have HR := Lib.hid h
  have HZ := Lib.hid hz
  have HM := Lib.hid hm
  have hmm := run_makeMapS
  clear h hz hm
  go_enter Tryd.func31, Tryd.ntmps31
  go_wp2_with fail
  clear hmm
  go_loopw [3, 13] (fun s3 s wr => ∃ (k : Nat) (T : List ByteArray), k ≤ rs.length ∧ s = .int .i64 k ∧ T.length ≤ k ∧ Hid (OT wr (w.heap.size + 2) s3 T) ∧ Hid (SS wr (w.heap.size + 1) T) ∧ Hid (TP (rs.take k) T) ∧ Hid (Below w.heap.size w wr) ∧ w.heap.size + 2 ≤ wr.heap.size) (fun _ s _ => rs.length - (intOf s).toNat)
  case atStart => exact ⟨0, [], Nat.zero_le _, rfl, Nat.zero_le _, Lib.hid (OT.nil _ _), Lib.hid (by have := SS.made (w.alloc (.cells #[.slice A rs.length c, .slice B m d] 28)); rw [World.size_alloc] at this; exact this), Lib.hid ⟨List.nodup_nil, fun p => by simp⟩, Lib.hid (by repeat (first | exact Below.refl _ _ | apply Below.drew | apply below_drewN | apply below_al)), by simp⟩
  case round =>
    obtain ⟨k, T, hk, rfl, htk, HO, HS, HT, HB, hsz⟩ := hrel
    by_cases hlt : k < rs.length
    · obtain ⟨v, hv⟩ : ∃ v, rs[k]? = some v := ⟨_, List.getElem?_eq_getElem hlt⟩
      obtain ⟨b, o', rfl, hb1, x0, x1, x2, x3, x4, x5, x6, x7, x8, x9, x10, x11⟩ := (HR.out.below HB.out).at_ hv
      have HV := BX.new wr (revV v) 40 rfl
      have hvs : v.path.size ≤ 9223372036854775807 := by have := HZ.out v (List.mem_of_getElem? hv); omega
      by_cases hin : v.path ∈ T
      · have HT2 := Lib.hid (HT.out.old hv hin)
        have HIN := Lib.hid hin
        clear hv hin HV
        go_wp2_with (at_lookup; refine wpList_has rfl _ _ _ rfl Tryd.underlying66 (w.heap.size + 1) T rfl (HS.out.below (by repeat (first | exact Below.refl _ _ | apply Below.drew | apply below_drewN | apply below_al | (refine Below.setCell ?_ (by simp) _)))) v.path rfl hvs true ⟨fun _ => HIN.out, fun _ => rfl⟩ ?_)
        go_roundw
        case rel => exact ⟨k + 1, T, by omega, by go_num, by omega, Lib.hid (HO.out.below (by repeat (first | exact Below.refl _ _ | apply Below.drew | apply below_drewN | apply below_al))), Lib.hid (HS.out.below (by repeat (first | exact Below.refl _ _ | apply Below.drew | apply below_drewN | apply below_al))), HT2, Lib.hid (go3 HB.out (by repeat (first | exact Below.refl _ _ | apply Below.drew | apply below_drewN | apply below_al))), by simp; omega⟩
        case measure => simp [intOf]; omega
      · have HT2 := Lib.hid (HT.out.new hv hin)
        have HIN := Lib.hid hin
        have HVV := Lib.hid HV
        clear hv hin HV
        go_wp2_with (first
          | (at_lookup; refine wpList_has rfl _ _ _ rfl Tryd.underlying66 (w.heap.size + 1) T rfl (HS.out.below (by repeat (first | exact Below.refl _ _ | apply Below.drew | apply below_drewN | apply below_al | (refine Below.setCell ?_ (by simp) _)))) v.path rfl hvs false ⟨fun e => (by cases e), fun e => absurd e HIN.out⟩ ?_)
          | (at_mapUpdate; refine wpList_into rfl _ _ _ _ rfl Tryd.underlying66 (w.heap.size + 1) T rfl (HS.out.below (by repeat (first | exact Below.refl _ _ | apply Below.drew | apply below_drewN | apply below_al | (refine Below.setCell ?_ (by simp) _)))) v.path rfl rfl hvs (by omega) HIN.out ?_; intro w5 hs5 hg5; have HS5 := Lib.hid hs5; have HO5 := Lib.hid ((HO.out.below (below_alloc _ (.cells (revV v).toArray 40))).grownM hg5 (by omega)); have HB5 := Lib.hid ((go3 HB.out (below_alloc _ (.cells (revV v).toArray 40))).grown hg5 (by simp; omega) (fun j hj => by cases hj; omega)); have hbx := HVV.out.grown hg5 (by simp; omega); obtain ⟨y0, _⟩ := hbx.rev; have hs6 : wr.heap.size < w5.heap.size := hbx.2.2; clear hs5 hg5 hbx)
          | (at_builtin; refine wpList_append_texts rfl _ _ rfl (w.heap.size + 2) _ T [v.path] _ 1 rfl rfl (HO5.out.below (below_alloc _ _)) (RT.one1 (by simp)) (by simp only [List.length_singleton]; omega) (by simp; omega) ?_; intro v1 w7 hown hg _; have HO7 := Lib.hid hown; have HS7 := Lib.hid ((HS5.out.below (below_alloc _ _)).grown hg (fun e => by have := HO5.out.own _ e.symm; omega)); have HB7 := Lib.hid ((go3 HB5.out (below_alloc _ _)).grown hg (by simp; omega) (fun j hj => by have := HO5.out.own _ hj; omega)); have hs7 : w5.heap.size < w7.heap.size := (by have := hg.size; simp at this; omega); clear hown hg))
        go_roundw
        case rel => exact ⟨k + 1, T ++ [v.path], by omega, by go_num, by simp; omega, HO7, HS7, HT2, HB7, by omega⟩
        case measure => simp [intOf]; omega
    · obtain rfl : k = rs.length := by omega
      have hT := HT.out
      rw [List.take_length] at hT
      have HT3 := Lib.hid hT
      obtain ⟨A3, c3, hv, hrt⟩ := HO.out.read
      subst hv
      have q1 := hrt.1
      have q2 := hrt.2.1
      have HSZ : Hid (∀ x ∈ T, x.size ≤ 500) := Lib.hid (fun x hx => hT.size HZ.out hx)
      have H0 : Hid (∃ xs, xs.Perm T ∧ OT wr (w.heap.size + 2) (.slice A3 T.length c3) xs) := Lib.hid ⟨T, List.Perm.refl _, HO.out⟩
      have HN : Hid (∀ xs : List ByteArray, xs.Perm T → xs.length = T.length) := Lib.hid (fun xs h => h.length_eq)
      clear hT HT HS hrt HO HR HZ hsz
      generalize T.length = n at *
      obtain ⟨wo, rfl⟩ : ∃ wo, wo = wr := ⟨wr, rfl⟩
      go_wp2_with fail
      go_loopw [33] (fun s wr => ∃ k : Nat, k ≤ n ∧ s = .int .i64 k ∧ Hid (∃ xs, xs.Perm T ∧ OT wr (w.heap.size + 2) (.slice A3 n c3) xs) ∧ Hid (Below w.heap.size w wr)) (fun s _ => n - (intOf s).toNat)
      case atStart => exact ⟨0, Nat.zero_le _, rfl, H0, HB⟩
      case round =>
        clear H0 HB
        obtain ⟨k, hk, rfl, H0, HB⟩ := hrel
        by_cases hlt : k < n
        · obtain ⟨wo2, rfl⟩ : ∃ wo2, wo2 = wr := ⟨wr, rfl⟩
          go_wp2_with fail
          go_loopw [8] (fun s wr => ∃ j : Nat, j ≤ k ∧ s = .int .i64 j ∧ Hid (∃ xs, xs.Perm T ∧ OT wr (w.heap.size + 2) (.slice A3 n c3) xs) ∧ Hid (Below w.heap.size w wr)) (fun s _ => (intOf s).toNat)
          case atStart => exact ⟨k, Nat.le_refl _, rfl, H0, HB⟩
          case round =>
            clear H0 HB
            obtain ⟨j, hj, rfl, H0, HB⟩ := hrel
            obtain ⟨xs, hxp, hxo⟩ := H0.out
            have hxl := HN.out xs hxp
            by_cases h0 : 0 < j
            · obtain ⟨x, hx⟩ : ∃ x, xs[j]? = some x := ⟨_, List.getElem?_eq_getElem (by omega)⟩
              obtain ⟨y, hy⟩ : ∃ y, xs[j - 1]? = some y := ⟨_, List.getElem?_eq_getElem (by omega)⟩
              have HXS : Hid (x.size ≤ 1000000 ∧ y.size ≤ 1000000) := Lib.hid ⟨by have := HSZ.out x (hxp.mem_iff.1 (List.mem_of_getElem? hx)); omega, by have := HSZ.out y (hxp.mem_iff.1 (List.mem_of_getElem? hy)); omega⟩
              obtain ⟨g, cap, e, hbg, hgl, hgc, hgm⟩ := hxo.block (by omega)
              cases e
              have HX := Lib.hid hx
              have HY := Lib.hid hy
              have HXP := Lib.hid hxp
              have HBG := Lib.hid hbg
              have HQ : At (fun w' => OT w' (w.heap.size + 2) (.slice (some ⟨g, 0, none⟩) xs.length c3) xs ∧ Below w.heap.size w w') wr := ⟨fun X Y h hb => ⟨h.1.below hb, go3 h.2 hb⟩, hxo, HB.out⟩
              have HPM : Hid (((xs.set j y).set (j - 1) x).Perm T) := Lib.hid (by have := swap_perm xs (j - 1) hy (by rw [show j - 1 + 1 = j by omega]; exact hx); rw [show j - 1 + 1 = j by omega] at this; exact this.trans hxp)
              have HOR := Lib.hid (fun W h => order_any x y W HXS.out.1 HXS.out.2 h)
              generalize ordR x y = oo at *
              have hd : decide (0 < j) = true := decide_eq_true h0
              have hw1 : IntKind.i64.wrap ((j : Int) - 1) = (j : Int) - 1 := IntWalk.i64_in _ (by omega)
              have hw2 : 0 ≤ (j : Int) - 1 := by omega
              have hw2' : 1 ≤ (j : Int) := by omega
              have hw3 : ((j : Int) - 1).toNat = j - 1 := by omega
              have hw4 : j - 1 < xs.length := by omega
              have hw5 : j < xs.length := by omega
              have hw6 : (j : Int) - 1 < (xs.length : Int) := by omega
              have hw7 : (j : Int) < (xs.length : Int) + 1 := by omega
              clear hx hy hbg H0 HB hxp hxo
              go_wp2_with fail
              go_region_held3 (fun w' => w'.cell? ⟨g, j, none⟩ = some (.string x) ∧ w'.cell? ⟨g, j - 1, none⟩ = some (.string y))
                (first | exact ⟨((HQ.go (by repeat (first | exact Below.refl _ _ | apply Below.drew | apply below_drewN | apply below_al))).out.1.cell HX.out).1, ((HQ.go (by repeat (first | exact Below.refl _ _ | apply Below.drew | apply below_drewN | apply below_al))).out.1.cell HY.out).1⟩)
                (first | (go_at_call 47; refine (HOR.out _ (HM.out.below (HQ.go (by repeat (first | exact Below.refl _ _ | apply Below.drew | apply below_drewN | apply below_al))).out.2)).mono ?_; rintro e wm ⟨rfl, hb⟩; replace HQ := HQ.go2 (by repeat (first | exact Below.refl _ _ | apply Below.drew | apply below_drewN | apply below_al)) hb; clear hb))
              all_goals
                by_cases hoo : oo < 0
                · have hoo' : decide (oo < 0) = true := decide_eq_true hoo
                  obtain ⟨cx0, cxf, _, cxl, _⟩ := (HQ.go (by repeat (first | exact Below.refl _ _ | apply Below.drew | apply below_drewN | apply below_al))).out.1.cell HX.out
                  obtain ⟨cy0, cyf, _, cyl, _⟩ := (HQ.go (by repeat (first | exact Below.refl _ _ | apply Below.drew | apply below_drewN | apply below_al))).out.1.cell HY.out
                  go_wp2_with fail
                  go_region
                  all_goals
                    go_wp2_with fail
                    go_roundw
                    case rel => exact ⟨j - 1, by omega, by go_num, Lib.hid ⟨(xs.set j y).set (j - 1) x, HPM.out, (((HQ.go (by repeat (first | exact Below.refl _ _ | apply Below.drew | apply below_drewN | apply below_al))).out.1.set (k := j) hw5 y).set (k := j - 1) (by rw [List.length_set]; exact hw4) x).below (Below.drew (Below.refl _ _))⟩, Lib.hid (Below.drew (((HQ.go (by repeat (first | exact Below.refl _ _ | apply Below.drew | apply below_drewN | apply below_al))).out.2.setCell (p := ⟨g, j, none⟩) (by have := HBG.out; simp only; omega) _).setCell (p := ⟨g, j - 1, none⟩) (by have := HBG.out; simp only; omega) _))⟩
                    case measure => simp [intOf]; omega
                · have hoo' : decide (oo < 0) = false := decide_eq_false hoo
                  go_wp2_with fail
                  go_roundw
                  case rel => exact ⟨k + 1, by omega, by go_num, Lib.hid ⟨xs, HXP.out, (HQ.go (by repeat (first | exact Below.refl _ _ | apply Below.drew | apply below_drewN | apply below_al))).out.1⟩, Lib.hid (HQ.go (by repeat (first | exact Below.refl _ _ | apply Below.drew | apply below_drewN | apply below_al))).out.2⟩
                  case measure => simp [intOf]; omega
            · have hd : decide (0 < j) = false := decide_eq_false h0
              go_wp2_with fail
              go_quiet (fail)
              all_goals
                go_wp2_with fail
                go_roundw
                case rel => exact ⟨k + 1, by omega, by go_num, Lib.hid ⟨xs, hxp, hxo.below (by repeat (first | exact Below.refl _ _ | apply Below.drew | apply below_drewN | apply below_al))⟩, Lib.hid (go3 HB.out (by repeat (first | exact Below.refl _ _ | apply Below.drew | apply below_drewN | apply below_al)))⟩
                case measure => simp [intOf]; omega
        · obtain rfl : k = n := by omega
          obtain ⟨xs, hxp, hxo⟩ := H0.out
          have HE := Lib.hid (HN.out xs hxp)
          have HXP := Lib.hid hxp
          have HXO := Lib.hid hxo
          clear hxp hxo
          go_wp2_with fail
          go_ret
          obtain ⟨A4, c4, e, hrt⟩ := HXO.out.read
          cases e
          exact ⟨_, _, xs, rfl, hrt, (HT3.out.perm HXP.out).1, (HT3.out.perm HXP.out).2, HB.out⟩
end Go.Proofs.YteagecjhpfijjaaDoor
