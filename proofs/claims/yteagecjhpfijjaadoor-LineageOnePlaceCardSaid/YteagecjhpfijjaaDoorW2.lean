/-
  Lines of revisions: how the program gathers them, and that this is the members with one first member; plain facts, no program in sight.
-/
import Derived.Test.YteagecjhpfijjaaDoorW1
namespace Go.Proofs.YteagecjhpfijjaaDoor
set_option linter.unusedSimpArgs false
set_option linter.unusedVariables false

/-- v is a member of the line f -/
def memF (rs : List Rv) (f : ByteArray × Int) (v : Rv) : Bool := decide (v.act ≠ 5) && decide (nameR (firstR rs v) = f)
/-- the members of a line -/
def lineR (rs : List Rv) (f : ByteArray × Int) : List Rv := rs.filter (memF rs f)
/-- one more revision is looked at -/
def stepL (l : List Rv) (r : Rv) : List Rv :=
  if r.act = 5 ∨ r.act = 1 then l else match l.getLast? with
  | none => l
  | some b => if r.act = 4 then (if r.frm = b.path ∧ r.fnum = b.num then l ++ [r] else l) else (if r.path = b.path ∧ r.num - 1 = b.num then l ++ [r] else l)
/-- how the program gathers a line -/
def lineP (rs : List Rv) (f : ByteArray × Int) : List Rv := match getR rs f.1 f.2 with
  | none => []
  | some a => if a.act = 1 then rs.foldl stepL [a] else []
theorem gone_act {v : Rv} (h : goneR v = false) : v.act ≠ 5 ∧ v.act ≠ 3 := by
  unfold goneR at h
  simp at h
  exact ⟨h.2, h.1⟩
theorem prevR_add {rs : List Rv} {v : Rv} (h : v.act = 1) : prevR rs v = none := by unfold prevR; rw [if_pos h]
theorem prevR_some {rs : List Rv} {v u : Rv} (h : prevR rs v = some u) : v.act ≠ 1 ∧ ((v.act = 4 ∧ u.path = v.frm ∧ u.num = v.fnum) ∨ (v.act ≠ 4 ∧ u.path = v.path ∧ u.num = v.num - 1)) := by
  unfold prevR at h
  split at h
  · cases h
  · rename_i h1
    refine ⟨h1, ?_⟩
    split at h
    · rename_i h4
      exact .inl ⟨h4, (getR_mem h).2⟩
    · rename_i h4
      exact .inr ⟨h4, (getR_mem h).2⟩
theorem firstR_add {rs : List Rv} {v : Rv} (h : v.act = 1) : firstR rs v = v := firstR_end (fun u hu => by rw [prevR_add h] at hu; cases hu)
theorem Inv.first {rs : List Rv} (h : Inv rs) : ∀ (n : Nat) {v : Rv}, belowR rs v < n → v ∈ rs → firstR rs v ∈ rs ∧ (firstR rs v).act = 1 ∧ (firstR rs v).chg ≤ v.chg
  | 0, v, hb, _ => by omega
  | n + 1, v, hb, hv => by
    by_cases h1 : v.act = 1
    · rw [firstR_add h1]; exact ⟨hv, h1, Int.le_refl _⟩
    · obtain ⟨u, hu, hc, _⟩ := h.prev v hv h1
      rw [firstR_step hu hc]
      have hm := prevR_mem hu
      have := belowR_lt (v := v) hm hc
      obtain ⟨a, b, c⟩ := h.first n (v := u) (by omega) hm
      exact ⟨a, b, by omega⟩
theorem Inv.first_mem {rs : List Rv} (h : Inv rs) {v : Rv} (hv : v ∈ rs) : firstR rs v ∈ rs ∧ (firstR rs v).act = 1 ∧ (firstR rs v).chg ≤ v.chg := h.first _ (Nat.lt_succ_self _) hv
theorem Inv.succ {rs : List Rv} (h : Inv rs) {u v w : Rv} (hv : v ∈ rs) (hw : w ∈ rs) (v5 : v.act ≠ 5) (w5 : w.act ≠ 5) (pv : prevR rs v = some u) (pw : prevR rs w = some u) : v = w := by
  obtain ⟨_, cv⟩ := prevR_some pv
  obtain ⟨_, cw⟩ := prevR_some pw
  rcases cv with ⟨v4, vp, vn⟩ | ⟨v4, vp, vn⟩ <;> rcases cw with ⟨w4, wp, wn⟩ | ⟨w4, wp, wn⟩
  · obtain ⟨y, y1, y2, y3, y4, y5⟩ := h.here v hv v4
    obtain ⟨z, z1, z2, z3, z4, z5⟩ := h.here w hw w4
    have : y = z := h.uniq y1 z1 (by rw [y3, z3, ← vp, ← wp]) (by omega)
    subst this
    obtain ⟨s, s1, s2, s3, s4, s5, s6⟩ := h.away y y1 y2
    rw [s6 v hv v4 y3.symm y5.symm, s6 w hw w4 z3.symm z5.symm]
  · obtain ⟨y, y1, y2, y3, y4, y5⟩ := h.here v hv v4
    have : y = w := h.uniq y1 hw (by rw [y3, ← vp, wp]) (by omega)
    rw [this] at y2
    exact absurd y2 w5
  · obtain ⟨y, y1, y2, y3, y4, y5⟩ := h.here w hw w4
    have : y = v := h.uniq y1 hv (by rw [y3, ← wp, vp]) (by omega)
    rw [this] at y2
    exact absurd y2 v5
  · exact h.uniq hv hw (by rw [← vp, ← wp]) (by omega)
theorem Inv.pchg {rs : List Rv} (h : Inv rs) : rs.Pairwise (fun a b => a.path = b.path → a.chg < b.chg) := by
  rw [List.pairwise_iff_getElem]
  intro i j hi hj hij hp
  have := h.pasc rs[j].path
  unfold logR at this
  rw [List.pairwise_filter, List.pairwise_iff_getElem] at this
  exact this i j hi hj hij (decide_eq_true hp) (decide_eq_true rfl)
theorem Inv.at_inj {rs : List Rv} (h : Inv rs) {v : Rv} {i j : Nat} (hi : rs[i]? = some v) (hj : rs[j]? = some v) : i = j := by
  have hp := h.pchg
  rw [List.pairwise_iff_getElem] at hp
  obtain ⟨li, ei⟩ := List.getElem?_eq_some_iff.1 hi
  obtain ⟨lj, ej⟩ := List.getElem?_eq_some_iff.1 hj
  rcases Nat.lt_trichotomy i j with hlt | rfl | hgt
  · have := hp i j li lj hlt (by rw [ei, ej])
    rw [ei, ej] at this
    omega
  · rfl
  · have := hp j i lj li hgt (by rw [ei, ej])
    rw [ei, ej] at this
    omega
theorem Inv.before {rs : List Rv} (h : Inv rs) {u v : Rv} {k : Nat} (hu : u ∈ rs) (hk : rs[k]? = some v) (hc : u.chg < v.chg) : u ∈ rs.take k := by
  obtain ⟨i, hi⟩ := List.mem_iff_getElem?.1 hu
  have hp := h.asc
  rw [List.pairwise_iff_getElem] at hp
  obtain ⟨li, ei⟩ := List.getElem?_eq_some_iff.1 hi
  obtain ⟨lk, ek⟩ := List.getElem?_eq_some_iff.1 hk
  have hik : i < k := by
    rcases Nat.lt_trichotomy i k with hlt | rfl | hgt
    · exact hlt
    · rw [hi] at hk; cases hk; omega
    · have := hp k i lk li hgt
      rw [ei, ek] at this
      omega
  refine List.mem_of_getElem? (i := i) ?_
  rw [List.getElem?_take, if_pos hik, hi]
theorem Inv.not_before {rs : List Rv} (h : Inv rs) {v : Rv} {k : Nat} (hk : rs[k]? = some v) : ¬ v ∈ rs.take k := by
  intro hm
  obtain ⟨i, hi⟩ := List.mem_iff_getElem?.1 hm
  rw [List.getElem?_take] at hi
  split at hi
  · have := h.at_inj hi hk
    omega
  · cases hi
theorem memF_iff {rs : List Rv} {f : ByteArray × Int} {v : Rv} : memF rs f v = true ↔ v.act ≠ 5 ∧ nameR (firstR rs v) = f := by unfold memF; simp
theorem nameR_eq {u v : Rv} : nameR u = nameR v ↔ u.path = v.path ∧ u.num = v.num := by unfold nameR; simp
/-- each member behind the first one has the one ahead as its previous one -/
def Chain (rs : List Rv) (f : ByteArray × Int) (l : List Rv) : Prop := (∀ a, l[0]? = some a → a.act = 1 ∧ nameR a = f) ∧ ∀ (i : Nat) a b, l[i]? = some a → l[i + 1]? = some b → prevR rs b = some a
theorem filter_snoc {α : Type} (p : α → Bool) {l : List α} {k : Nat} {v : α} (h : l[k]? = some v) : (l.take (k + 1)).filter p = (l.take k).filter p ++ (if p v = true then [v] else []) := by
  rw [List.take_add_one, h, List.filter_append]
  by_cases e : p v = true
  · rw [if_pos e]; simp [List.filter_cons, e]
  · rw [if_neg e]; simp [List.filter_cons, e]
theorem Inv.chain {rs : List Rv} (h : Inv rs) (f : ByteArray × Int) : ∀ (k : Nat), k ≤ rs.length → Chain rs f ((rs.take k).filter (memF rs f))
  | 0, _ => ⟨fun a h => by simp at h, fun i a b h => by simp at h⟩
  | k + 1, hk => by
    have ih := h.chain f k (by omega)
    obtain ⟨r, hr⟩ : ∃ r, rs[k]? = some r := ⟨_, List.getElem?_eq_getElem (by omega)⟩
    rw [filter_snoc _ hr]
    by_cases hm : memF rs f r = true
    · rw [if_pos hm]
      have hsub : ∀ x ∈ (rs.take k).filter (memF rs f), x ∈ rs.take k ∧ memF rs f x = true := fun x hx => List.mem_filter.1 hx
      generalize hL : (rs.take k).filter (memF rs f) = L at *
      obtain ⟨m1, m2⟩ := memF_iff.1 hm
      have hrm : r ∈ rs := List.mem_of_getElem? hr
      by_cases h1 : r.act = 1
      · rw [firstR_add h1] at m2
        have h0 : L = [] := by
          cases hq : L with
          | nil => rfl
          | cons a l =>
            exfalso
            obtain ⟨a1, a2⟩ := ih.1 a (by rw [hq]; rfl)
            have hx := (hsub a (by rw [hq]; exact List.mem_cons_self)).1
            have := nameR_eq.1 (a2.trans m2.symm)
            have e := h.uniq (List.mem_of_mem_take hx) hrm this.1 this.2
            rw [e] at hx
            exact h.not_before hr hx
        rw [h0, List.nil_append]
        refine ⟨fun a ha => ?_, fun i a b ha hb => by simp at hb⟩
        have : r = a := by simpa using ha
        rw [← this]
        exact ⟨h1, m2⟩
      · obtain ⟨u, hu, hc, hg⟩ := h.prev r hrm h1
        have hur := prevR_mem hu
        have hub := h.before hur hr hc
        have huL : u ∈ L := by
          rw [← hL]
          exact List.mem_filter.2 ⟨hub, memF_iff.2 ⟨(gone_act hg).1, by rw [← firstR_step hu hc]; exact m2⟩⟩
        obtain ⟨i, hi⟩ := List.mem_iff_getElem?.1 huL
        have hil := (List.getElem?_eq_some_iff.1 hi).1
        have hlast : i + 1 = L.length := by
          rcases Nat.lt_or_ge (i + 1) L.length with hlt | hge
          · exfalso
            obtain ⟨b, hb⟩ : ∃ b, L[i + 1]? = some b := ⟨_, List.getElem?_eq_getElem hlt⟩
            have hpb := ih.2 i u b hi hb
            obtain ⟨b1, b2⟩ := hsub b (List.mem_of_getElem? hb)
            have e := h.succ (List.mem_of_mem_take b1) hrm (memF_iff.1 b2).1 m1 hpb hu
            rw [e] at b1
            exact h.not_before hr b1
          · omega
        refine ⟨fun a ha => ?_, fun j a b ha hb => ?_⟩
        · rw [List.getElem?_append_left (by omega)] at ha
          exact ih.1 a ha
        · rcases Nat.lt_or_ge (j + 1) L.length with hlt | hge
          · rw [List.getElem?_append_left (by omega)] at ha
            rw [List.getElem?_append_left hlt] at hb
            exact ih.2 j a b ha hb
          · have hjl : j + 1 < L.length + 1 := by
              have := (List.getElem?_eq_some_iff.1 hb).1
              simpa using this
            have hji : j = i := by omega
            subst hji
            rw [List.getElem?_append_left hil, hi] at ha
            rw [List.getElem?_append_right hge] at hb
            have hz : j + 1 - L.length = 0 := by omega
            rw [hz] at hb
            have hb' : r = b := by simpa using hb
            cases ha
            rw [← hb']
            exact hu
    · rw [if_neg hm, List.append_nil]; exact ih
theorem Inv.line_chain {rs : List Rv} (h : Inv rs) (f : ByteArray × Int) : Chain rs f (lineR rs f) := by
  have := h.chain f rs.length (Nat.le_refl _)
  rw [List.take_length] at this
  exact this
theorem Inv.fold {rs : List Rv} (h : Inv rs) {f : ByteArray × Int} {a : Rv} {m : Nat} (ha : rs[m]? = some a) (ha1 : a.act = 1) (haf : nameR a = f) : ∀ (k : Nat), k ≤ rs.length →
    (k ≤ m → (rs.take k).foldl stepL [a] = [a] ∧ (rs.take k).filter (memF rs f) = []) ∧ (m < k → (rs.take k).foldl stepL [a] = (rs.take k).filter (memF rs f) ∧ (rs.take k).filter (memF rs f) ≠ [])
  | 0, _ => ⟨fun _ => ⟨rfl, rfl⟩, fun h => by omega⟩
  | k + 1, hk => by
    obtain ⟨ih1, ih2⟩ := h.fold ha ha1 haf k (by omega)
    obtain ⟨r, hr⟩ : ∃ r, rs[k]? = some r := ⟨_, List.getElem?_eq_getElem (by omega)⟩
    have hch := h.chain f (k + 1) hk
    have ham : a ∈ rs := List.mem_of_getElem? ha
    have hrm : r ∈ rs := List.mem_of_getElem? hr
    have htk : (rs.take (k + 1)).foldl stepL [a] = stepL ((rs.take k).foldl stepL [a]) r := by
      rw [List.take_add_one, hr, List.foldl_append]
      rfl
    have hno : ∀ k, k ≤ rs.length → k ≤ m → (rs.take k).filter (memF rs f) = [] := fun k hk hkm => by
      have hch := h.chain f k hk
      cases hq : (rs.take k).filter (memF rs f) with
      | nil => rfl
      | cons b l =>
        exfalso
        rw [hq] at hch
        obtain ⟨b1, b2⟩ := hch.1 b rfl
        have hb : b ∈ rs.take k := (List.mem_filter.1 (by rw [hq]; exact List.mem_cons_self : b ∈ (rs.take k).filter (memF rs f))).1
        have := nameR_eq.1 (b2.trans haf.symm)
        have e := h.uniq (List.mem_of_mem_take hb) ham this.1 this.2
        rw [e] at hb
        obtain ⟨i, hi⟩ := List.mem_iff_getElem?.1 hb
        rw [List.getElem?_take] at hi
        split at hi
        · have := h.at_inj hi ha
          omega
        · cases hi
    have hfs := filter_snoc (memF rs f) hr
    -- what the program asks of r, with b at the line's end
    have htest : ∀ (L : List Rv) (b : Rv), L.getLast? = some b → b ∈ rs → r.act ≠ 5 → r.act ≠ 1 → ∀ u, prevR rs r = some u → (u = b → stepL L r = L ++ [r]) ∧ (u ≠ b → stepL L r = L) := by
      intro L b hb hbm h5 h1 u hu
      have hor : ¬ (r.act = 5 ∨ r.act = 1) := fun e => e.elim h5 h1
      unfold stepL
      rw [if_neg hor, hb]
      simp only
      obtain ⟨_, hc⟩ := prevR_some hu
      have hum := prevR_mem hu
      rcases hc with ⟨c4, cp, cn⟩ | ⟨c4, cp, cn⟩
      · rw [if_pos c4]
        refine ⟨fun e => ?_, fun e => ?_⟩
        · subst e
          rw [if_pos ⟨cp.symm, cn.symm⟩]
        · rw [if_neg]
          rintro ⟨e1, e2⟩
          exact e (h.uniq hum hbm (by rw [cp, e1]) (by rw [cn, e2]))
      · rw [if_neg c4]
        refine ⟨fun e => ?_, fun e => ?_⟩
        · subst e
          rw [if_pos ⟨cp.symm, cn.symm⟩]
        · rw [if_neg]
          rintro ⟨e1, e2⟩
          exact e (h.uniq hum hbm (by rw [cp, e1]) (by rw [cn, e2]))
    refine ⟨fun hkm => ⟨?_, hno _ hk hkm⟩, fun hmk => ?_⟩
    · rw [htk, (ih1 (by omega)).1]
      by_cases h15 : r.act = 5 ∨ r.act = 1
      · unfold stepL; rw [if_pos h15]
      · have h5 : r.act ≠ 5 := fun e => h15 (.inl e)
        have h1 : r.act ≠ 1 := fun e => h15 (.inr e)
        obtain ⟨u, hu, hc, hg⟩ := h.prev r hrm h1
        refine (htest [a] a rfl ham h5 h1 u hu).2 (fun e => ?_)
        have hub := h.before (prevR_mem hu) hr hc
        rw [e] at hub
        obtain ⟨i, hi⟩ := List.mem_iff_getElem?.1 hub
        rw [List.getElem?_take] at hi
        split at hi
        · have := h.at_inj hi ha
          omega
        · cases hi
    · rcases Nat.lt_or_ge m k with hlt | hge
      · obtain ⟨e1, e2⟩ := ih2 hlt
        rw [htk, e1]
        by_cases h15 : r.act = 5 ∨ r.act = 1
        · have hm : ¬ memF rs f r = true := by
            rw [memF_iff]
            rintro ⟨m1, m2⟩
            rcases h15 with e | e
            · exact m1 e
            · rw [firstR_add e] at m2
              have := nameR_eq.1 (m2.trans haf.symm)
              have e := h.uniq hrm ham this.1 this.2
              rw [e] at hr
              have := h.at_inj hr ha
              omega
          rw [if_neg hm, List.append_nil] at hfs
          rw [hfs]
          refine ⟨?_, e2⟩
          unfold stepL; rw [if_pos h15]
        · have h5 : r.act ≠ 5 := fun e => h15 (.inl e)
          have h1 : r.act ≠ 1 := fun e => h15 (.inr e)
          obtain ⟨u, hu, hc, hg⟩ := h.prev r hrm h1
          obtain ⟨b, hb⟩ : ∃ b, ((rs.take k).filter (memF rs f)).getLast? = some b := by
            cases hq : ((rs.take k).filter (memF rs f)).getLast? with
            | none => exact absurd (List.getLast?_eq_none_iff.1 hq) e2
            | some b => exact ⟨b, rfl⟩
          have hbL := List.mem_of_getLast? hb
          obtain ⟨b1, b2⟩ := List.mem_filter.1 hbL
          have ht := htest _ b hb (List.mem_of_mem_take b1) h5 h1 u hu
          by_cases hub : u = b
          · have hm : memF rs f r = true := memF_iff.2 ⟨h5, by rw [firstR_step hu hc, hub]; exact (memF_iff.1 b2).2⟩
            rw [if_pos hm] at hfs
            rw [hfs]
            exact ⟨ht.1 hub, by simp⟩
          · have hm : ¬ memF rs f r = true := by
              intro hm
              rw [if_pos hm] at hfs
              rw [hfs] at hch
              rw [List.getLast?_eq_getElem?] at hb
              generalize (rs.take k).filter (memF rs f) = L at *
              have hl : 0 < L.length := List.length_pos_iff.2 e2
              have := hch.2 (L.length - 1) b r (by rw [List.getElem?_append_left (by omega)]; exact hb) (by
                have e : L.length - 1 + 1 = L.length := by omega
                rw [e, List.getElem?_append_right (Nat.le_refl _), Nat.sub_self]
                rfl)
              rw [hu] at this
              exact hub (Option.some.inj this)
            rw [if_neg hm, List.append_nil] at hfs
            rw [hfs]
            exact ⟨ht.2 hub, e2⟩
      · have hkm : k = m := by omega
        subst hkm
        rw [hr] at ha
        cases ha
        have hm : memF rs f a = true := memF_iff.2 ⟨by rw [ha1]; decide, by rw [firstR_add ha1]; exact haf⟩
        rw [if_pos hm, (ih1 (by omega)).2, List.nil_append] at hfs
        rw [htk, (ih1 (by omega)).1, hfs]
        refine ⟨?_, by simp⟩
        unfold stepL
        rw [if_pos (.inr ha1)]
theorem Inv.line_eq {rs : List Rv} (h : Inv rs) (f : ByteArray × Int) : lineP rs f = lineR rs f := by
  have hnil : (∀ a, getR rs f.1 f.2 = some a → a.act ≠ 1) → lineR rs f = [] := fun hn => by
    cases hq : lineR rs f with
    | nil => rfl
    | cons v l =>
      exfalso
      obtain ⟨v1, v2⟩ := (h.line_chain f).1 v (by rw [hq]; rfl)
      have hv : v ∈ rs := (List.mem_filter.1 (by unfold lineR at hq; rw [hq]; exact List.mem_cons_self : v ∈ rs.filter (memF rs f))).1
      have := h.get_mem hv
      refine hn v ?_ v1
      rw [← v2]
      exact this
  unfold lineP
  cases hg : getR rs f.1 f.2 with
  | none => rw [hnil (fun a ha => by rw [hg] at ha; cases ha)]
  | some a =>
    simp only
    obtain ⟨g1, g2, g3⟩ := getR_mem hg
    by_cases h1 : a.act = 1
    · rw [if_pos h1]
      obtain ⟨m, hm⟩ := List.mem_iff_getElem?.1 g1
      have := (h.fold hm h1 (by unfold nameR; rw [g2, g3]) rs.length (Nat.le_refl _)).2 (List.getElem?_eq_some_iff.1 hm).1
      rw [List.take_length] at this
      exact this.1
    · rw [if_neg h1, hnil (fun b hb => by rw [hg] at hb; cases hb; exact h1)]
end Go.Proofs.YteagecjhpfijjaaDoor

