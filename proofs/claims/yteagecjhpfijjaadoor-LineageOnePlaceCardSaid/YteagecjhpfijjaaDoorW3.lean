/-
  Members, identities, places and the live paths of a list of revisions: plain facts, no program in sight.
-/
import Derived.Test.YteagecjhpfijjaaDoorW2
namespace Go.Proofs.YteagecjhpfijjaaDoor
set_option linter.unusedSimpArgs false
set_option linter.unusedVariables false

/-- the identities of all lines -/
def linesR (rs : List Rv) : List (ByteArray × Int) := (rs.filter (fun v => v.act == 1)).map nameR
/-- the member with a name -/
def memR (rs : List Rv) (p : ByteArray) (n : Int) : Option Rv := (getR rs p n).filter (fun v => v.act != 5)
/-- the program's: the last one with a name that is a member -/
def mapR (rs : List Rv) (k : ByteArray × Int) : Option Rv := (rs.filter (fun v => v.act != 5 && decide (nameR v = k))).getLast?
/-- the program's previous member -/
def prevP (rs : List Rv) (v : Rv) : Option Rv := if v.act = 1 then none else if v.act = 4 then mapR rs (v.frm, v.fnum) else mapR rs (v.path, v.num - 1)
theorem memR_some {rs : List Rv} {p : ByteArray} {n : Int} {v : Rv} : memR rs p n = some v ↔ getR rs p n = some v ∧ v.act ≠ 5 := by
  unfold memR
  rw [Option.filter_eq_some_iff]
  simp
theorem mapR_some {rs : List Rv} {k : ByteArray × Int} {v : Rv} (h : mapR rs k = some v) : v ∈ rs ∧ v.act ≠ 5 ∧ nameR v = k := by
  unfold mapR at h
  obtain ⟨h1, h2⟩ := List.mem_filter.1 (List.mem_of_getLast? h)
  simp at h2
  exact ⟨h1, h2.1, h2.2⟩
theorem mapR_snoc {rs : List Rv} {j : Nat} {v : Rv} (h : rs[j]? = some v) (k : ByteArray × Int) : mapR (rs.take (j + 1)) k = if v.act ≠ 5 ∧ nameR v = k then some v else mapR (rs.take j) k := by
  unfold mapR
  rw [filter_snoc _ h]
  by_cases e : v.act ≠ 5 ∧ nameR v = k
  · have e2 : (v.act != 5 && decide (nameR v = k)) = true := by simp [e.1, e.2]
    rw [if_pos e, if_pos e2, List.getLast?_append]
    rfl
  · have e2 : ¬ (v.act != 5 && decide (nameR v = k)) = true := by simpa using e
    rw [if_neg e, if_neg e2, List.append_nil]
theorem Inv.mapR {rs : List Rv} (h : Inv rs) (p : ByteArray) (n : Int) : Go.Proofs.YteagecjhpfijjaaDoor.mapR rs (p, n) = memR rs p n := by
  cases hm : Go.Proofs.YteagecjhpfijjaaDoor.mapR rs (p, n) with
  | none =>
    cases hq : memR rs p n with
    | none => rfl
    | some v =>
      exfalso
      obtain ⟨h1, h2⟩ := memR_some.1 hq
      obtain ⟨g1, g2, g3⟩ := getR_mem h1
      unfold Go.Proofs.YteagecjhpfijjaaDoor.mapR at hm
      have := List.getLast?_eq_none_iff.1 hm
      have hv : v ∈ rs.filter (fun v => v.act != 5 && decide (nameR v = (p, n))) := List.mem_filter.2 ⟨g1, by simp [nameR, h2, g2, g3]⟩
      rw [this] at hv
      cases hv
  | some v =>
    obtain ⟨h1, h2, h3⟩ := mapR_some hm
    have hg := h.get_mem h1
    have e1 : v.path = p := congrArg Prod.fst h3
    have e2 : v.num = n := congrArg Prod.snd h3
    rw [e1, e2] at hg
    exact (memR_some.2 ⟨hg, h2⟩).symm
theorem Inv.prevP {rs : List Rv} (h : Inv rs) {v : Rv} (hv : v ∈ rs) : Go.Proofs.YteagecjhpfijjaaDoor.prevP rs v = prevR rs v := by
  by_cases h1 : v.act = 1
  · rw [prevR_add h1]; unfold Go.Proofs.YteagecjhpfijjaaDoor.prevP; rw [if_pos h1]
  · obtain ⟨u, hu, hc, hg⟩ := h.prev v hv h1
    rw [hu]
    have hu' := hu
    unfold prevR at hu'
    unfold Go.Proofs.YteagecjhpfijjaaDoor.prevP
    rw [if_neg h1] at hu' ⊢
    split at hu'
    · rename_i h4
      rw [if_pos h4, h.mapR]
      exact memR_some.2 ⟨hu', (gone_act hg).1⟩
    · rename_i h4
      rw [if_neg h4, h.mapR]
      exact memR_some.2 ⟨hu', (gone_act hg).1⟩
/-- the program's way back: so many steps at most -/
def backF (rs : List Rv) : Nat → Rv → Rv
  | 0, v => v
  | 1, v => v
  | n + 2, v => match prevP rs v with
    | none => v
    | some u => backF rs (n + 1) u
def belowA (rs : List Rv) (v : Rv) : Nat := (rs.filter (fun x => x.act != 5 && decide (x.chg < v.chg))).length
theorem belowA_lt {rs : List Rv} {v u : Rv} (h : u ∈ rs) (h5 : u.act ≠ 5) (hc : u.chg < v.chg) : belowA rs u < belowA rs v := by
  unfold belowA
  refine filter_lt (a := u) (fun x hx => ?_) h ?_ ?_
  · simp at hx ⊢
    exact ⟨hx.1, by omega⟩
  · simp
  · simp [h5, hc]
theorem Inv.backF {rs : List Rv} (h : Inv rs) : ∀ (n : Nat) {v : Rv}, v ∈ rs → belowA rs v < n → Go.Proofs.YteagecjhpfijjaaDoor.backF rs n v = firstR rs v
  | 0, v, hv, hb => by omega
  | 1, v, hv, hb => by
    rw [firstR_end (v := v) (fun u hu => ?_)]
    · rfl
    · rcases Int.lt_or_le u.chg v.chg with hc | hc
      · exfalso
        have h1 := (prevR_some hu).1
        obtain ⟨u', hu', _, hg⟩ := h.prev v hv h1
        rw [hu] at hu'
        cases hu'
        have := belowA_lt (v := v) (prevR_mem hu) (gone_act hg).1 hc
        omega
      · exact hc
  | n + 2, v, hv, hb => by
    show (match Go.Proofs.YteagecjhpfijjaaDoor.prevP rs v with | none => v | some u => Go.Proofs.YteagecjhpfijjaaDoor.backF rs (n + 1) u) = _
    rw [h.prevP hv]
    cases hp : prevR rs v with
    | none => rw [firstR_end (v := v) (fun u hu => by rw [hp] at hu; cases hu)]
    | some u =>
      have h1 := (prevR_some hp).1
      obtain ⟨u', hu', hc, hg⟩ := h.prev v hv h1
      rw [hp] at hu'
      cases hu'
      have := belowA_lt (v := v) (prevR_mem hp) (gone_act hg).1 hc
      rw [firstR_step hp hc]
      exact h.backF (n + 1) (prevR_mem hp) (by omega)
theorem belowA_le {rs : List Rv} {v : Rv} (hv : v ∈ rs) (h5 : v.act ≠ 5) : belowA rs v < (rs.filter (fun x => x.act != 5)).length := by
  unfold belowA
  refine filter_lt (a := v) (fun x hx => ?_) hv ?_ ?_
  · simp at hx ⊢
    exact hx.1
  · simp
  · simp [h5]
/-- names are told once -/
theorem Inv.name_inj {rs : List Rv} (h : Inv rs) {i j : Nat} {u v : Rv} (hi : rs[i]? = some u) (hj : rs[j]? = some v) (e : nameR u = nameR v) : i = j := by
  obtain ⟨e1, e2⟩ := nameR_eq.1 e
  have := h.uniq (List.mem_of_getElem? hi) (List.mem_of_getElem? hj) e1 e2
  subst this
  exact h.at_inj hi hj
theorem Inv.names_nodup {rs : List Rv} (h : Inv rs) : (rs.map nameR).Nodup := by
  unfold List.Nodup
  rw [List.pairwise_map, List.pairwise_iff_getElem]
  intro i j hi hj hij e
  have := h.name_inj (List.getElem?_eq_getElem hi) (List.getElem?_eq_getElem hj) e
  omega
theorem Inv.lines_nodup {rs : List Rv} (h : Inv rs) : (linesR rs).Nodup := by
  unfold linesR
  exact List.Nodup.sublist (List.Sublist.map _ List.filter_sublist) h.names_nodup
theorem Inv.first_line {rs : List Rv} (h : Inv rs) {v : Rv} (hv : v ∈ rs) : nameR (firstR rs v) ∈ linesR rs := by
  obtain ⟨h1, h2, _⟩ := h.first_mem hv
  exact List.mem_map.2 ⟨_, List.mem_filter.2 ⟨h1, by simp [h2]⟩, rfl⟩
theorem mem_line {rs : List Rv} {f : ByteArray × Int} {v : Rv} : v ∈ lineR rs f ↔ v ∈ rs ∧ v.act ≠ 5 ∧ nameR (firstR rs v) = f := by
  unfold lineR
  rw [List.mem_filter, memF_iff]
/-- what stands at a place of a line -/
theorem Inv.line_at {rs : List Rv} (h : Inv rs) {f : ByteArray × Int} {i : Nat} {v : Rv} (hv : (lineR rs f)[i]? = some v) :
    (i = 0 → prevR rs v = none ∧ v.act = 1 ∧ nameR v = f) ∧ (∀ j u, i = j + 1 → (lineR rs f)[j]? = some u → prevR rs v = some u ∧ u.chg < v.chg ∧ u.act ≠ 3 ∧ v.act ≠ 1) := by
  have hc := h.line_chain f
  have hm := (mem_line.1 (List.mem_of_getElem? hv)).1
  refine ⟨fun e => ?_, fun j u e hu => ?_⟩
  · subst e
    obtain ⟨a1, a2⟩ := hc.1 v hv
    exact ⟨prevR_add a1, a1, a2⟩
  · subst e
    have hp := hc.2 j u v hu hv
    have h1 := (prevR_some hp).1
    obtain ⟨u', hu', hcc, hg⟩ := h.prev v hm h1
    rw [hp] at hu'
    cases hu'
    exact ⟨hp, hcc, (gone_act hg).2, h1⟩
/-- the changes of a line rise -/
theorem Inv.line_rise {rs : List Rv} (h : Inv rs) {f : ByteArray × Int} : ∀ (d i : Nat) {u v : Rv}, (lineR rs f)[i]? = some u → (lineR rs f)[i + d + 1]? = some v → u.chg < v.chg
  | 0, i, u, v, hu, hv => ((h.line_at hv).2 i u (by omega) hu).2.1
  | d + 1, i, u, v, hu, hv => by
    obtain ⟨w, hw⟩ : ∃ w, (lineR rs f)[i + d + 1]? = some w := ⟨_, List.getElem?_eq_getElem (by have := (List.getElem?_eq_some_iff.1 hv).1; omega)⟩
    have h1 := h.line_rise d i hu hw
    have h2 := ((h.line_at hv).2 (i + d + 1) w (by omega) hw).2.1
    omega
theorem Inv.line_asc {rs : List Rv} (h : Inv rs) (f : ByteArray × Int) : (lineR rs f).Pairwise (fun a b => a.chg < b.chg) := by
  rw [List.pairwise_iff_getElem]
  intro i j hi hj hij
  obtain ⟨d, rfl⟩ : ∃ d, j = i + d + 1 := ⟨j - i - 1, by omega⟩
  exact h.line_rise d i (List.getElem?_eq_getElem hi) (List.getElem?_eq_getElem hj)
/-- the last one that p takes, where p's yes ends once for all -/
theorem last_asc {l : List Rv} (h : l.Pairwise (fun a b => a.chg < b.chg)) {c : Int} {v : Rv} : (l.filter (fun v => decide (v.chg ≤ c))).getLast? = some v ↔ v ∈ l ∧ v.chg ≤ c ∧ ∀ x ∈ l, x.chg ≤ c → x.chg ≤ v.chg := by
  induction l with
  | nil => simp
  | cons a l ih =>
    rw [List.pairwise_cons] at h
    have ih := ih h.2
    by_cases ha : a.chg ≤ c
    · rw [List.filter_cons, if_pos (by simpa using ha)]
      cases hq : l.filter (fun v => decide (v.chg ≤ c)) with
      | nil =>
        have hno : ∀ x ∈ l, ¬ x.chg ≤ c := fun x hx hc => by
          have : x ∈ l.filter (fun v => decide (v.chg ≤ c)) := List.mem_filter.2 ⟨hx, by simpa using hc⟩
          rw [hq] at this
          cases this
        constructor
        · intro e
          have : a = v := by simpa using e
          subst this
          refine ⟨List.mem_cons_self, ha, fun x hx hc => ?_⟩
          rcases List.mem_cons.1 hx with rfl | hx
          · exact Int.le_refl _
          · exact absurd hc (hno x hx)
        · rintro ⟨h1, h2, h3⟩
          rcases List.mem_cons.1 h1 with rfl | h1
          · rfl
          · exact absurd h2 (hno v h1)
      | cons b t =>
        rw [List.getLast?_cons_cons, ← hq, ih]
        have hb : b ∈ l ∧ b.chg ≤ c := by
          have : b ∈ l.filter (fun v => decide (v.chg ≤ c)) := by rw [hq]; exact List.mem_cons_self
          obtain ⟨b1, b2⟩ := List.mem_filter.1 this
          exact ⟨b1, by simpa using b2⟩
        constructor
        · rintro ⟨h1, h2, h3⟩
          refine ⟨List.mem_cons_of_mem _ h1, h2, fun x hx hc => ?_⟩
          rcases List.mem_cons.1 hx with rfl | hx
          · exact Int.le_of_lt (h.1 v h1)
          · exact h3 x hx hc
        · rintro ⟨h1, h2, h3⟩
          rcases List.mem_cons.1 h1 with rfl | h1
          · have := h3 b (List.mem_cons_of_mem _ hb.1) hb.2
            have := h.1 b hb.1
            omega
          · exact ⟨h1, h2, fun x hx hc => h3 x (List.mem_cons_of_mem _ hx) hc⟩
    · rw [List.filter_cons, if_neg (by simpa using ha), ih]
      constructor
      · rintro ⟨h1, h2, h3⟩
        refine ⟨List.mem_cons_of_mem _ h1, h2, fun x hx hc => ?_⟩
        rcases List.mem_cons.1 hx with rfl | hx
        · exact absurd hc ha
        · exact h3 x hx hc
      · rintro ⟨h1, h2, h3⟩
        rcases List.mem_cons.1 h1 with rfl | h1
        · exact absurd h2 ha
        · exact ⟨h1, h2, fun x hx hc => h3 x (List.mem_cons_of_mem _ hx) hc⟩
/-- where a line is as of a change -/
def lineAt (rs : List Rv) (f : ByteArray × Int) (c : Int) : Option Rv := ((lineR rs f).filter (fun v => decide (v.chg ≤ c))).getLast?
def whereR (rs : List Rv) (f : ByteArray × Int) (c : Int) : Option Rv := (lineAt rs f c).filter (fun v => v.act != 3)
/-- a path as of a change -/
def atR (rs : List Rv) (p : ByteArray) (c : Int) : Option Rv := ((logR rs p).filter (fun v => decide (v.chg ≤ c))).getLast?
theorem Inv.lineAt_some {rs : List Rv} (h : Inv rs) {f : ByteArray × Int} {c : Int} {v : Rv} : lineAt rs f c = some v ↔ v ∈ lineR rs f ∧ v.chg ≤ c ∧ ∀ x ∈ lineR rs f, x.chg ≤ c → x.chg ≤ v.chg := last_asc (h.line_asc f)
theorem Inv.whereR_some {rs : List Rv} (h : Inv rs) {f : ByteArray × Int} {c : Int} {v : Rv} : whereR rs f c = some v ↔ (v ∈ lineR rs f ∧ v.chg ≤ c ∧ ∀ x ∈ lineR rs f, x.chg ≤ c → x.chg ≤ v.chg) ∧ v.act ≠ 3 := by
  unfold whereR
  rw [Option.filter_eq_some_iff, h.lineAt_some]
  simp
theorem Inv.atR_some {rs : List Rv} (h : Inv rs) {p : ByteArray} {c : Int} {v : Rv} : atR rs p c = some v ↔ (v ∈ rs ∧ v.path = p) ∧ v.chg ≤ c ∧ ∀ x ∈ rs, x.path = p → x.chg ≤ c → x.chg ≤ v.chg := by
  unfold atR
  rw [last_asc (h.pasc p), mem_logR]
  constructor
  · rintro ⟨h1, h2, h3⟩
    exact ⟨h1, h2, fun x hx hp hc => h3 x (mem_logR.2 ⟨hx, hp⟩) hc⟩
  · rintro ⟨h1, h2, h3⟩
    exact ⟨h1, h2, fun x hx hc => h3 x (mem_logR.1 hx).1 (mem_logR.1 hx).2 hc⟩
/-- of two revisions of one path the one with the greater number has the greater change, and conversely -/
theorem Inv.num_chg {rs : List Rv} (h : Inv rs) {u v : Rv} (hu : u ∈ rs) (hv : v ∈ rs) (hp : u.path = v.path) : u.num < v.num ↔ u.chg < v.chg := by
  obtain ⟨i, hi, ni, li⟩ := h.idx hu
  obtain ⟨j, hj, nj, lj⟩ := h.idx hv
  rw [hp] at hi li
  have hw := h.pasc v.path
  rw [List.pairwise_iff_getElem] at hw
  obtain ⟨li, ei⟩ := List.getElem?_eq_some_iff.1 hi
  obtain ⟨lj, ej⟩ := List.getElem?_eq_some_iff.1 hj
  rcases Nat.lt_trichotomy i j with hlt | rfl | hgt
  · have := hw i j li lj hlt
    rw [ei, ej] at this
    exact ⟨fun _ => this, fun _ => by omega⟩
  · rw [ei] at ej
    subst ej
    exact ⟨fun h => by omega, fun h => by omega⟩
  · have := hw j i lj li hgt
    rw [ei, ej] at this
    exact ⟨fun h => by omega, fun h => by omega⟩
/-- the revision of a path behind v, if a later one is there -/
theorem Inv.nextOf {rs : List Rv} (h : Inv rs) {v w : Rv} (hv : v ∈ rs) (hw : w ∈ rs) (hp : w.path = v.path) (hn : v.num < w.num) : ∃ x ∈ rs, x.path = v.path ∧ x.num = v.num + 1 ∧ v.chg < x.chg ∧ x.chg ≤ w.chg := by
  obtain ⟨i, hi, ni, li⟩ := h.idx hv
  obtain ⟨j, hj, nj, lj⟩ := h.idx hw
  rw [hp] at hj lj
  obtain ⟨x, hx⟩ : ∃ x, (logR rs v.path)[i + 1]? = some x := ⟨_, List.getElem?_eq_getElem (by omega)⟩
  obtain ⟨x1, x2⟩ := mem_logR.1 (List.mem_of_getElem? hx)
  have x3 := h.num _ _ _ hx
  refine ⟨x, x1, x2, by omega, (h.num_chg hv x1 x2.symm).1 (by omega), ?_⟩
  by_cases e : x.num < w.num
  · exact Int.le_of_lt ((h.num_chg x1 hw (x2.trans hp.symm)).1 e)
  · have : x = w := h.uniq x1 hw (x2.trans hp.symm) (by omega)
    rw [this]
    exact Int.le_refl _
theorem prevR_path {rs : List Rv} {x : Rv} (h1 : x.act ≠ 1) (h4 : x.act ≠ 4) : prevR rs x = getR rs x.path (x.num - 1) := by unfold prevR; rw [if_neg h1, if_neg h4]
theorem prevR_move {rs : List Rv} {x : Rv} (h4 : x.act = 4) : prevR rs x = getR rs x.frm x.fnum := by unfold prevR; rw [if_neg (by omega), if_pos h4]
/-- the place of a line is live, and the line is there -/
theorem Inv.place {rs : List Rv} (h : Inv rs) {f : ByteArray × Int} {c : Int} {v : Rv} (hw : whereR rs f c = some v) : atR rs v.path c = some v ∧ v.act ≠ 3 ∧ v.act ≠ 5 ∧ nameR (firstR rs v) = f := by
  obtain ⟨⟨h1, h2, h3⟩, h4⟩ := h.whereR_some.1 hw
  obtain ⟨m1, m2, m3⟩ := mem_line.1 h1
  refine ⟨h.atR_some.2 ⟨⟨m1, rfl⟩, h2, fun w hwr hp hc => ?_⟩, h4, m2, m3⟩
  rcases Int.lt_or_le v.chg w.chg with hlt | hle
  · exfalso
    obtain ⟨x, x1, x2, x3, x4, x5⟩ := h.nextOf m1 hwr hp ((h.num_chg m1 hwr hp.symm).2 hlt)
    have hg : goneR v = false := by unfold goneR; simp [h4, m2]
    obtain ⟨n1, n2⟩ := h.next v m1 x x1 x2 x3 hg
    by_cases x6 : x.act = 5
    · obtain ⟨s, s1, s2, s3, s4, s5, _⟩ := h.away x x1 x6
      have hps : prevR rs s = some v := by
        rw [prevR_move s2, s3, s4, x2, x3]
        have : v.num + 1 - 1 = v.num := by omega
        rw [this]
        exact h.get_mem m1
      have := h3 s (mem_line.2 ⟨s1, by omega, by rw [firstR_step hps (by omega)]; exact m3⟩) (by omega)
      omega
    · have hpx : prevR rs x = some v := by
        rw [prevR_path n1 n2, x2, x3]
        have : v.num + 1 - 1 = v.num := by omega
        rw [this]
        exact h.get_mem m1
      have := h3 x (mem_line.2 ⟨x1, x6, by rw [firstR_step hpx x4]; exact m3⟩) (by omega)
      omega
  · exact hle
/-- a live path is the place of its line -/
theorem Inv.placed {rs : List Rv} (h : Inv rs) {p : ByteArray} {c : Int} {w : Rv} (ha : atR rs p c = some w) (w3 : w.act ≠ 3) (w5 : w.act ≠ 5) : whereR rs (nameR (firstR rs w)) c = some w ∧ nameR (firstR rs w) ∈ linesR rs := by
  obtain ⟨⟨h1, h2⟩, h3, h4⟩ := h.atR_some.1 ha
  refine ⟨h.whereR_some.2 ⟨⟨mem_line.2 ⟨h1, w5, rfl⟩, h3, fun x hx hc => ?_⟩, w3⟩, h.first_line h1⟩
  rcases Int.lt_or_le w.chg x.chg with hlt | hle
  · exfalso
    obtain ⟨i, hi⟩ := List.mem_iff_getElem?.1 ((mem_line.2 ⟨h1, w5, rfl⟩ : w ∈ lineR rs (nameR (firstR rs w))))
    obtain ⟨j, hj⟩ := List.mem_iff_getElem?.1 hx
    have hij : i < j := by
      rcases Nat.lt_trichotomy i j with hlt | rfl | hgt
      · exact hlt
      · rw [hi] at hj; cases hj; omega
      · obtain ⟨d, rfl⟩ : ∃ d, i = j + d + 1 := ⟨i - j - 1, by omega⟩
        have := h.line_rise d j hj hi
        omega
    obtain ⟨y, hy⟩ : ∃ y, (lineR rs (nameR (firstR rs w)))[i + 1]? = some y := ⟨_, List.getElem?_eq_getElem (by have := (List.getElem?_eq_some_iff.1 hj).1; omega)⟩
    obtain ⟨p1, p2, _, p4⟩ := (h.line_at hy).2 i w rfl hi
    obtain ⟨y1, y2, _⟩ := mem_line.1 (List.mem_of_getElem? hy)
    have hyc : y.chg ≤ c := by
      rcases Nat.lt_or_ge (i + 1) j with hl | hg
      · obtain ⟨d, rfl⟩ : ∃ d, j = i + 1 + d + 1 := ⟨j - (i + 1) - 1, by omega⟩
        have := h.line_rise d (i + 1) hy hj
        omega
      · have : j = i + 1 := by omega
        subst this
        rw [hj] at hy
        cases hy
        exact hc
    rcases (prevR_some p1).2 with ⟨q1, q2, q3⟩ | ⟨q1, q2, q3⟩
    · obtain ⟨z, z1, z2, z3, z4, z5⟩ := h.here y y1 q1
      have := h4 z z1 (by rw [z3, ← q2, h2]) (by omega)
      omega
    · have := h4 y y1 (by rw [← q2, h2]) hyc
      omega
  · exact hle
end Go.Proofs.YteagecjhpfijjaaDoor

