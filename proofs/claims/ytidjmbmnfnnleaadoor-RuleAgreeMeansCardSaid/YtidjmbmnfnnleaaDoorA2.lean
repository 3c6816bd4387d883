/-
  Rules: two patterns made equal capture by capture, and on which paths they are: plain facts.
-/
import Derived.Test.YtidjmbmnfnnleaaDoorA1
namespace Go.Proofs.YtidjmbmnfnnleaaDoor
set_option linter.unusedSimpArgs false
set_option linter.unusedVariables false
open Go.RowKit
open Pm

/-- the first place where two lists of parts differ: how many wildcards stand ahead of it, and the parts -/
def stp : List ByteArray → List ByteArray → Option (Nat × ByteArray × ByteArray)
  | x :: xs, y :: ys => if x = y then (match stp xs ys with
    | some p => some (if stB x = true then p.1 + 1 else p.1, p.2)
    | none => none) else some (0, x, y)
  | _, _ => none
theorem stp_ne {x y : ByteArray} {xs ys : List ByteArray} (h : x ≠ y) : stp (x :: xs) (y :: ys) = some (0, x, y) := by
  conv => lhs; unfold stp
  rw [if_neg h]
theorem stp_eq (x : ByteArray) (xs ys : List ByteArray) : stp (x :: xs) (x :: ys) = match stp xs ys with
    | some p => some (if stB x = true then p.1 + 1 else p.1, p.2)
    | none => none := by
  conv => lhs; unfold stp
  rw [if_pos rfl]
theorem stp_self : ∀ xs : List ByteArray, stp xs xs = none
  | [] => rfl
  | x :: xs => by rw [stp_eq, stp_self xs]
theorem stp_none : ∀ {xs ys : List ByteArray}, xs.length = ys.length → stp xs ys = none → xs = ys
  | [], [], _, _ => rfl
  | [], y :: ys, h, _ => by simp at h
  | x :: xs, [], h, _ => by simp at h
  | x :: xs, y :: ys, h, hn => by
    by_cases e : x = y
    · subst e
      rw [stp_eq] at hn
      cases hs : stp xs ys with
      | none => rw [stp_none (by simpa using h) hs]
      | some p => rw [hs] at hn; cases hn
    · rw [stp_ne e] at hn; cases hn
theorem stp_at : ∀ {i : Nat} {xs ys : List ByteArray} {x y : ByteArray}, xs.take i = ys.take i → xs[i]? = some x → ys[i]? = some y → x ≠ y → stp xs ys = some (countB stB (xs.take i), x, y)
  | i, [], ys, x, y, _, h, _, _ => by simp at h
  | i, a :: xs, [], x, y, _, _, h, _ => by simp at h
  | 0, a :: xs, b :: ys, x, y, _, hx, hy, hne => by
    have e1 : a = x := by simpa using hx
    have e2 : b = y := by simpa using hy
    subst e1 e2
    rw [stp_ne hne]
    rfl
  | i + 1, a :: xs, b :: ys, x, y, ht, hx, hy, hne => by
    rw [List.take_succ_cons, List.take_succ_cons] at ht
    obtain ⟨rfl, h2⟩ := List.cons.inj ht
    rw [stp_eq, stp_at h2 (by simpa using hx) (by simpa using hy) hne, List.take_succ_cons, count_cons]
    simp only
    split
    · rw [Nat.add_comm]
    · rw [Nat.zero_add]
theorem stp_le : ∀ {xs ys : List ByteArray} {k : Nat} {x y : ByteArray}, stp xs ys = some (k, x, y) →
    k + (if stB x = true then 1 else 0) ≤ countB stB xs ∧ k + (if stB y = true then 1 else 0) ≤ countB stB ys ∧ x ∈ xs ∧ y ∈ ys ∧ x ≠ y
  | [], ys, k, x, y, h => by cases ys <;> cases h
  | a :: xs, [], k, x, y, h => by cases h
  | a :: xs, b :: ys, k, x, y, h => by
    by_cases e : a = b
    · subst e
      rw [stp_eq] at h
      cases hs : stp xs ys with
      | none => rw [hs] at h; cases h
      | some p =>
        rw [hs] at h
        obtain ⟨j, x', y'⟩ := p
        simp only [Option.some.injEq, Prod.mk.injEq] at h
        obtain ⟨hk, rfl, rfl⟩ := h
        obtain ⟨h1, h2, h3, h4, h5⟩ := stp_le hs
        rw [count_cons, count_cons]
        refine ⟨?_, ?_, by simp [h3], by simp [h4], h5⟩ <;> (rw [← hk]; split <;> omega)
    · rw [stp_ne e] at h
      simp only [Option.some.injEq, Prod.mk.injEq] at h
      obtain ⟨rfl, rfl, rfl⟩ := h
      rw [count_cons, count_cons]
      exact ⟨by omega, by omega, by simp, by simp, e⟩

/-- the capture with which two parts are one component -/
def detO (a b : ByteArray) : Bool := if stB a = true then (!stB b && mpOk a b) else (stB b && mpOk b a)
def detC (a b : ByteArray) : ByteArray := if stB a = true then (if stB b = true then ⟨#[]⟩ else mpCap a b) else mpCap b a
theorem det_good {x y : ByteArray} (hx : partB x = true) (hy : partB y = true) (h : detO x y = true) :
    comp (detC x y).data.toList = true ∧ ((stB x = true ∧ stB y = false ∧ detC x y ++ tlB x = y) ∨ (stB x = false ∧ stB y = true ∧ detC x y ++ tlB y = x)) := by
  unfold detO at h
  cases hs : stB x with
  | true =>
    rw [if_pos hs, Bool.and_eq_true] at h
    have hsy : stB y = false := by simpa using h.1
    have e : detC x y = mpCap x y := by unfold detC; rw [if_pos hs, if_neg (by rw [hsy]; decide)]
    obtain ⟨h1, h2⟩ := part_cap (part_name hy hsy) hs h.2
    rw [e]
    exact ⟨h1, .inl ⟨rfl, hsy, h2⟩⟩
  | false =>
    rw [if_neg (by rw [hs]; decide), Bool.and_eq_true] at h
    have e : detC x y = mpCap y x := by unfold detC; rw [if_neg (by rw [hs]; decide)]
    obtain ⟨h1, h2⟩ := part_cap (part_name hx hs) h.1 h.2
    rw [e]
    exact ⟨h1, .inr ⟨rfl, h.1, h2⟩⟩
theorem cap_mk {x c : ByteArray} (hc : comp c.data.toList = true) (hs : stB x = true) : mpOk x (c ++ tlB x) = true ∧ mpCap x (c ++ tlB x) = c := by
  have hsf : Lib.hasSuffix (c ++ tlB x).data.toList (tlB x).data.toList = true := by
    unfold Lib.hasSuffix
    rw [List.isSuffixOf_iff_suffix, app_data]
    exact List.suffix_append _ _
  have ht : Lib.trimSuffix (c ++ tlB x).data.toList (tlB x).data.toList = c.data.toList := by
    unfold Lib.trimSuffix
    rw [if_pos hsf, app_data]
    simp
  refine ⟨?_, ?_⟩
  · unfold mpOk
    rw [if_pos hs, hsf, ht]
    cases h : c.data.toList with
    | nil => rw [h] at hc; cases hc
    | cons a l => rfl
  · unfold mpCap
    rw [if_pos hs, ht, mkB_back]
theorem app_cancelL {x y c : ByteArray} (hx : stB x = true) (hy : stB y = true) (h : c ++ tlB x = c ++ tlB y) : x = y := by
  have e : (c ++ tlB x).data.toList = (c ++ tlB y).data.toList := by rw [h]
  rw [app_data, app_data] at e
  have e2 := List.append_cancel_left e
  rw [← mkB_back x, ← mkB_back y, star_head hx, star_head hy, e2]
/-- what is filled to one path by both determines the capture -/
theorem stp_fil : ∀ {xs ys cs l : List ByteArray} {r : Bool} {k : Nat} {x y : ByteArray}, stp xs ys = some (k, x, y) → Fil xs r cs l → Fil ys r cs l → detO x y = true ∧ cs[k]? = some (detC x y)
  | [], ys, cs, l, r, k, x, y, h, _, _ => by cases ys <;> cases h
  | a :: xs, [], cs, l, r, k, x, y, h, _, _ => by cases h
  | a :: xs, b :: ys, cs, l, r, k, x, y, h, hf, hg => by
    by_cases e : a = b
    · subst e
      rw [stp_eq] at h
      cases hs : stp xs ys with
      | none => rw [hs] at h; cases h
      | some p =>
        rw [hs] at h
        obtain ⟨j, x', y'⟩ := p
        simp only [Option.some.injEq, Prod.mk.injEq] at h
        obtain ⟨hk, rfl, rfl⟩ := h
        cases hst : stB a with
        | true =>
          rw [Fil.star hst] at hf hg
          obtain ⟨c, cs', l', rfl, h1, rfl, h2⟩ := hf
          obtain ⟨c2, cs2, l2, e1, k1, e2, k2⟩ := hg
          obtain ⟨rfl, rfl⟩ := List.cons.inj e1
          obtain ⟨_, rfl⟩ := List.cons.inj e2
          rw [if_pos hst] at hk
          subst hk
          have ih := stp_fil hs h2 k2
          exact ⟨ih.1, by simpa using ih.2⟩
        | false =>
          rw [Fil.lit hst] at hf hg
          obtain ⟨l', rfl, h2⟩ := hf
          obtain ⟨l2, e2, k2⟩ := hg
          obtain ⟨_, rfl⟩ := List.cons.inj e2
          rw [if_neg (by rw [hst]; decide)] at hk
          subst hk
          exact stp_fil hs h2 k2
    · rw [stp_ne e] at h
      simp only [Option.some.injEq, Prod.mk.injEq] at h
      obtain ⟨rfl, rfl, rfl⟩ := h
      cases hst : stB a with
      | true =>
        rw [Fil.star hst] at hf
        obtain ⟨c, cs', l', rfl, h1, rfl, h2⟩ := hf
        cases hsb : stB b with
        | true =>
          rw [Fil.star hsb] at hg
          obtain ⟨c2, cs2, l2, e1, k1, e2, k2⟩ := hg
          obtain ⟨rfl, rfl⟩ := List.cons.inj e1
          obtain ⟨e3, _⟩ := List.cons.inj e2
          exact absurd (app_cancelL hst hsb e3) e
        | false =>
          rw [Fil.lit hsb] at hg
          obtain ⟨l2, e2, _⟩ := hg
          obtain ⟨e3, _⟩ := List.cons.inj e2
          subst e3
          obtain ⟨m1, m2⟩ := cap_mk h1 hst
          unfold detO detC
          rw [if_pos hst, if_pos hst, if_neg (by rw [hsb]; decide), hsb, m1, m2]
          exact ⟨rfl, rfl⟩
      | false =>
        rw [Fil.lit hst] at hf
        obtain ⟨l', rfl, _⟩ := hf
        cases hsb : stB b with
        | true =>
          rw [Fil.star hsb] at hg
          obtain ⟨c2, cs2, l2, rfl, k1, e2, k2⟩ := hg
          obtain ⟨e3, _⟩ := List.cons.inj e2
          subst e3
          obtain ⟨m1, m2⟩ := cap_mk k1 hsb
          unfold detO detC
          rw [if_neg (by rw [hst]; decide), if_neg (by rw [hst]; decide), hsb, m1, m2]
          exact ⟨rfl, rfl⟩
        | false =>
          rw [Fil.lit hsb] at hg
          obtain ⟨l2, e2, _⟩ := hg
          exact absurd (List.cons.inj e2).1 e

/-- both sides made equal, capture by capture -/
def eqz : Nat → List ByteArray → List ByteArray → List ByteArray → List ByteArray × Bool
  | 0, _, _, _ => ([], false)
  | n + 1, l, f, s => match stp f s with
    | none => (l, true)
    | some p => if detO p.2.1 p.2.2 = true then eqz n (fixB (detC p.2.1 p.2.2) p.1 l) (fixB (detC p.2.1 p.2.2) p.1 f) (fixB (detC p.2.1 p.2.2) p.1 s) else ([], false)
theorem eqz_end {n : Nat} {l f s : List ByteArray} (h : stp f s = none) : eqz (n + 1) l f s = (l, true) := by
  conv => lhs; unfold eqz
  rw [h]
theorem eqz_bad {n k : Nat} {l f s : List ByteArray} {x y : ByteArray} (h : stp f s = some (k, x, y)) (hd : detO x y = false) : eqz (n + 1) l f s = ([], false) := by
  conv => lhs; unfold eqz
  rw [h]
  simp only
  rw [if_neg (by rw [hd]; decide)]
theorem eqz_step {n k : Nat} {l f s : List ByteArray} {x y : ByteArray} (h : stp f s = some (k, x, y)) (hd : detO x y = true) : eqz (n + 1) l f s = eqz n (fixB (detC x y) k l) (fixB (detC x y) k f) (fixB (detC x y) k s) := by
  conv => lhs; unfold eqz
  rw [h]
  simp only
  rw [if_pos hd]

/-- three patterns with the same wildcards -/
def ES (l f s : List ByteArray) : Prop :=
  ((∀ x ∈ l, partB x = true) ∧ (∀ x ∈ f, partB x = true) ∧ ∀ x ∈ s, partB x = true) ∧ countB stB l = countB stB f ∧ countB stB s = countB stB f ∧ f.length = s.length
theorem ES.lt {l f s : List ByteArray} {k : Nat} {x y : ByteArray} (h : ES l f s) (hs : stp f s = some (k, x, y)) (hd : detO x y = true) :
    comp (detC x y).data.toList = true ∧ k < countB stB f ∧ ((stB x = true ∧ stB y = false ∧ detC x y ++ tlB x = y) ∨ (stB x = false ∧ stB y = true ∧ detC x y ++ tlB y = x)) := by
  obtain ⟨h1, h2, h3, h4, _⟩ := stp_le hs
  obtain ⟨d1, d2⟩ := det_good (h.1.2.1 x h3) (h.1.2.2 y h4) hd
  refine ⟨d1, ?_, d2⟩
  rcases d2 with d2 | d2
  · rw [if_pos d2.1] at h1; omega
  · rw [if_pos d2.2.1] at h2; have := h.2.2.1; omega
theorem ES.fix {l f s : List ByteArray} {k : Nat} {c : ByteArray} (h : ES l f s) (hc : comp c.data.toList = true) (hk : k < countB stB f) :
    ES (fixB c k l) (fixB c k f) (fixB c k s) ∧ countB stB (fixB c k f) + 1 = countB stB f := by
  obtain ⟨⟨h1, h2, h3⟩, h4, h5, h6⟩ := h
  have c1 := fix_count hc k l (by omega)
  have c2 := fix_count hc k f hk
  have c3 := fix_count hc k s (by omega)
  exact ⟨⟨⟨fix_part hc k l h1, fix_part hc k f h2, fix_part hc k s h3⟩, by omega, by omega, by rw [fix_len, fix_len, h6]⟩, c2⟩

theorem insC_erase {c : ByteArray} : ∀ {k : Nat} {ds : List ByteArray}, ds[k]? = some c → insC c k (ds.eraseIdx k) = ds
  | k, [], h => by simp at h
  | 0, d :: ds, h => by
    have : d = c := by simpa using h
    subst this
    rfl
  | k + 1, d :: ds, h => by
    show d :: insC c k (ds.eraseIdx k) = d :: ds
    rw [insC_erase (by simpa using h)]

theorem eqz_means {r : Bool} {L : List ByteArray} : ∀ (n : Nat) (l f s : List ByteArray), countB stB f < n → ES l f s →
    (((eqz n l f s).2 = true ∧ ∃ cs, Fil (eqz n l f s).1 r cs L) ↔ ∃ cs p, Fil l r cs L ∧ Fil f r cs p ∧ Fil s r cs p)
  | 0, l, f, s, h, _ => by omega
  | n + 1, l, f, s, h, hE => by
    cases hs : stp f s with
    | none =>
      have e := stp_none hE.2.2.2 hs
      subst e
      rw [eqz_end hs]
      constructor
      · rintro ⟨_, cs, hf⟩
        obtain ⟨p, hp⟩ := hf.kinds hE.2.1
        exact ⟨cs, p, hf, hp, hp⟩
      · rintro ⟨cs, p, hf, _, _⟩
        exact ⟨rfl, cs, hf⟩
    | some p =>
      obtain ⟨k, x, y⟩ := p
      cases hd : detO x y with
      | false =>
        rw [eqz_bad hs hd]
        constructor
        · rintro ⟨e, _⟩; cases e
        · rintro ⟨cs, p, _, h1, h2⟩
          rw [(stp_fil hs h1 h2).1] at hd
          cases hd
      | true =>
        obtain ⟨hc, hk, _⟩ := hE.lt hs hd
        obtain ⟨hE2, hcnt⟩ := hE.fix hc hk
        rw [eqz_step hs hd, eqz_means n _ _ _ (by omega) hE2]
        constructor
        · rintro ⟨cs, p, h1, h2, h3⟩
          exact ⟨insC (detC x y) k cs, p, fix_fil hc (by rw [hE.2.1]; exact hk) h1, fix_fil hc hk h2, fix_fil hc (by rw [hE.2.2.1]; exact hk) h3⟩
        · rintro ⟨ds, p, h1, h2, h3⟩
          have hat := (stp_fil hs h2 h3).2
          exact ⟨ds.eraseIdx k, p, fil_fix hc (by rw [hE.2.1]; exact hk) h1 hat, fil_fix hc hk h2 hat, fil_fix hc (by rw [hE.2.2.1]; exact hk) h3 hat⟩
theorem eqz_false : ∀ (n : Nat) (l f s : List ByteArray), (eqz n l f s).2 = false → (eqz n l f s).1 = []
  | 0, l, f, s, _ => rfl
  | n + 1, l, f, s, h => by
    cases hs : stp f s with
    | none => rw [eqz_end hs] at h; cases h
    | some p =>
      obtain ⟨k, x, y⟩ := p
      cases hd : detO x y with
      | false => rw [eqz_bad hs hd]
      | true => rw [eqz_step hs hd] at h ⊢; exact eqz_false n _ _ _ h
theorem fil_length : ∀ {xs cs l : List ByteArray}, Fil xs true cs l → ∃ init c, cs = init ++ [c] ∧ l.length = xs.length + (spB c.data.toList).length
  | [], cs, l, h => by
    obtain ⟨c, rfl, rfl, _⟩ := h
    exact ⟨[], c, rfl, by simp⟩
  | x :: xs, cs, l, h => by
    cases hs : stB x with
    | true =>
      rw [Fil.star hs] at h
      obtain ⟨d, ds, l', rfl, _, rfl, h2⟩ := h
      obtain ⟨init, c, rfl, e⟩ := fil_length h2
      exact ⟨d :: init, c, rfl, by simp [e]; omega⟩
    | false =>
      rw [Fil.lit hs] at h
      obtain ⟨l', rfl, h2⟩ := h
      obtain ⟨init, c, rfl, e⟩ := fil_length h2
      exact ⟨init, c, rfl, by simp [e]; omega⟩
theorem fil_eqlen {xs ys cs l : List ByteArray} {r : Bool} (h : Fil xs r cs l) (k : Fil ys r cs l) : xs.length = ys.length := by
  cases r with
  | false => rw [h.len.2.2 rfl, k.len.2.2 rfl]
  | true =>
    obtain ⟨i1, c1, e1, h1⟩ := fil_length h
    obtain ⟨i2, c2, e2, h2⟩ := fil_length k
    rw [e1] at e2
    have e3 := List.append_inj_right' e2 rfl
    have e4 : c1 = c2 := by simpa using e3
    subst e4
    omega

/-- how long the wildcards' tails are in all -/
def tails : List ByteArray → Nat
  | [] => 0
  | x :: xs => (if stB x = true then (tlB x).size else 0) + tails xs
theorem tails_sum : ∀ xs : List ByteArray, tails xs ≤ sumB xs
  | [] => Nat.le_refl _
  | x :: xs => by
    have ih := tails_sum xs
    have := tlB_size x
    unfold tails
    have e : sumB (x :: xs) = x.size + sumB xs := by simp [sumB]
    rw [e]
    split <;> omega
def tailS : List (List ByteArray × Bool) → Nat
  | [] => 0
  | p :: bs => tails p.1 + tailS bs
theorem tails_one (z : ByteArray) : tails [z] = if stB z = true then (tlB z).size else 0 := by simp [tails]
theorem app_size (a b : ByteArray) : (a ++ b).size = a.size + b.size := by
  rw [Lib.size_eq, Lib.size_eq, Lib.size_eq, app_data, List.length_append]
theorem sb_tails : ∀ {xs ys : List ByteArray} {r t : Bool} {bs : List (List ByteArray × Bool)}, Sb xs r bs ys t → tails ys ≤ tails xs + tailS bs ∧ tailS bs ≤ tails ys
  | [], ys, false, t, bs, h => by
    obtain ⟨rfl, rfl, _⟩ := h
    exact ⟨Nat.zero_le _, Nat.le_refl _⟩
  | [], ys, true, t, bs, h => by
    obtain ⟨rfl, _, _⟩ := h
    constructor <;> simp [tailS, tails]
  | x :: xs, ys, r, t, bs, h => by
    cases hs : stB x with
    | true =>
      rw [Sb.star hs] at h
      obtain ⟨z, bs', ys', rfl, hz, rfl, h2⟩ := h
      have ih := sb_tails h2
      have hz0 := part_pos hz
      have e1 : stB (z ++ tlB x) = stB z := st_app hz0
      have e2 : (tlB (z ++ tlB x)).size = (tlB z).size + (tlB x).size := by rw [tl_app2 hz0, app_size]
      unfold tails tailS
      rw [if_pos hs]
      simp only [tails_one, e1, e2]
      cases hsz : stB z <;> simp <;> omega
    | false =>
      rw [Sb.lit hs] at h
      obtain ⟨ys', rfl, h2⟩ := h
      have ih := sb_tails h2
      unfold tails
      rw [if_neg (by rw [hs]; decide)]
      omega
theorem fix_tails {c : ByteArray} (hc : comp c.data.toList = true) : ∀ {k : Nat} {xs : List ByteArray}, k < countB stB xs → ∃ e, tails xs = tails (fixB c k xs) + e ∧ ∀ y ∈ fixB c k xs, y ∈ xs ∨ (stB y = false ∧ y.size = c.size + e)
  | k, [], h => by simp [countB] at h
  | 0, x :: xs, h => by
    cases hs : stB x with
    | true =>
      refine ⟨(tlB x).size, ?_, fun y hy => ?_⟩
      · rw [fix_zero hs]
        unfold tails
        rw [if_pos hs, if_neg (by rw [st_fixed hc]; decide)]
        omega
      · rw [fix_zero hs] at hy
        rcases List.mem_cons.1 hy with rfl | hy
        · exact .inr ⟨st_fixed hc, app_size _ _⟩
        · exact .inl (by simp [hy])
    | false =>
      rw [cnt_lit hs] at h
      obtain ⟨e, h1, h2⟩ := fix_tails hc h
      refine ⟨e, ?_, fun y hy => ?_⟩
      · rw [fix_lit hs]
        unfold tails
        rw [h1, if_neg (by rw [hs]; decide)]
        omega
      · rw [fix_lit hs] at hy
        rcases List.mem_cons.1 hy with rfl | hy
        · exact .inl (by simp)
        · rcases h2 y hy with h3 | h3
          · exact .inl (by simp [h3])
          · exact .inr h3
  | k + 1, x :: xs, h => by
    cases hs : stB x with
    | true =>
      rw [cnt_star hs] at h
      obtain ⟨e, h1, h2⟩ := fix_tails hc (k := k) (xs := xs) (by omega)
      refine ⟨e, ?_, fun y hy => ?_⟩
      · rw [fix_succ hs]
        unfold tails
        rw [h1, if_pos hs]
        omega
      · rw [fix_succ hs] at hy
        rcases List.mem_cons.1 hy with rfl | hy
        · exact .inl (by simp)
        · rcases h2 y hy with h3 | h3
          · exact .inl (by simp [h3])
          · exact .inr h3
    | false =>
      rw [cnt_lit hs] at h
      obtain ⟨e, h1, h2⟩ := fix_tails hc h
      refine ⟨e, ?_, fun y hy => ?_⟩
      · rw [fix_lit hs]
        unfold tails
        rw [h1, if_neg (by rw [hs]; decide)]
        omega
      · rw [fix_lit hs] at hy
        rcases List.mem_cons.1 hy with rfl | hy
        · exact .inl (by simp)
        · rcases h2 y hy with h3 | h3
          · exact .inl (by simp [h3])
          · exact .inr h3
/-- the sizes, and how far they can grow -/
def SZ (B : Nat) (l f s : List ByteArray) : Prop :=
  ((∀ x ∈ f, stB x = false → x.size + tails f + tails s ≤ B) ∧ (∀ x ∈ s, stB x = false → x.size + tails f + tails s ≤ B)) ∧ ((∀ x ∈ f, stB x = true → x.size ≤ B) ∧ ∀ x ∈ s, stB x = true → x.size ≤ B) ∧ (tails l ≤ B ∧ ∀ x ∈ l, x.size ≤ B + B)
theorem SZ.le {B : Nat} {l f s : List ByteArray} (h : SZ B l f s) : (∀ x ∈ l, x.size ≤ B + B) ∧ (∀ x ∈ f, x.size ≤ B) ∧ ∀ x ∈ s, x.size ≤ B := by
  refine ⟨h.2.2.2, fun x hx => ?_, fun x hx => ?_⟩
  · cases hs : stB x with
    | true => exact h.2.1.1 x hx hs
    | false => have := h.1.1 x hx hs; omega
  · cases hs : stB x with
    | true => exact h.2.1.2 x hx hs
    | false => have := h.1.2 x hx hs; omega
theorem SZ.fix {B k : Nat} {l f s : List ByteArray} {x y : ByteArray} (h : SZ B l f s) (hE : ES l f s) (hs : stp f s = some (k, x, y)) (hd : detO x y = true) :
    SZ B (fixB (detC x y) k l) (fixB (detC x y) k f) (fixB (detC x y) k s) ∧ (detC x y).size ≤ B := by
  obtain ⟨hc, hk, hxy⟩ := hE.lt hs hd
  obtain ⟨_, _, mx, my, _⟩ := stp_le hs
  have hcs : (detC x y).size + tails f + tails s ≤ B := by
    rcases hxy with ⟨h1, h2, h3⟩ | ⟨h1, h2, h3⟩
    · have := h.1.2 y my h2
      have e : y.size = (detC x y).size + (tlB x).size := by rw [← app_size, h3]
      omega
    · have := h.1.1 x mx h1
      have e : x.size = (detC x y).size + (tlB y).size := by rw [← app_size, h3]
      omega
  obtain ⟨el, l1, l2⟩ := fix_tails hc (k := k) (xs := l) (by rw [hE.2.1]; exact hk)
  obtain ⟨ef, f1, f2⟩ := fix_tails hc (k := k) (xs := f) hk
  obtain ⟨es, s1, s2⟩ := fix_tails hc (k := k) (xs := s) (by rw [hE.2.2.1]; exact hk)
  refine ⟨⟨⟨fun z hz hn => ?_, fun z hz hn => ?_⟩, ⟨fun z hz hn => ?_, fun z hz hn => ?_⟩, ?_, fun z hz => ?_⟩, by omega⟩
  · rcases f2 z hz with h1 | ⟨_, h1⟩
    · have := h.1.1 z h1 hn; omega
    · omega
  · rcases s2 z hz with h1 | ⟨_, h1⟩
    · have := h.1.2 z h1 hn; omega
    · omega
  · rcases f2 z hz with h1 | ⟨h1, _⟩
    · exact h.2.1.1 z h1 hn
    · rw [hn] at h1; cases h1
  · rcases s2 z hz with h1 | ⟨h1, _⟩
    · exact h.2.1.2 z h1 hn
    · rw [hn] at h1; cases h1
  · have := h.2.2.1; omega
  · rcases l2 z hz with h1 | ⟨_, h1⟩
    · exact h.2.2.2 z h1
    · have := h.2.2.1; omega
end Go.Proofs.YtidjmbmnfnnleaaDoor

