/-
  What a pattern within a pattern, and the intersection of two patterns, match: plain facts.
-/
import Derived.Test.YtidjmbmnfnnleaaDoorQ20
import Derived.Test.YtidjmbmnfnnleaaDoorQ19
namespace Go.Proofs.YtidjmbmnfnnleaaDoor
set_option linter.unusedSimpArgs false
set_option linter.unusedVariables false
open Go.RowKit
open Pm

theorem suf_iff {l p : List UInt8} : Lib.hasSuffix l p = true ↔ p <:+ l := by
  unfold Lib.hasSuffix
  rw [List.isSuffixOf_iff_suffix]
theorem trim_of {a p : List UInt8} : Lib.trimSuffix (a ++ p) p = a := (trim_app a p).2
theorem mp_star {p y : ByteArray} (hs : stB p = true) : mpOk p y = true ↔ ∃ a, a ≠ [] ∧ y.data.toList = a ++ (tlB p).data.toList := by
  unfold mpOk
  rw [if_pos hs, Bool.and_eq_true, suf_iff]
  constructor
  · rintro ⟨⟨a, ha⟩, h2⟩
    rw [← ha, trim_of] at h2
    refine ⟨a, ?_, ha.symm⟩
    rintro rfl
    cases h2
  · rintro ⟨a, ha, e⟩
    rw [e, trim_of]
    refine ⟨⟨a, rfl⟩, ?_⟩
    cases a with
    | nil => exact absurd rfl ha
    | cons c a => rfl
theorem mp_lit {p y : ByteArray} (hs : stB p = false) : mpOk p y = true ↔ p = y := by
  unfold mpOk
  rw [if_neg (by rw [hs]; decide), decide_eq_true_iff]
/-- whatever matches the narrow part matches the wide one -/
theorem ins_mp {a b y : ByteArray} (h : insB a b = true) (k : mpOk a y = true) : mpOk b y = true := by
  unfold insB at h
  by_cases he : a = b
  · rw [← he]; exact k
  rw [if_neg he] at h
  cases hb : stB b with
  | false => rw [hb, if_pos rfl] at h; cases h
  | true =>
    rw [hb, if_neg (by decide)] at h
    cases ha : stB a with
    | true =>
      rw [ha, if_pos rfl, suf_iff] at h
      obtain ⟨c, hc⟩ := h
      obtain ⟨d, hd, e⟩ := (mp_star ha).1 k
      rw [mp_star hb]
      refine ⟨d ++ c, ?_, ?_⟩
      · intro e2
        exact hd (List.append_eq_nil_iff.1 e2).1
      · rw [e, ← hc, List.append_assoc]
    | false =>
      rw [ha, if_neg (by decide)] at h
      rw [← (mp_lit ha).1 k]
      exact h
/-- two parts that match one component are nested -/
theorem mp_nrw {a b y : ByteArray} (h : mpOk a y = true) (k : mpOk b y = true) : nrwOk a b = true := by
  unfold nrwOk
  cases ha : stB a with
  | false =>
    have e := (mp_lit ha).1 h
    subst e
    cases hb : stB b with
    | false =>
      have e := (mp_lit hb).1 k
      subst e
      unfold insB
      rw [if_pos rfl]
      rfl
    | true =>
      have : insB a b = true := by
        unfold insB
        by_cases he : a = b
        · rw [if_pos he]
        · rw [if_neg he, hb, if_neg (by decide), ha, if_neg (by decide)]
          exact k
      rw [this]
      rfl
  | true =>
    cases hb : stB b with
    | false =>
      have e := (mp_lit hb).1 k
      subst e
      have : insB b a = true := by
        unfold insB
        by_cases he : b = a
        · rw [if_pos he]
        · rw [if_neg he, ha, if_neg (by decide), hb, if_neg (by decide)]
          exact h
      rw [this, Bool.or_true]
    | true =>
      obtain ⟨c, _, e1⟩ := (mp_star ha).1 h
      obtain ⟨d, _, e2⟩ := (mp_star hb).1 k
      have s1 : (tlB a).data.toList <:+ y.data.toList := ⟨c, e1.symm⟩
      have s2 : (tlB b).data.toList <:+ y.data.toList := ⟨d, e2.symm⟩
      rcases Nat.le_total (tlB a).data.toList.length (tlB b).data.toList.length with hl | hl
      · have := List.suffix_of_suffix_length_le s1 s2 hl
        have hi : insB b a = true := by
          unfold insB
          by_cases he : b = a
          · rw [if_pos he]
          · rw [if_neg he, ha, if_neg (by decide), hb, if_pos rfl, suf_iff]
            exact this
        rw [hi, Bool.or_true]
      · have := List.suffix_of_suffix_length_le s2 s1 hl
        have hi : insB a b = true := by
          unfold insB
          by_cases he : a = b
          · rw [if_pos he]
          · rw [if_neg he, hb, if_neg (by decide), ha, if_pos rfl, suf_iff]
            exact this
        rw [hi]
        rfl
theorem nrw_mp {a b y : ByteArray} (h : nrwOk a b = true) : mpOk (nrw a b) y = (mpOk a y && mpOk b y) := by
  unfold nrwOk at h
  unfold nrw
  cases h1 : insB a b with
  | true =>
    rw [if_pos rfl, Bool.eq_iff_iff, Bool.and_eq_true]
    exact ⟨fun k => ⟨k, ins_mp h1 k⟩, fun k => k.1⟩
  | false =>
    rw [h1, Bool.false_or] at h
    rw [if_neg (by decide), if_pos h, Bool.eq_iff_iff, Bool.and_eq_true]
    exact ⟨fun k => ⟨ins_mp h k, k⟩, fun k => k.2⟩
theorem nrw_one {a b : ByteArray} (h : nrwOk a b = true) : nrw a b = a ∨ nrw a b = b := by
  unfold nrwOk at h
  unfold nrw
  cases h1 : insB a b with
  | true => exact .inl (if_pos rfl)
  | false =>
    rw [h1, Bool.false_or] at h
    rw [if_neg (by decide), if_pos h]
    exact .inr rfl

theorem ok_iff {g : ByteArray → ByteArray → Bool} {xs ys : List ByteArray} : okOf g (xs.zip ys) = true ↔ ∀ (k : Nat) (x y : ByteArray), xs[k]? = some x → ys[k]? = some y → g x y = true := by
  unfold okOf
  rw [List.all_eq_true]
  constructor
  · intro h k x y hx hy
    exact h (x, y) (List.mem_of_getElem? (zip_get hx hy))
  · intro h z hz
    obtain ⟨k, hk⟩ := List.getElem?_of_mem hz
    have := List.getElem?_zip_eq_some.1 (show (xs.zip ys)[k]? = some (z.1, z.2) from hk)
    exact h k z.1 z.2 this.1 this.2
theorem mzAll_get {us vs : List ByteArray} {k : Nat} {x : ByteArray} (hl : vs.length ≤ us.length) (hx : us[k]? = some x) :
    (mzAll us vs)[k]? = some (match vs[k]? with | some y => nrw x y | none => x) := by
  cases hy : vs[k]? with
  | some y =>
    have hz := zip_get hx hy
    unfold mzAll
    rw [List.getElem?_append_left (by rw [List.length_map]; exact (List.getElem?_eq_some_iff.1 hz).1), List.getElem?_map, hz]
    rfl
  | none =>
    have hk : vs.length ≤ k := by
      rcases Nat.lt_or_ge k vs.length with h | h
      · rw [List.getElem?_eq_getElem h] at hy; cases hy
      · exact h
    have hlen : ((us.zip vs).map (fun p => nrw p.1 p.2)).length = vs.length := by rw [List.length_map, List.length_zip]; omega
    unfold mzAll
    rw [List.getElem?_append_right (by omega), hlen, List.getElem?_drop, show vs.length + (k - vs.length) = k by omega]
    exact hx
theorem mzAll_back {us vs : List ByteArray} {k : Nat} {z : ByteArray} (hl : vs.length ≤ us.length) (hz : (mzAll us vs)[k]? = some z) :
    ∃ x, us[k]? = some x ∧ z = (match vs[k]? with | some y => nrw x y | none => x) := by
  have hk : k < us.length := by
    rw [← mzAll_len hl]
    exact (List.getElem?_eq_some_iff.1 hz).1
  obtain ⟨x, hx⟩ : ∃ x, us[k]? = some x := ⟨_, List.getElem?_eq_getElem hk⟩
  refine ⟨x, hx, ?_⟩
  rw [mzAll_get hl hx] at hz
  exact (Option.some.inj hz).symm

/-- what the narrowed parts match -/
theorem mz_ok {us vs cs : List ByteArray} (hl : vs.length ≤ us.length) (h : okOf nrwOk (us.zip vs) = true) (hc : us.length ≤ cs.length) :
    okOf mpOk ((mzAll us vs).zip cs) = (okOf mpOk (us.zip cs) && okOf mpOk (vs.zip cs)) := by
  rw [ok_iff] at h
  rw [Bool.eq_iff_iff, Bool.and_eq_true, ok_iff, ok_iff, ok_iff]
  constructor
  · intro k
    refine ⟨fun i x y hx hy => ?_, fun i x y hx hy => ?_⟩
    · have hz := mzAll_get hl hx
      have := k i _ y hz hy
      cases hv : vs[i]? with
      | none => rw [hv] at this; exact this
      | some v =>
        rw [hv] at this
        have this2 : mpOk (nrw x v) y = true := this
        rw [nrw_mp (h i x v hx hv), Bool.and_eq_true] at this2
        exact this2.1
    · have hi : i < vs.length := (List.getElem?_eq_some_iff.1 hx).1
      obtain ⟨u, hu⟩ : ∃ u, us[i]? = some u := ⟨_, List.getElem?_eq_getElem (by omega)⟩
      have hz := mzAll_get hl hu
      have := k i _ y hz hy
      rw [hx] at this
      have this2 : mpOk (nrw u x) y = true := this
      rw [nrw_mp (h i u x hu hx), Bool.and_eq_true] at this2
      exact this2.2
  · rintro ⟨k1, k2⟩ i z y hz hy
    obtain ⟨x, hx, e⟩ := mzAll_back hl hz
    subst e
    cases hv : vs[i]? with
    | none => exact k1 i x y hx hy
    | some v =>
      show mpOk (nrw x v) y = true
      rw [nrw_mp (h i x v hx hv), k1 i x y hx hy, k2 i v y hv hy]
      rfl
theorem mz_nest {us vs cs : List ByteArray} (hc : us.length ≤ cs.length) (h1 : okOf mpOk (us.zip cs) = true) (h2 : okOf mpOk (vs.zip cs) = true) : okOf nrwOk (us.zip vs) = true := by
  rw [ok_iff] at h1 h2 ⊢
  intro i x v hx hv
  have hi : i < us.length := (List.getElem?_eq_some_iff.1 hx).1
  obtain ⟨y, hy⟩ : ∃ y, cs[i]? = some y := ⟨_, List.getElem?_eq_getElem (by omega)⟩
  exact mp_nrw (h1 i x y hx hy) (h2 i v y hv hy)

theorem lens_iff {n m : Nat} {r : Bool} : lensOk n m r = true ↔ n ≤ m ∧ (r = true → n < m) ∧ (r = false → n = m) := ⟨lens_lo, fun h => lens_in h.1 h.2.1 h.2.2⟩
theorem parts_ok_of {xs : List ByteArray} (h0 : 0 < xs.length) (h : ∀ k x, xs[k]? = some x → partB x = true ∧ (k = 0 → comp x.data.toList = true)) : partsOk xs = true := by
  refine PO.full (k := xs.length) ?_ (Nat.le_refl _) h0
  exact fun j x _ hx => h j x hx
theorem parts_get {xs : List ByteArray} (h : partsOk xs = true) {k : Nat} {x : ByteArray} (hx : xs[k]? = some x) : partB x = true ∧ (k = 0 → comp x.data.toList = true) := by
  refine ⟨parts_all h x (List.mem_of_getElem? hx), fun e => ?_⟩
  subst e
  cases xs with
  | nil => cases hx
  | cons y xs =>
    simp at hx
    subst hx
    unfold partsOk at h
    rw [Bool.and_eq_true] at h
    exact h.1
theorem check_of {xs : List ByteArray} {r : Bool} (h1 : partsOk xs = true) (h2 : xs.length ≤ 12) (h3 : 0 < xs.length) (h4 : xs.length = 1 → r = true) : checkP xs r = 0 := by
  rw [check_good (by
    rintro (h | ⟨h, k⟩)
    · omega
    · rw [h4 h] at k; cases k) h1, if_neg (by omega)]
theorem check_one {xs : List ByteArray} {r : Bool} (h : checkP xs r = 0) (h1 : xs.length = 1) : r = true := by
  cases r with
  | true => rfl
  | false => rw [check_short (.inr ⟨h1, rfl⟩)] at h; cases h

/-- the intersection of a long and a short pattern, whole -/
theorem mz_means {us vs : List ByteArray} {r t : Bool} {s : ByteArray} (hl : vs.length ≤ us.length) (hu : checkP us r = 0) (hv : checkP vs t = 0) (hco : (vs.length < us.length → t = true) ∧ (vs.length = us.length → r = t)) (h : okOf nrwOk (us.zip vs) = true) :
    checkP (mzAll us vs) (r && t) = 0 ∧ matchOk mpOk (mzAll us vs) (r && t) s = (matchOk mpOk us r s && matchOk mpOk vs t s) := by
  have hlen := mzAll_len hl
  have hck : checkP (mzAll us vs) (r && t) = 0 := by
    have cu := check_zero hu
    have cv := check_zero hv
    refine check_of (parts_ok_of (by omega) fun k z hz => ?_) (by omega) (by omega) (fun h1 => ?_)
    · obtain ⟨x, hx, e⟩ := mzAll_back hl hz
      have px := parts_get cu.2.2 hx
      cases hy : vs[k]? with
      | none => rw [hy] at e; subst e; exact px
      | some y =>
        rw [hy] at e
        subst e
        have py := parts_get cv.2.2 hy
        have hn := ok_iff.1 h k x y hx hy
        show partB (nrw x y) = true ∧ (k = 0 → comp (nrw x y).data.toList = true)
        rcases nrw_one hn with e | e <;> rw [e]
        · exact px
        · exact py
    · have e1 := check_one hu (by omega)
      have e2 := check_one hv (by omega)
      rw [e1, e2]
      rfl
  refine ⟨hck, ?_⟩
  unfold matchOk
  rw [hck, hu, hv, hlen]
  cases hp : pathOk s.data.toList with
  | false => rfl
  | true =>
    simp only [Bool.true_and, BEq.rfl]
    have key : lensOk us.length (compsB s).length (r && t) = (lensOk us.length (compsB s).length r && lensOk vs.length (compsB s).length t) := by
      rw [Bool.eq_iff_iff, Bool.and_eq_true, lens_iff, lens_iff, lens_iff]
      rcases Nat.lt_or_ge vs.length us.length with g | g
      · have := hco.1 g
        subst this
        rw [Bool.and_true]
        constructor
        · rintro ⟨a, b, c⟩
          exact ⟨⟨a, b, c⟩, by omega, fun _ => by omega, fun e => by cases e⟩
        · exact fun x => x.1
      · have e : vs.length = us.length := by omega
        have := hco.2 e
        subst this
        rw [Bool.and_self, e]
        exact ⟨fun x => ⟨x, x⟩, fun x => x.1⟩
    rw [key]
    cases h1 : lensOk us.length (compsB s).length r with
    | false => rfl
    | true =>
      have hc := (lens_lo h1).1
      rw [mz_ok hl h hc]
      cases lensOk vs.length (compsB s).length t with
      | false => simp
      | true => simp
theorem mz_apart {us vs : List ByteArray} {r t : Bool} {s : ByteArray} (hb : ¬ ((vs.length < us.length → t = true) ∧ (vs.length = us.length → r = t)) ∨ okOf nrwOk (us.zip vs) = false) (hl : vs.length ≤ us.length) :
    (matchOk mpOk us r s && matchOk mpOk vs t s) = false := by
  rw [Bool.eq_false_iff]
  intro k
  rw [Bool.and_eq_true] at k
  obtain ⟨k1, k2⟩ := k
  unfold matchOk at k1 k2
  rw [Bool.and_eq_true, Bool.and_eq_true, Bool.and_eq_true] at k1 k2
  have l1 := lens_lo k1.1.2
  have l2 := lens_lo k2.1.2
  rcases hb with hb | hb
  · refine hb ⟨fun g => ?_, fun g => ?_⟩
    · cases t with
      | true => rfl
      | false => have := l2.2.2 rfl; omega
    · cases r <;> cases t <;> first | rfl | (exfalso; have h1 := l1.2; have h2 := l2.2; simp at h1 h2; omega)
  · rw [mz_nest l1.1 k1.2 k2.2] at hb
    cases hb

theorem compat_iff {n m : Nat} {r t : Bool} (h : m ≤ n) : compatB n r m t = true ↔ (m < n → t = true) ∧ (m = n → r = t) := by
  unfold compatB
  cases r <;> cases t <;> simp <;> omega
theorem compat_turn (n m : Nat) (r t : Bool) : compatB n r m t = compatB m t n r := by
  unfold compatB
  cases r <;> cases t <;> simp [eq_comm]

/-- what PatternMeans asks -/
theorem meet_means (xs ys : List ByteArray) (r t : Bool) (s : ByteArray) :
    (meetOk xs ys r t = true → checkP (meetL xs ys) (r && t) = 0 ∧ matchOk mpOk (meetL xs ys) (r && t) s = (matchOk mpOk xs r s && matchOk mpOk ys t s)) ∧
    (meetOk xs ys r t = false → (matchOk mpOk xs r s && matchOk mpOk ys t s) = false) := by
  unfold meetOk meetL
  by_cases hx : checkP xs r = 0
  · by_cases hy : checkP ys t = 0
    · rw [hx, hy]
      simp only [BEq.rfl, Bool.true_and]
      by_cases hl : xs.length < ys.length
      · rw [if_pos hl, if_pos hl, compat_turn, Bool.and_comm r t, Bool.and_comm (matchOk mpOk xs r s)]
        refine ⟨fun h => ?_, fun h => ?_⟩
        · rw [Bool.and_eq_true, compat_iff (by omega)] at h
          exact mz_means (by omega) hy hx h.1 h.2
        · refine mz_apart ?_ (by omega)
          rw [Bool.and_eq_false_iff] at h
          rcases h with h | h
          · left
            intro k
            rw [(compat_iff (by omega)).2 k] at h
            cases h
          · exact .inr h
      · rw [if_neg hl, if_neg hl]
        refine ⟨fun h => ?_, fun h => ?_⟩
        · rw [Bool.and_eq_true, compat_iff (by omega)] at h
          exact mz_means (by omega) hx hy h.1 h.2
        · refine mz_apart ?_ (by omega)
          rw [Bool.and_eq_false_iff] at h
          rcases h with h | h
          · left
            intro k
            rw [(compat_iff (by omega)).2 k] at h
            cases h
          · exact .inr h
    · have e : (checkP ys t == 0) = false := beq_eq_false_iff_ne.2 hy
      rw [e]
      refine ⟨fun h => by simp at h, fun _ => ?_⟩
      unfold matchOk
      rw [e]
      simp
  · have e : (checkP xs r == 0) = false := beq_eq_false_iff_ne.2 hx
    rw [e]
    refine ⟨fun h => by simp at h, fun _ => ?_⟩
    unfold matchOk
    rw [e]
    simp

/-- a path of a pattern within another one matches that one -/
theorem within_means {xs ys : List ByteArray} {r t : Bool} {s : ByteArray} (h : withinOk insB xs ys r t = true) (k : matchOk mpOk xs r s = true) : matchOk mpOk ys t s = true := by
  unfold withinOk insideOk at h
  rw [Bool.and_eq_true, Bool.and_eq_true, Bool.and_eq_true, beq_iff_eq, beq_iff_eq] at h
  obtain ⟨hx, hy, hl, ho⟩ := h
  unfold matchOk at k ⊢
  rw [Bool.and_eq_true, Bool.and_eq_true, Bool.and_eq_true] at k
  obtain ⟨⟨⟨k1, _⟩, k3⟩, k4⟩ := k
  have l := lens_lo k3
  have hle := lensIn_le hl
  have hlen : lensOk ys.length (compsB s).length t = true := by
    rw [lens_iff]
    unfold lensIn at hl
    refine ⟨by omega, fun e => ?_, fun e => ?_⟩
    · rw [e, if_pos rfl] at hl
      cases r with
      | true => have := l.2.1 rfl; omega
      | false => have := l.2.2 rfl; simp at hl; omega
    · rw [e, if_neg (by decide)] at hl
      cases r with
      | true => simp at hl
      | false => have := l.2.2 rfl; simp at hl; omega
  rw [k1, hy, hlen]
  simp only [Bool.true_and, BEq.rfl]
  rw [ok_iff] at ho k4 ⊢
  intro i y c hy2 hc
  have hi : i < ys.length := (List.getElem?_eq_some_iff.1 hy2).1
  obtain ⟨x, hx2⟩ : ∃ x, xs[i]? = some x := ⟨_, List.getElem?_eq_getElem (by omega)⟩
  exact ins_mp (ho i x y hx2 hy2) (k4 i x c hx2 hc)
theorem meetL_mem {xs ys : List ByteArray} {r t : Bool} (h : meetOk xs ys r t = true) {z : ByteArray} (hz : z ∈ meetL xs ys) : z ∈ xs ∨ z ∈ ys := by
  unfold meetOk at h
  unfold meetL at hz
  rw [Bool.and_eq_true] at h
  obtain ⟨k, hk⟩ := List.getElem?_of_mem hz
  have key : ∀ us vs : List ByteArray, vs.length ≤ us.length → okOf nrwOk (us.zip vs) = true → (mzAll us vs)[k]? = some z → z ∈ us ∨ z ∈ vs := by
    intro us vs hl ho hz
    obtain ⟨x, hx, e⟩ := mzAll_back hl hz
    cases hy : vs[k]? with
    | none => rw [hy] at e; subst e; exact .inl (List.mem_of_getElem? hx)
    | some y =>
      rw [hy] at e
      have e2 : z = nrw x y := e
      rcases nrw_one (ok_iff.1 ho k x y hx hy) with e3 | e3 <;> rw [e3] at e2 <;> subst e2
      · exact .inl (List.mem_of_getElem? hx)
      · exact .inr (List.mem_of_getElem? hy)
  by_cases hl : xs.length < ys.length
  · rw [if_pos hl] at hk h
    exact (key ys xs (by omega) h.2 hk).symm
  · rw [if_neg hl] at hk h
    exact key xs ys (by omega) h.2 hk
end Go.Proofs.YtidjmbmnfnnleaaDoor

