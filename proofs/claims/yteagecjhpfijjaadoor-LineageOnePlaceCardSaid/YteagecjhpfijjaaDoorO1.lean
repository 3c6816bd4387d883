/-
  A region whose call writes the cells that its loads read: the loads may be taken first, since the call waits for them. The condition S is asked behind every operation but that call.
-/
import Derived.Deep.RegionHeld
import Derived.Deep.RegionWith
namespace Go.Proofs.YteagecjhpfijjaaDoor
set_option linter.unusedSimpArgs false
set_option linter.unusedVariables false

section
variable {P : Program} {ops : Array Oper} {Q : Exit → Act → World → Prop} {md : Region.Mode} {S : World → Prop} {c : Nat}

/-- whatever order is picked from here on, and S holds behind every operation that comes up ahead of operation c -/
def wpH (P : Program) (md : Region.Mode) (ops : Array Oper) (Q : Exit → Act → World → Prop) (S : World → Prop) (c : Nat) : Nat → Array Bool → Act → World → Prop
  | 0, listed, a, w => Region.ready md ops listed = [] ∧ Q .normal a w
  | fuel + 1, listed, a, w =>
    (Region.ready md ops listed = [] → Q .normal a w) ∧
    ∀ i ∈ Region.ready md ops listed, wpOp P ops Q i (fun a' w' => if i = c then wpAny P md ops Q fuel (listed.setIfInBounds i true) a' w' else S w' ∧ wpH P md ops Q S c fuel (listed.setIfInBounds i true) a' w') a w
theorem wpAny_of_wpH : ∀ (fuel : Nat) (listed : Array Bool) (a : Act) (w : World), wpH P md ops Q S c fuel listed a w → wpAny P md ops Q fuel listed a w
  | 0, _, _, _, h => h
  | fuel + 1, _, _, _, h => ⟨h.1, fun i hi => wpOp_mono (fun a' w' h' => by
      by_cases e : i = c
      · rwa [if_pos e] at h'
      · rw [if_neg e] at h'
        exact wpAny_of_wpH fuel _ a' w' h'.2) (h.2 i hi)⟩
theorem wpH_first {i : Nat} {oi : Oper} {v : Value} (hi : ops[i]? = some oi) (hsel : ∀ (j : Nat) (o : Oper) cs b, ops[j]? = some o → o.op ≠ .select cs b)
    (hQ : ∀ c a w, Q (.panic c) (a.put oi.dst v) w → Q (.panic c) a w) (hic : i ≠ c) (Inv : Array Bool → Prop)
    (hI : ∀ (listed : Array Bool) (j : Nat), Inv listed → j ∈ Region.ready md ops listed → i ∈ Region.ready md ops listed → j ≠ i → j ≠ c ∧ Inv (listed.setIfInBounds j true)) :
    ∀ (fuel : Nat) (listed : Array Bool) (a : Act) (w : World), Inv listed →
      (∀ j oj, ops[j]? = some oj → j ≠ i → listed.getD j true = false → (∀ e ∈ oj.after, Region.binds md e = true → e.on ≠ i) → oi.apart ops oj = true) →
      i ∈ Region.ready md ops listed → YieldsIf P ops S oi v a → S w →
      wpH P md ops Q S c fuel (listed.setIfInBounds i true) (a.put oi.dst v) w → wpH P md ops Q S c (fuel + 1) listed a w := by
  intro fuel
  induction fuel with
  | zero =>
    intro listed a w _ _ hr hy hS H
    refine ⟨fun h => (by rw [h] at hr; cases hr), fun j hj => ?_⟩
    by_cases hji : j = i
    · subst hji
      refine hy.wpOp hi hS ?_
      rw [if_neg hic]
      exact ⟨hS, H⟩
    · have := ready_mono hj hji
      rw [H.1] at this
      cases this
  | succ fuel ih =>
    intro listed a w hinv hfree hr hy hS H
    refine ⟨fun h => (by rw [h] at hr; cases hr), fun j hj => ?_⟩
    by_cases hji : j = i
    · subst hji
      refine hy.wpOp hi hS ?_
      rw [if_neg hic]
      exact ⟨hS, H⟩
    · have h1 := H.2 j (ready_mono hj hji)
      obtain ⟨hjc, hinv2⟩ := hI listed j hinv hj hr hji
      obtain ⟨hjun, oj, hoj, hall⟩ := mem_ready.1 hj
      have hnot : ∀ e ∈ oj.after, Region.binds md e = true → e.on ≠ i := fun e he hb heq => by
        have h1 := hall e he hb
        have h0 := (mem_ready.1 hr).1
        rw [heq] at h1
        rcases Nat.lt_or_ge i listed.size with h' | h'
        · simp [h'] at h0 h1; rw [h0] at h1; cases h1
        · simp [Array.getElem?_eq_none h'] at h1
      have h2 := wpOp_putIf hoj (hfree j oj hoj hji hjun hnot) (fun cs b => hsel i oi cs b hi) (fun cs b => hsel j oj cs b hoj) hQ hy h1
      have hfree' : ∀ k ok, ops[k]? = some ok → k ≠ i → (listed.setIfInBounds j true).getD k true = false →
          (∀ e ∈ ok.after, Region.binds md e = true → e.on ≠ i) → oi.apart ops ok = true := fun k ok hk hki hun hno => by
        refine hfree k ok hk hki ?_ hno
        by_cases hjk : j = k
        · subst hjk; exact hjun
        · rw [getD_set_ne true hjk] at hun; exact hun
      refine wpOp_mono (fun a' w' h3 => ?_) h2
      have h4 := h3.2
      rw [if_neg hjc] at h4 ⊢
      refine ⟨h4.1, ih (listed.setIfInBounds j true) a' w' hinv2 hfree' (ready_mono hr (Ne.symm hji)) h3.1 h4.1 ?_⟩
      rw [Array.setIfInBounds_comm _ _ hji]
      exact h4.2
/-- each waits for the one ahead of it -/
def chained (md : Region.Mode) (ops : Array Oper) : Nat → List Nat → Bool
  | _, [] => true
  | i, p :: ps => ((ops[p]?).map fun o => o.after.any fun e => Region.binds md e && e.on == i).getD false && chained md ops p ps
theorem chained_inv : ∀ {ps : List Nat} {i : Nat}, chained md ops i ps = true → ∀ (listed : Array Bool) (j : Nat), (∀ p ∈ ps, listed.getD p true = false) → j ∈ Region.ready md ops listed → listed.getD i true = false → j ∉ ps
  | [], _, _, _, _, _, _, _ => by simp
  | p :: ps, i, h, listed, j, hu, hj, hi => by
    unfold chained at h
    rw [Bool.and_eq_true] at h
    obtain ⟨h1, h2⟩ := h
    have ih := chained_inv h2 listed j (fun q hq => hu q (List.mem_cons_of_mem _ hq)) hj (hu p List.mem_cons_self)
    intro hm
    rcases List.mem_cons.1 hm with rfl | hm
    · obtain ⟨_, o, ho, hall⟩ := mem_ready.1 hj
      rw [ho] at h1
      simp only [Option.map_some, Option.getD_some] at h1
      obtain ⟨e, he, hb⟩ := Array.any_eq_true'.1 h1
      simp only [Bool.and_eq_true, beq_iff_eq] at hb
      have h3 := hall e he hb.1
      rw [hb.2] at h3
      rcases Nat.lt_or_ge i listed.size with h' | h'
      · simp [h'] at hi h3; rw [hi] at h3; cases h3
      · simp [Array.getElem?_eq_none h'] at h3
    · exact ih hm
/-- number i is taken first: operation c waits for it along ps -/
theorem wpH_take {i : Nat} {oi : Oper} {v : Value} {fuel : Nat} {listed : Array Bool} {a : Act} {w : World} (ps : List Nat) (hi : ops[i]? = some oi)
    (hs : Region.noSelect ops = true) (hf : Region.free md ops listed i = true) (hr : (Region.ready md ops listed).contains i = true)
    (hch : chained md ops i ps = true) (hcp : (ps.contains c && (!ps.contains i && ps.all fun p => !listed.getD p true)) = true)
    (hQ : ∀ c a w, Q (.panic c) (a.put oi.dst v) w → Q (.panic c) a w) (hy : YieldsIf P ops S oi v a) (hS : S w)
    (h : wpH P md ops Q S c fuel (listed.setIfInBounds i true) (a.put oi.dst v) w) : wpH P md ops Q S c (fuel + 1) listed a w := by
  rw [Bool.and_eq_true, Bool.and_eq_true] at hcp
  obtain ⟨hc1, hc2, hc3⟩ := hcp
  have hc1' : c ∈ ps := by simpa using hc1
  have hc2' : i ∉ ps := by simpa using hc2
  refine wpH_first hi (Region.noSelect_spec hs) hQ (fun e => hc2' (e ▸ hc1')) (fun l => ∀ p ∈ ps, l.getD p true = false) (fun l j hl hj hir hji => ?_) fuel listed a w (fun p hp => by
    have := List.all_eq_true.1 hc3 p hp
    simpa using this) (Region.free_spec hi hf) (by simpa using hr) hy hS h
  have hn := chained_inv hch l j hl hj (mem_ready.1 hir).1
  refine ⟨fun e => hn (by rw [e]; exact hc1'), fun p hp => ?_⟩
  rw [getD_set_ne true (fun e => hn (by rw [e]; exact hp))]
  exact hl p hp
theorem wpH_take2 {i : Nat} {oi : Oper} {v : Value} {fuel : Nat} {listed : Array Bool} {a : Act} {w : World} (ps : List Nat) (d : Tmp) (hi : ops[i]? = some oi) (hd : oi.dst = some d)
    (hs : Region.noSelect ops = true) (hf : Region.free md ops listed i = true) (hr : (Region.ready md ops listed).contains i = true)
    (hch : chained md ops i ps = true) (hcp : (ps.contains c && (!ps.contains i && ps.all fun p => !listed.getD p true)) = true)
    (hQ : ∀ c a w, Q (.panic c) (a.put (some d) v) w → Q (.panic c) a w) (hy : YieldsIf P ops S oi v a) (hS : S w)
    (h : wpH P md ops Q S c fuel (listed.setIfInBounds i true) (a.put (some d) v) w) : wpH P md ops Q S c (fuel + 1) listed a w :=
  wpH_take ps hi hs hf hr hch hcp (by rw [hd]; exact hQ) hy hS (by rw [hd]; exact h)
/-- whichever of those that may come up comes up -/
theorem wpH_all {rs : List Nat} {fuel : Nat} {listed : Array Bool} {a : Act} {w : World} (hr : Region.ready md ops listed = rs) (hne : rs ≠ [])
    (h : ∀ i ∈ rs, wpOp P ops Q i (fun a' w' => if i = c then wpAny P md ops Q fuel (listed.setIfInBounds i true) a' w' else S w' ∧ wpH P md ops Q S c fuel (listed.setIfInBounds i true) a' w') a w) : wpH P md ops Q S c (fuel + 1) listed a w :=
  ⟨fun h0 => absurd (hr ▸ h0) hne, hr ▸ h⟩
theorem wp_region_wpH {id : Nat} {a : Act} {w : World} (hm : P.follows .mixedOrders = true)
    (h : wpH P .any ops Q S c ops.size (Array.replicate ops.size false) a w.drew) : (Code.region id ops true).wp P Q a w :=
  wp_region_any hm (wpAny_of_wpH _ _ _ _ h)
end
end Go.Proofs.YteagecjhpfijjaaDoor

