/-
  Lists of changes in memory; the walks of the reference's Small and Build.
-/
import Derived.Test.YteagecjhpfijjaaDoorV21
namespace Go.Proofs.YteagecjhpfijjaaDoor
set_option linter.unusedSimpArgs false
set_option linter.unusedVariables false
open Go.RowKit

/-- a change -/
structure Cg where
  n : Int
  s : ByteArray
  t : ByteArray
  es : List Ed
  rcs : List Rc
/-- changes that lie in the world -/
def CV (w : World) (A : Option Addr) (c : Nat) (ls : List Cg) : Prop :=
  ls.length ≤ c ∧ c ≤ 9223372036854775807 ∧ (0 < ls.length → ∃ b o, A = some ⟨b, o, none⟩ ∧ b < w.heap.size ∧ ∀ (j : Nat) (x : Cg), ls[j]? = some x → ∃ C ce D dr,
    w.cell? ⟨b, o + j * 5, none⟩ = some (.int .i64 x.n) ∧ w.cell? ⟨b, o + j * 5 + 1, none⟩ = some (.string x.s) ∧ w.cell? ⟨b, o + j * 5 + 2, none⟩ = some (.string x.t) ∧ w.cell? ⟨b, o + j * 5 + 3, none⟩ = some (.slice C x.es.length ce) ∧ w.cell? ⟨b, o + j * 5 + 4, none⟩ = some (.slice D x.rcs.length dr) ∧
    EV w C ce x.es ∧ NilC C ce ∧ RC w D dr x.rcs ∧ NilC D dr)
theorem CV.below {w w' : World} {A : Option Addr} {c : Nat} {ls : List Cg} (h : CV w A c ls) (hb : Below w.heap.size w w') : CV w' A c ls :=
  ⟨h.1, h.2.1, fun h0 => by
    obtain ⟨b, o, e, hlt, hc⟩ := h.2.2 h0
    refine ⟨b, o, e, Nat.lt_of_lt_of_le hlt hb.size, fun j x hj => ?_⟩
    obtain ⟨C, ce, D, dr, h1, h2, h3, h4, h5, h6, h7, h8, h9⟩ := hc j x hj
    exact ⟨C, ce, D, dr, (hb.cell (p := ⟨b, o + j * 5, none⟩) hlt).trans h1, (hb.cell (p := ⟨b, o + j * 5 + 1, none⟩) hlt).trans h2, (hb.cell (p := ⟨b, o + j * 5 + 2, none⟩) hlt).trans h3, (hb.cell (p := ⟨b, o + j * 5 + 3, none⟩) hlt).trans h4, (hb.cell (p := ⟨b, o + j * 5 + 4, none⟩) hlt).trans h5, h6.below hb, h7, h8.below hb, h9⟩⟩
def edS (x : Ed) : Bool := decide (x.path.size + x.frm.size ≤ 500)
def rcS (x : Rc) : Bool := decide (x.frm.size + x.dst.size ≤ 500)
def cgN (x : Cg) : Nat := x.es.length + x.rcs.length
def sumN (ls : List Cg) : Nat := (ls.map cgN).sum
/-- changes that are few and short -/
def smallL (ls : List Cg) : Prop := (∀ c ∈ ls, (∀ x ∈ c.es, edS x = true) ∧ ∀ x ∈ c.rcs, rcS x = true) ∧ ls.length ≤ 40 ∧ sumN ls ≤ 200
/-- what Append hands back, in one form -/
theorem RetAp.one {w : World} {rs : List Rv} {n : Int} {es : List Ed} {r : Nat} {e : Ending} {w' : World} (h : RetAp w rs n es r e w') : ∃ (en : Int) (A : Option Addr) (k c : Nat) (B : Option Addr) (m d : Nat), e = .returned (.tuple #[.agg #[.slice A k c, .slice B m d], .int .i64 en]) ∧ Below w.heap.size w w' ∧
    (en = 0 → Batch rs n es ∧ k = (rs ++ es.map (madeR n)).length ∧ RV w' A c (rs ++ es.map (madeR n)) ∧ NilC A c ∧ ∃ recs : List Rc, m = recs.length ∧ RC w' B d recs ∧ NilC B d ∧ recs.length = r ∧ (∀ x ∈ recs, shortC x) ∧ (∀ a, A = some a → w.heap.size ≤ a.block) ∧ (∀ a, B = some a → w.heap.size ≤ a.block)) := by
  obtain ⟨en, ⟨h1, h2, h3⟩ | ⟨h1, h2, A, c, B, d, recs, h3, h4, h5, h6, h7, h8, h9, h11, h12, h10⟩⟩ := h
  · exact ⟨en, none, 0, 0, none, 0, 0, h2, h3, fun h => absurd h h1⟩
  · subst h1
    exact ⟨0, A, _, c, B, _, d, h3, h10, fun _ => ⟨h2, rfl, h4, h5, recs, rfl, h6, h7, h8, h9, h11, h12⟩⟩
/-- a depot that changes made lies in the world -/
def DV (w : World) (A : Option Addr) (c : Nat) (B : Option Addr) (d : Nat) (rs : List Rv) (recs : List Rc) : Prop := RV w A c rs ∧ NilC A c ∧ RC w B d recs ∧ NilC B d ∧ ∀ x ∈ recs, shortC x
theorem DV.below {w w' : World} {A : Option Addr} {c : Nat} {B : Option Addr} {d : Nat} {rs : List Rv} {recs : List Rc} (h : DV w A c B d rs recs) (hb : Below w.heap.size w w') : DV w' A c B d rs recs := ⟨h.1.below hb, h.2.1, h.2.2.1.below hb, h.2.2.2.1, h.2.2.2.2⟩
theorem DV.other {w : World} {A : Option Addr} {c : Nat} {B : Option Addr} {d : Nat} {rs : List Rv} {recs : List Rc} (h : DV w A c B d rs recs) {p : Addr} (hA : ∀ a, A = some a → p.block ≠ a.block) (hB : ∀ a, B = some a → p.block ≠ a.block) (y : Value) : DV (w.setCell p y) A c B d rs recs :=
  ⟨RR.other h.1 hA y, h.2.1, RR.other h.2.2.1 hB y, h.2.2.2.1, h.2.2.2.2⟩
theorem VH.near {rs : List Rv} (h : VH rs) (hl : rs.length ≤ 1000) : (∀ u ∈ rs, nearN u.num) ∧ ∀ p, nearN (lastN rs p + 1) := by
  have hI := h.inv
  have hlen : ∀ p, (logR rs p).length ≤ rs.length := fun p => List.length_filter_le _ _
  refine ⟨fun u hu => ?_, fun p => ?_⟩
  · have := hI.num_le hu
    rw [hI.lastN] at this
    have := hlen u.path
    exact ⟨by omega, by omega⟩
  · rw [hI.lastN]
    have := hlen p
    exact ⟨by omega, by omega⟩
/-- paths that are short -/
def szR (rs : List Rv) : Prop := ∀ v ∈ rs, v.path.size ≤ 500
theorem szR.app {rs : List Rv} {n : Int} {es : List Ed} (h : szR rs) (he : ∀ x ∈ es, edS x = true) : szR (rs ++ es.map (madeR n)) := fun v hv => by
  rcases List.mem_append.1 hv with hv | hv
  · exact h v hv
  · obtain ⟨x, hx, rfl⟩ := List.mem_map.1 hv
    have := he x hx
    unfold edS at this
    simp at this
    show x.path.size ≤ 500
    omega
/-- the depot that Build hands back -/
def RetB (w : World) (ls : List Cg) (e : Ending) (w' : World) : Prop := ∃ (rs : List Rv) (recs : List Rc) (A : Option Addr) (c : Nat) (B : Option Addr) (d : Nat), e = .returned (.agg #[.slice A rs.length c, .slice B recs.length d]) ∧ DV w' A c B d rs recs ∧ VH rs ∧ szR rs ∧ rs.length + recs.length ≤ sumN ls ∧ Below w.heap.size w w'
theorem sumN_snoc {ls : List Cg} {k : Nat} {x : Cg} (h : ls[k]? = some x) : sumN (ls.take (k + 1)) = sumN (ls.take k) + cgN x := by
  unfold sumN
  rw [List.take_add_one, h, List.map_append, List.sum_append]
  simp
theorem sumN_le {ls : List Cg} {k : Nat} : sumN (ls.take k) ≤ sumN ls := by
  unfold sumN
  conv => rhs; rw [← List.take_append_drop k ls, List.map_append, List.sum_append]
  omega
def NNl : List Value := [.slice none 0 0, .slice none 0 0]
theorem BB.put2 {w w' : World} {a b : Nat × List Value} (h : BB w [a, b] w') {u v : Value} (e : b.2 = [u, v]) (hd : a.1 ≠ b.1) (hB : w.heap.size ≤ b.1) (y z : Value) : BB w [a, (b.1, [y, z])] ((w'.setCell ⟨b.1, 0, none⟩ y).setCell ⟨b.1, 1, none⟩ z) :=
  ⟨fun p hp => by
    simp only [List.mem_cons, List.not_mem_nil, or_false] at hp
    have h1 := h.1 b (by simp)
    rw [e] at h1
    rcases hp with rfl | rfl
    · exact ((h.1 _ (by simp)).other (p := ⟨b.1, 0, none⟩) (fun e => hd e.symm) y).other (p := ⟨b.1, 1, none⟩) (fun e => hd e.symm) z
    · exact (h1.set (j := 0) (by simp) y).set (j := 1) (by simp) z, (h.2.setCell (p := ⟨b.1, 0, none⟩) hB y).setCell (p := ⟨b.1, 1, none⟩) hB z⟩
set_option maxHeartbeats 8000000 in
set_option maxRecDepth 100000 in
theorem build_any (A : Option Addr) (c : Nat) (ls : List Cg) (w : World) (h : CV w A c ls) (hs : smallL ls) (hm : ML w) :
    Calls Tryd.prog 13 #[.slice A ls.length c] w (RetB w ls) := by
  have HC := Lib.hid h
  have HM := Lib.hid hm
  have HSM := Lib.hid hs
  have h1 := h.1
  have h2 := h.2.1
  have HS : At (BB w [(w.heap.size, [.slice none 0 0, .slice none 0 0]), (w.heap.size + 1, [.slice none 0 0, .slice none 0 0])]) ((w.alloc (.cells #[.slice none 0 0, .slice none 0 0] 28)).alloc (.cells #[.slice none 0 0, .slice none 0 0] 28)) :=
    (((BB.nil w).push [.slice none 0 0, .slice none 0 0] 28 rfl).push [.slice none 0 0, .slice none 0 0] 28 (g := w.heap.size + 1) (by simp)).at_
  clear h hm hs
  go_enter Tryd.func13, Tryd.ntmps13
  go_wp2_with fail
  go_loopw [10] (fun s wr => ∃ (k : Nat) (rs : List Rv) (recs : List Rc) (A' : Option Addr) (c' : Nat) (B' : Option Addr) (d' : Nat), k ≤ ls.length ∧ s = .int .i64 k ∧ Hid (DV wr A' c' B' d' rs recs) ∧ Hid (VH rs) ∧ Hid (szR rs) ∧ Hid (rs.length + recs.length ≤ sumN (ls.take k)) ∧ Hid ((∀ a, A' = some a → w.heap.size + 1 < a.block) ∧ ∀ a, B' = some a → w.heap.size + 1 < a.block) ∧ Hid (BB w [(w.heap.size, [.slice none 0 0, .slice none 0 0]), (w.heap.size + 1, [.slice A' rs.length c', .slice B' recs.length d'])] wr)) (fun s _ => ls.length - (intOf s).toNat)
  case atStart => exact ⟨0, [], [], none, 0, none, 0, Nat.zero_le _, rfl, Lib.hid ⟨RR.nil _ none 0 12 (by omega), fun _ => rfl, RR.nil _ none 0 6 (by omega), fun _ => rfl, fun x hx => by cases hx⟩, Lib.hid VH.nil, Lib.hid (fun v hv => by cases hv), Lib.hid (by simp), Lib.hid ⟨(fun a ha => by cases ha), (fun a ha => by cases ha)⟩, Lib.hid HS.out⟩
  case round =>
    clear HS
    obtain ⟨k, rs, recs, A', c', B', d', hk, rfl, HDV, HVH, HSZ, HSU, HBK, HS0⟩ := hrel
    have HS := HS0.out.at_
    clear HS0
    obtain ⟨r0, r1⟩ := HS.out.get 0 rfl |>.c2
    obtain ⟨d0, d1⟩ := HS.out.get 1 rfl |>.c2
    have rf := (HS.out.get 0 rfl).2.1
    have df := (HS.out.get 1 rfl).2.1
    have g0l := (HS.out.get 0 rfl).2.2
    have g1l := (HS.out.get 1 rfl).2.2
    by_cases hlt : k < ls.length
    · obtain ⟨x, hx⟩ : ∃ x, ls[k]? = some x := ⟨_, List.getElem?_eq_getElem hlt⟩
      obtain ⟨b, o, e0, hb1, hcc⟩ := (HC.out.below HS.out.low).2.2 (by omega)
      obtain ⟨C, ce, D, dr, x0, x1, x2, x3, x4, hev, hnc, hrc, hnd⟩ := hcc k x hx
      have hxm := List.mem_of_getElem? hx
      have hsn := sumN_snoc hx
      have hsl := sumN_le (ls := ls) (k := k + 1)
      have h200 := HSM.out.2.2
      have hsu := HSU.out
      have hcg : cgN x = x.es.length + x.rcs.length := rfl
      have HSN : Hid (rs.length + recs.length + (x.es.length + x.rcs.length) ≤ sumN (ls.take (k + 1))) := Lib.hid (by omega)
      obtain ⟨nr1, nr2⟩ := HVH.out.near (by omega)
      have HAP := Lib.hid (fun W h1 h2 h3 h4 mm => append_any A' B' c' d' rs recs x.n x.s x.t C D ce dr x.es x.rcs W h1 HDV.out.2.1 h2 HDV.out.2.2.2.1 h3 h4 hnd mm
        (fun y hy => by have := (HSM.out.1 x hxm).1 y hy; unfold edS at this; simp at this; omega) (fun y hy => by have := (HSM.out.1 x hxm).2 y hy; unfold rcS at this; simp at this; exact ⟨by omega, by omega⟩) HDV.out.2.2.2.2 (by omega) (by omega) (by omega) (by omega) nr1 nr2)
      have HXS : Hid (∀ y ∈ x.es, edS y = true) := Lib.hid (HSM.out.1 x hxm).1
      have HEV := Lib.hid hev
      have HRC := Lib.hid hrc
      subst e0
      clear hcc hx hev hnc hrc hnd hxm hsn hsl h200 hsu hcg nr1 nr2
      go_upto_if 21 with (go_at_call 23; refine (HAP.out _ (HDV.out.1.below (by repeat (first | exact Below.refl _ _ | apply Below.drew | apply below_drewN | apply below_al))) (HDV.out.2.2.1.below (by repeat (first | exact Below.refl _ _ | apply Below.drew | apply below_drewN | apply below_al))) (HEV.out.below (by repeat (first | exact Below.refl _ _ | apply Below.drew | apply below_drewN | apply below_al))) (HRC.out.below (by repeat (first | exact Below.refl _ _ | apply Below.drew | apply below_drewN | apply below_al))) (HM.out.below (HS.go (by repeat (first | exact Below.refl _ _ | apply Below.drew | apply below_drewN | apply below_al))).out.low)).mono ?_; rintro e w1 hR; obtain ⟨en, A2, k2, c2, B2, m2, d2, rfl, hb, hok⟩ := hR.one; replace HS := HS.go2 (by repeat (first | exact Below.refl _ _ | apply Below.drew | apply below_drewN | apply below_al)) hb; have HOK := Lib.hid hok; have HDV1 := Lib.hid (HDV.out.below (go3 (by repeat (first | exact Below.refl _ _ | apply Below.drew | apply below_drewN | apply below_al)) hb)); clear hb hok hR)
      have g1r : w.heap.size + 1 < wr.heap.size := g1l
      clear r0 r1 d0 d1 rf df g0l g1l
      obtain ⟨r0, r1⟩ := HS.out.get 0 rfl |>.c2
      obtain ⟨d0, d1⟩ := HS.out.get 1 rfl |>.c2
      have rf := (HS.out.get 0 rfl).2.1
      have df := (HS.out.get 1 rfl).2.1
      have g0l := (HS.out.get 0 rfl).2.2
      have g1l := (HS.out.get 1 rfl).2.2
      by_cases hen : en = 0
      · have b1 : (en == 0) = true := by simpa using hen
        obtain ⟨hbt, hk2, hrv, hna, recs2, hm2, hrc2, hnb, hrl2, hsh2, hba, hbb⟩ := HOK.out hen
        have HD2 := Lib.hid (show DV w1 A2 c2 B2 d2 (rs ++ x.es.map (madeR x.n)) recs2 from ⟨hrv, hna, hrc2, hnb, hsh2⟩)
        have HV2 := Lib.hid (VH.app HVH.out hbt)
        have HSZ2 : Hid (szR (rs ++ x.es.map (madeR x.n))) := Lib.hid (HSZ.out.app HXS.out)
        have HL2 : Hid ((rs ++ x.es.map (madeR x.n)).length + recs2.length ≤ sumN (ls.take (k + 1))) := Lib.hid (by rw [List.length_append, List.length_map]; have := HSN.out; omega)
        have HBK2 : Hid ((∀ a, A2 = some a → w.heap.size + 1 < a.block) ∧ ∀ a, B2 = some a → w.heap.size + 1 < a.block) := Lib.hid ⟨(fun a ha => by have := hba a ha; simp at this; omega), (fun a ha => by have := hbb a ha; simp at this; omega)⟩
        have HK2 := Lib.hid hk2
        have HM2 := Lib.hid hm2
        clear hbt hrv hna hrc2 hnb hrl2 hsh2 hen hk2 hm2 HOK hba hbb
        go_wp2_with fail
        go_roundw
        case rel => exact ⟨k + 1, rs ++ x.es.map (madeR x.n), recs2, A2, c2, B2, d2, by omega, by go_num, Lib.hid (((HD2.out.other (p := ⟨w.heap.size + 1, 0, none⟩) (fun a ha => Nat.ne_of_lt (HBK2.out.1 a ha)) (fun a ha => Nat.ne_of_lt (HBK2.out.2 a ha)) _).other (p := ⟨w.heap.size + 1, 1, none⟩) (fun a ha => Nat.ne_of_lt (HBK2.out.1 a ha)) (fun a ha => Nat.ne_of_lt (HBK2.out.2 a ha)) _).below (below_alloc _ _)), HV2, HSZ2, HL2, HBK2, Lib.hid (by rw [← HK2.out, ← HM2.out]; exact BB.kept _ _ _ _ (HS.out.put2 rfl (by simp only; omega) (by simp only; omega) _ _) (below_alloc _ _))⟩
        case measure => simp [intOf]; omega
      · have b1 : (en == 0) = false := by simpa using hen
        clear hen
        go_wp2_with fail
        go_roundw
        case rel => exact ⟨k + 1, rs, recs, A', c', B', d', by omega, by go_num, Lib.hid (HDV1.out.below (by repeat (first | exact Below.refl _ _ | apply Below.drew | apply below_drewN | apply below_al))), HVH, HSZ, Lib.hid (by have := HSN.out; omega), HBK, Lib.hid (HS.go (by repeat (first | exact Below.refl _ _ | apply Below.drew | apply below_drewN | apply below_al))).out⟩
        case measure => simp [intOf]; omega
    · obtain rfl : k = ls.length := by omega
      have HSU2 := HSU.out
      rw [List.take_length] at HSU2
      have HSU3 := Lib.hid HSU2
      clear HSU2
      go_wp2_with fail
      refine bodyPost_ret (v := .agg #[.slice A' rs.length c', .slice B' recs.length d']) (by simp [results, Tryd.results13, go_sem, r0, r1, rf]) rfl ?_
      exact ⟨rs, recs, A', c', B', d', rfl, (HDV.out.other (p := ⟨w.heap.size, 0, none⟩) (fun a ha => by have := HBK.out.1 a ha; simp only; omega) (fun a ha => by have := HBK.out.2 a ha; simp only; omega) _).other (p := ⟨w.heap.size, 1, none⟩) (fun a ha => by have := HBK.out.1 a ha; simp only; omega) (fun a ha => by have := HBK.out.2 a ha; simp only; omega) _, HVH.out, HSZ.out, HSU3.out, (HS.out.low.setCell (p := ⟨w.heap.size, 0, none⟩) (Nat.le_refl _) _).setCell (p := ⟨w.heap.size, 1, none⟩) (Nat.le_refl _) _⟩
end Go.Proofs.YteagecjhpfijjaaDoor

