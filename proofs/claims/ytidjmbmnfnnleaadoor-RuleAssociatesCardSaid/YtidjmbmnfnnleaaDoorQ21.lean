/-
  The walk of Meet.
-/
import Derived.Test.YtidjmbmnfnnleaaDoorQ20
namespace Go.Proofs.YtidjmbmnfnnleaaDoor
set_option linter.unusedSimpArgs false
set_option linter.unusedVariables false
open Go.RowKit
open Pm

theorem PX.set_same {w : World} {g : Nat} {u v : Value} (h : PX w g u v) (a b : Value) : PX ((w.setCell ⟨g, 0, none⟩ a).setCell ⟨g, 1, none⟩ b) g a b := by
  refine ⟨?_, ?_, ?_, ?_, ?_⟩
  · rw [World.cell?_setCell_other _ _ _ _ (by simp)]
    exact World.cell?_setCell_same _ _ _ h.1
  · exact World.cell?_setCell_same _ _ _ ((World.cell?_setCell_other _ _ _ _ (by simp)).trans h.2.1)
  · rw [World.frozen?_setCell, World.frozen?_setCell]; exact h.2.2.1
  · rw [World.frozen?_setCell, World.frozen?_setCell]; exact h.2.2.2.1
  · simpa using h.2.2.2.2
theorem PX.set_cell {w : World} {g : Nat} {u v : Value} (h : PX w g u v) (p : Addr) (hp : p.block ≠ g) (a : Value) : PX (w.setCell p a) g u v := by
  refine ⟨?_, ?_, ?_, ?_, ?_⟩
  · rw [World.cell?_setCell_other _ _ _ _ (by intro e; exact hp (by rw [e]))]; exact h.1
  · rw [World.cell?_setCell_other _ _ _ _ (by intro e; exact hp (by rw [e]))]; exact h.2.1
  · rw [World.frozen?_setCell]; exact h.2.2.1
  · rw [World.frozen?_setCell]; exact h.2.2.2.1
  · simpa using h.2.2.2.2

/-- two patterns in boxes of their own, the box of the result, and where the texts lie -/
def P3 (W : World) (A : Option Addr) (c : Nat) (xs : List ByteArray) (r : Bool) (B : Option Addr) (d : Nat) (ys : List ByteArray) (t : Bool) (w : World) : Prop :=
  PX w W.heap.size (.slice A xs.length c) (.bool r) ∧ PX w (W.heap.size + 1) (.slice B ys.length d) (.bool t) ∧ PX w (W.heap.size + 2) (.slice none 0 0) (.bool false) ∧ RT w A c xs ∧ RT w B d ys ∧ Below W.heap.size W w
theorem P3.kept (W : World) (A : Option Addr) (c : Nat) (xs : List ByteArray) (r : Bool) (B : Option Addr) (d : Nat) (ys : List ByteArray) (t : Bool) : Kept (P3 W A c xs r B d ys t) :=
  (kept_px _ _ _).both ((kept_px _ _ _).both ((kept_px _ _ _).both ((kept_rt _ _ _).both ((kept_rt _ _ _).both (kept_below W)))))
theorem P3.enter {W : World} {A : Option Addr} {c : Nat} {xs : List ByteArray} {B : Option Addr} {d : Nat} {ys : List ByteArray} (h : RT W A c xs) (k : RT W B d ys) (r t : Bool) (T : TypeId) :
    At (P3 W A c xs r B d ys t) (((W.alloc (.cells #[.slice A xs.length c, .bool r] T)).alloc (.cells #[.slice B ys.length d, .bool t] T)).alloc (.cells #[.slice none 0 0, .bool false] T)) :=
  ⟨P3.kept _ _ _ _ _ _ _ _ _, (PX.fst W _ _ _ _ _).below (below_alloc _ _), (PX.snd W _ _ _ _ _).below (below_alloc _ _), by simpa using PX.new ((W.alloc (.cells #[.slice A xs.length c, .bool r] T)).alloc (.cells #[.slice B ys.length d, .bool t] T)) (.slice none 0 0) (.bool false) T,
    h.below (below_al (below_alloc2 _ _ _) _), k.below (below_al (below_alloc2 _ _ _) _), below_al (below_alloc2 _ _ _) _⟩
theorem P3.cells {W : World} {A : Option Addr} {c : Nat} {xs : List ByteArray} {r : Bool} {B : Option Addr} {d : Nat} {ys : List ByteArray} {t : Bool} {w : World} (h : At (P3 W A c xs r B d ys t) w) :
    PX w W.heap.size (.slice A xs.length c) (.bool r) ∧ PX w (W.heap.size + 1) (.slice B ys.length d) (.bool t) ∧ PX w (W.heap.size + 2) (.slice none 0 0) (.bool false) := ⟨h.out.1, h.out.2.1, h.out.2.2.1⟩
theorem P3.x {W : World} {A : Option Addr} {c : Nat} {xs : List ByteArray} {r : Bool} {B : Option Addr} {d : Nat} {ys : List ByteArray} {t : Bool} {w : World} (h : At (P3 W A c xs r B d ys t) w) : RT w A c xs := h.out.2.2.2.1
theorem P3.y {W : World} {A : Option Addr} {c : Nat} {xs : List ByteArray} {r : Bool} {B : Option Addr} {d : Nat} {ys : List ByteArray} {t : Bool} {w : World} (h : At (P3 W A c xs r B d ys t) w) : RT w B d ys := h.out.2.2.2.2.1
theorem P3.b {W : World} {A : Option Addr} {c : Nat} {xs : List ByteArray} {r : Bool} {B : Option Addr} {d : Nat} {ys : List ByteArray} {t : Bool} {w : World} (h : At (P3 W A c xs r B d ys t) w) : Below W.heap.size W w := h.out.2.2.2.2.2
theorem P3.swap {W : World} {A : Option Addr} {c : Nat} {xs : List ByteArray} {r : Bool} {B : Option Addr} {d : Nat} {ys : List ByteArray} {t : Bool} {w : World} (h : At (P3 W A c xs r B d ys t) w) :
    At (P3 W B d ys t A c xs r) ((((w.setCell ⟨W.heap.size, 0, none⟩ (.slice B ys.length d)).setCell ⟨W.heap.size, 1, none⟩ (.bool t)).setCell ⟨W.heap.size + 1, 0, none⟩ (.slice A xs.length c)).setCell ⟨W.heap.size + 1, 1, none⟩ (.bool r)) := by
  obtain ⟨_, h1, h2, h3, h4, h5, h6⟩ := h
  have k2 := (h2.set_cell ⟨W.heap.size, 0, none⟩ (by simp) (.slice B ys.length d)).set_cell ⟨W.heap.size, 1, none⟩ (by simp) (.bool t)
  refine ⟨P3.kept _ _ _ _ _ _ _ _ _, ?_, ?_, ?_, ?_, ?_, ?_⟩
  · exact ((h1.set_same _ _).set_cell ⟨W.heap.size + 1, 0, none⟩ (by simp) _).set_cell ⟨W.heap.size + 1, 1, none⟩ (by simp) _
  · exact k2.set_same _ _
  · exact (((h3.set_cell ⟨W.heap.size, 0, none⟩ (by simp) _).set_cell ⟨W.heap.size, 1, none⟩ (by simp) _).set_cell ⟨W.heap.size + 1, 0, none⟩ (by simp) _).set_cell ⟨W.heap.size + 1, 1, none⟩ (by simp) _
  · exact (h5.box h1 (slice_ns _ _ _) (bool_ns _) _ _).box k2 (slice_ns _ _ _) (bool_ns _) _ _
  · exact (h4.box h1 (slice_ns _ _ _) (bool_ns _) _ _).box k2 (slice_ns _ _ _) (bool_ns _) _ _
  · exact below_box (below_box h6 (Nat.le_refl _) _ _) (by omega) _ _

/-- a pattern and a truth value -/
def RetM (w : World) (zs : List ByteArray) (q ok : Bool) (e : Ending) (w' : World) : Prop :=
  ∃ C n, e = .returned (.tuple #[.agg #[.slice C zs.length n, .bool q], .bool ok]) ∧ RT w' C n zs ∧ Below w.heap.size w w'
/-- the pattern if all is well, else none -/
def RetMO (w : World) (zs : List ByteArray) (q ok : Bool) (e : Ending) (w' : World) : Prop :=
  (ok = true → RetM w zs q true e w') ∧ (ok = false → RetM w [] false false e w')

set_option maxHeartbeats 2000000 in
theorem meet_chk (A B : Option Addr) (c d : Nat) (xs ys : List ByteArray) (r t : Bool) (w : World) (h : RT w A c xs) (k : RT w B d ys)
    (hsx : ∀ x ∈ xs, x.size ≤ 9223372036854775807) (hsy : ∀ x ∈ ys, x.size ≤ 9223372036854775807) (hb : ((checkP xs r == 0) && (checkP ys t == 0) && compatB xs.length r ys.length t) = false) :
    Calls Tryd.prog 44 #[.agg #[.slice A xs.length c, .bool r], .agg #[.slice B ys.length d, .bool t]] w (RetM w [] false false) := by
  have HI := P3.enter h k r t 24
  have HCX := Lib.hid (fun W (h : RT W A c xs) => check_any A c xs r W h hsx)
  have HCY := Lib.hid (fun W (h : RT W B d ys) => check_any B d ys t W h hsy)
  have HCO := Lib.hid (compatible_any xs.length ys.length r t)
  have hx1 := h.1
  have hx2 := h.2.1
  have hy1 := k.1
  have hy2 := k.2.1
  clear h k hsx hsy
  generalize checkP xs r = n at *
  generalize checkP ys t = m at *
  generalize compatB xs.length r ys.length t = q at *
  have hcase : ((n != 0) = true) ∨ ((n != 0) = false ∧ (m != 0) = true) ∨ ((n != 0) = false ∧ (m != 0) = false ∧ q = false) := by
    by_cases hn : n = 0
    · by_cases hm : m = 0
      · subst hn; subst hm
        exact .inr (.inr ⟨rfl, rfl, by simpa using hb⟩)
      · exact .inr (.inl ⟨by rw [hn]; rfl, by rw [bne_iff_ne]; exact hm⟩)
    · exact .inl (by rw [bne_iff_ne]; exact hn)
  clear hb
  rcases hcase with hn | ⟨hn, hm⟩ | ⟨hn, hm, rfl⟩ <;>
  · go_enter Tryd.func44, Tryd.ntmps44
    go_wp2_with (first
      | (go_at_call_of 43 (Value.agg #[.slice A xs.length c, .bool r]); ((with_reducible refine (HCX.out _ (P3.x (HI.go (by repeat (first | exact Below.refl _ _ | apply Below.drew | apply below_drewN | apply below_al))))).mono ?_); rintro e w1 ⟨rfl, hb⟩); replace HI := HI.go2 (by repeat (first | exact Below.refl _ _ | apply Below.drew | apply below_drewN | apply below_al)) hb; clear hb; obtain ⟨⟨p1, p2, p3, p4, p5⟩, ⟨q1, q2, q3, q4, q5⟩, ⟨r1, r2, r3, r4, r5⟩⟩ := P3.cells HI)
      | (go_at_call_of 43 (Value.agg #[.slice B ys.length d, .bool t]); ((with_reducible refine (HCY.out _ (P3.y (HI.go (by repeat (first | exact Below.refl _ _ | apply Below.drew | apply below_drewN | apply below_al))))).mono ?_); rintro e w1 ⟨rfl, hb⟩); replace HI := HI.go2 (by repeat (first | exact Below.refl _ _ | apply Below.drew | apply below_drewN | apply below_al)) hb; clear hb; obtain ⟨⟨p1, p2, p3, p4, p5⟩, ⟨q1, q2, q3, q4, q5⟩, ⟨r1, r2, r3, r4, r5⟩⟩ := P3.cells HI)
      | (go_at_call 66; refine (HCO.out _).mono ?_; rintro e w' ⟨rfl, rfl⟩))
    refine bodyPost_ret (v := .tuple #[.agg #[.slice none 0 0, .bool false], .bool false]) (by simp [results, Tryd.results44, go_sem, r1, r2, r3, r4]) rfl ⟨none, 0, rfl, RT.nil _ _ _ (by omega), ?_⟩
    exact below_box (P3.b HI) (by omega) _ _


set_option maxHeartbeats 4000000 in
theorem meet_noswap (A B : Option Addr) (c d : Nat) (xs ys : List ByteArray) (r t : Bool) (w : World) (h : RT w A c xs) (k : RT w B d ys)
    (hsx : ∀ x ∈ xs, x.size ≤ 9223372036854775807) (hsy : ∀ x ∈ ys, x.size ≤ 9223372036854775807) (hn : checkP xs r = 0) (hm : checkP ys t = 0) (hco : compatB xs.length r ys.length t = true) (hle : ys.length ≤ xs.length) :
    Calls Tryd.prog 44 #[.agg #[.slice A xs.length c, .bool r], .agg #[.slice B ys.length d, .bool t]] w (RetMO w (mzAll xs ys) (r && t) (okOf nrwOk (xs.zip ys))) := by
  have HI := P3.enter h k r t 24
  have HCX := Lib.hid (fun W (h : RT W A c xs) => check_any A c xs r W h hsx)
  have HCY := Lib.hid (fun W (h : RT W B d ys) => check_any B d ys t W h hsy)
  have HCO := Lib.hid (compatible_any xs.length ys.length r t)
  rw [hn] at HCX
  rw [hm] at HCY
  rw [hco] at HCO
  have hx1 := h.1
  have hx2 := h.2.1
  have hy1 := k.1
  have hy2 := k.2.1
  have hx12 := (check_zero hn).2.1
  have hy12 := (check_zero hm).2.1
  have hx0 := (check_zero hn).1
  have hy0 := (check_zero hm).1
  clear h k hn hm hco
  have HLE := Lib.hid hle
  have HSX := Lib.hid hsx
  have HSY := Lib.hid hsy
  have HCL := Lib.hid (fun W (h : RT W A c xs) => clone_any A c xs W h hx0 (by omega))
  have hltB : decide (xs.length < ys.length) = false := decide_eq_false (by omega)
  clear hsx hsy
  go_enter Tryd.func44, Tryd.ntmps44
  go_wp2_with (first
    | (go_at_call_of 43 (Value.agg #[.slice A xs.length c, .bool r]); ((with_reducible refine (HCX.out _ (P3.x (HI.go (by repeat (first | exact Below.refl _ _ | apply Below.drew | apply below_drewN | apply below_al))))).mono ?_); rintro e w1 ⟨rfl, hb⟩); replace HI := HI.go2 (by repeat (first | exact Below.refl _ _ | apply Below.drew | apply below_drewN | apply below_al)) hb; clear hb; obtain ⟨⟨p1, p2, p3, p4, p5⟩, ⟨q1, q2, q3, q4, q5⟩, ⟨r1, r2, r3, r4, r5⟩⟩ := P3.cells HI)
    | (go_at_call_of 43 (Value.agg #[.slice B ys.length d, .bool t]); ((with_reducible refine (HCY.out _ (P3.y (HI.go (by repeat (first | exact Below.refl _ _ | apply Below.drew | apply below_drewN | apply below_al))))).mono ?_); rintro e w1 ⟨rfl, hb⟩); replace HI := HI.go2 (by repeat (first | exact Below.refl _ _ | apply Below.drew | apply below_drewN | apply below_al)) hb; clear hb; obtain ⟨⟨p1, p2, p3, p4, p5⟩, ⟨q1, q2, q3, q4, q5⟩, ⟨r1, r2, r3, r4, r5⟩⟩ := P3.cells HI)
    | (go_at_call 66; refine (HCO.out _).mono ?_; rintro e w' ⟨rfl, rfl⟩)
    | (go_at_call 62; refine (HCL.out _ (P3.x (HI.go (by repeat (first | exact Below.refl _ _ | apply Below.drew | apply below_drewN | apply below_al))))).mono ?_; rintro e w3 ⟨g, cap, rfl, hoc, hb⟩; obtain ⟨wa, HI, hoc, hbc⟩ : ∃ wa, At (P3 w A c xs r B d ys t) wa ∧ OT w3 wa.heap.size (.slice (some ⟨g, 0, none⟩) xs.length cap) xs ∧ Below wa.heap.size wa w3 := ⟨_, HI, hoc, hb⟩; have HOC := Lib.hid hoc; have HBC := Lib.hid hbc; clear hoc hbc hb; obtain ⟨⟨p1, p2, p3, p4, p5⟩, ⟨q1, q2, q3, q4, q5⟩, ⟨r1, r2, r3, r4, r5⟩⟩ := P3.cells (HI.go HBC.out)))
  go_loopw [48] (fun i wr => ∃ k : Nat, k ≤ ys.length ∧ i = .int .i64 k ∧ Hid (OT wr wa.heap.size (.slice (some ⟨g, 0, none⟩) xs.length cap) (mz xs ys k)) ∧ Hid (okOf nrwOk ((xs.zip ys).take k) = true) ∧ Hid (Below wa.heap.size wa wr)) (fun i _ => ys.length - (intOf i).toNat)
  case atStart => exact ⟨0, Nat.zero_le _, rfl, Lib.hid (by rw [mz_zero]; exact HOC.out), Lib.hid rfl, HBC⟩
  case round =>
    obtain ⟨k, hk, rfl, HO, HOK, HBL⟩ := hrel
    have HJ := HI.go HBL.out
    have hsz := HBL.out.size
    obtain ⟨⟨p1, p2, p3, p4, p5⟩, ⟨q1, q2, q3, q4, q5⟩, ⟨r1, r2, r3, r4, r5⟩⟩ := P3.cells HJ
    by_cases hlt : k < ys.length
    · have hlu : k < xs.length := by have := HLE.out; omega
      obtain ⟨x, hx⟩ : ∃ x, xs[k]? = some x := ⟨_, List.getElem?_eq_getElem hlu⟩
      obtain ⟨y, hy⟩ : ∃ y, ys[k]? = some y := ⟨_, List.getElem?_eq_getElem hlt⟩
      obtain ⟨b2, o2, rfl, hb2, hc2⟩ := (P3.y HJ).2.2 (by omega)
      have hcy := hc2 k y hy
      obtain ⟨hcx, hfx, hg1, hg2, -, hcap, hcap2⟩ := HO.out.cell (mz_at hlt hx)
      have hxz := HSX.out x (List.mem_of_getElem? hx)
      have hyz := HSY.out y (List.mem_of_getElem? hy)
      have HZ := Lib.hid (zip_get hx hy)
      have HST := Lib.hid (mz_step hx hy)
      have HZX := Lib.hid hx
      have HKL : Hid (k < (mz xs ys k).length) := Lib.hid (by rw [mz_len hk HLE.out]; exact hlu)
      clear hc2 hx hy hb2
      cases hi : nrwOk x y with
      | true =>
        have HN := Lib.hid (ok_step (g := nrwOk) HZ.out HOK.out hi)
        go_wp2_with (go_at_call 67; refine (meetPart_any x y _ hxz hyz).mono ?_; rintro e w3 ⟨rfl, hb⟩; have HO3 := Lib.hid (HO.out.below hb); obtain ⟨hcx3, hfx3, -, hg3, -, -, -⟩ := HO3.out.cell (mz_at hlt HZX.out); have HBL3 := Lib.hid (HBL.out.trans (hb.mono HBL.out.size)); clear hb)
        go_roundw
        case rel => exact ⟨k + 1, by omega, by go_num, Lib.hid (by rw [← HST.out]; exact HO3.out.set HKL.out _), HN, Lib.hid (HBL3.out.setCell (p := ⟨g, k, none⟩) hg1 _)⟩
        case measure => simp [intOf]; omega
      | false =>
        have HN := Lib.hid (ok_miss (g := nrwOk) HZ.out hi)
        go_wp2_with (go_at_call 67; refine (meetPart_any x y _ hxz hyz).mono ?_; rintro e w3 ⟨rfl, hb⟩; have HJ3 := HJ.go hb; obtain ⟨⟨t1, t2, t3, t4, t5⟩, ⟨v1, v2, v3, v4, v5⟩, ⟨s1, s2, s3, s4, s5⟩⟩ := P3.cells HJ3)
        refine bodyPost_ret (v := .tuple #[.agg #[.slice none 0 0, .bool false], .bool false]) (by simp [results, Tryd.results44, go_sem, s1, s2, s3, s4]) rfl ⟨fun h => absurd (HN.out.symm.trans h) (by decide), fun _ => ⟨none, 0, rfl, RT.nil _ _ _ (by omega), ?_⟩⟩
        exact below_box (P3.b HJ3) (by omega) _ _
    · have HN : Hid (okOf nrwOk (xs.zip ys) = true) := Lib.hid (by
        have := HOK.out
        rwa [List.take_of_length_le (by rw [List.length_zip]; have := HLE.out; omega)] at this)
      have HM := Lib.hid HO.out
      rw [mz_full (by omega) HLE.out hk] at HM
      have HML := Lib.hid (mzAll_len HLE.out)
      have HRM : Hid (RT wr (some ⟨g, 0, none⟩) cap (mzAll xs ys)) := Lib.hid (by
        obtain ⟨A', c', e, hrt⟩ := HM.out.read
        obtain ⟨rfl, _, rfl⟩ := Value.slice.inj e
        exact hrt)
      cases r <;> cases t <;>
      · go_wp2_with fail
        first
        | refine bodyPost_ret (v := .tuple #[.agg #[.slice (some ⟨g, 0, none⟩) xs.length cap, .bool true], .bool true]) (by simp [results, Tryd.results44, go_sem, r1, r2, r3, r4]) rfl ⟨fun _ => ⟨some ⟨g, 0, none⟩, cap, by rw [HML.out]; rfl, ?_, ?_⟩, fun h => absurd (HN.out.symm.trans h) (by decide)⟩
        | refine bodyPost_ret (v := .tuple #[.agg #[.slice (some ⟨g, 0, none⟩) xs.length cap, .bool false], .bool true]) (by simp [results, Tryd.results44, go_sem, r1, r2, r3, r4]) rfl ⟨fun _ => ⟨some ⟨g, 0, none⟩, cap, by rw [HML.out]; rfl, ?_, ?_⟩, fun h => absurd (HN.out.symm.trans h) (by decide)⟩
        · exact HRM.out.box ⟨r1, r2, r3, r4, r5⟩ (slice_ns _ _ _) (bool_ns _) _ _
        · exact below_box (P3.b HJ) (by omega) _ _

set_option maxHeartbeats 4000000 in
theorem meet_swap (A B : Option Addr) (c d : Nat) (xs ys : List ByteArray) (r t : Bool) (w : World) (h : RT w A c xs) (k : RT w B d ys)
    (hsx : ∀ x ∈ xs, x.size ≤ 9223372036854775807) (hsy : ∀ x ∈ ys, x.size ≤ 9223372036854775807) (hn : checkP xs r = 0) (hm : checkP ys t = 0) (hco : compatB xs.length r ys.length t = true) (hlt0 : xs.length < ys.length) :
    Calls Tryd.prog 44 #[.agg #[.slice A xs.length c, .bool r], .agg #[.slice B ys.length d, .bool t]] w (RetMO w (mzAll ys xs) (r && t) (okOf nrwOk (ys.zip xs))) := by
  have HI := P3.enter h k r t 24
  have HCX := Lib.hid (fun W (h : RT W A c xs) => check_any A c xs r W h hsx)
  have HCY := Lib.hid (fun W (h : RT W B d ys) => check_any B d ys t W h hsy)
  have HCO := Lib.hid (compatible_any xs.length ys.length r t)
  rw [hn] at HCX
  rw [hm] at HCY
  rw [hco] at HCO
  have hx1 := h.1
  have hx2 := h.2.1
  have hy1 := k.1
  have hy2 := k.2.1
  have hx12 := (check_zero hn).2.1
  have hy12 := (check_zero hm).2.1
  have hx0 := (check_zero hn).1
  have hy0 := (check_zero hm).1
  clear h k hn hm hco
  have HLE : Hid (xs.length ≤ ys.length) := Lib.hid (by omega)
  have HSX := Lib.hid hsy
  have HSY := Lib.hid hsx
  have HCL := Lib.hid (fun W (h : RT W B d ys) => clone_any B d ys W h hy0 (by omega))
  clear hsx hsy
  go_enter Tryd.func44, Tryd.ntmps44
  go_wp2_with (first
    | (go_at_call_of 43 (Value.agg #[.slice A xs.length c, .bool r]); ((with_reducible refine (HCX.out _ (P3.x (HI.go (by repeat (first | exact Below.refl _ _ | apply Below.drew | apply below_drewN | apply below_al))))).mono ?_); rintro e w1 ⟨rfl, hb⟩); replace HI := HI.go2 (by repeat (first | exact Below.refl _ _ | apply Below.drew | apply below_drewN | apply below_al)) hb; clear hb; obtain ⟨⟨p1, p2, p3, p4, p5⟩, ⟨q1, q2, q3, q4, q5⟩, ⟨r1, r2, r3, r4, r5⟩⟩ := P3.cells HI)
    | (go_at_call_of 43 (Value.agg #[.slice B ys.length d, .bool t]); ((with_reducible refine (HCY.out _ (P3.y (HI.go (by repeat (first | exact Below.refl _ _ | apply Below.drew | apply below_drewN | apply below_al))))).mono ?_); rintro e w1 ⟨rfl, hb⟩); replace HI := HI.go2 (by repeat (first | exact Below.refl _ _ | apply Below.drew | apply below_drewN | apply below_al)) hb; clear hb; obtain ⟨⟨p1, p2, p3, p4, p5⟩, ⟨q1, q2, q3, q4, q5⟩, ⟨r1, r2, r3, r4, r5⟩⟩ := P3.cells HI)
    | (go_at_call 66; refine (HCO.out _).mono ?_; rintro e w' ⟨rfl, rfl⟩)
    | (go_at_call 62; refine (HCL.out _ (P3.x (P3.swap HI))).mono ?_; rintro e w3 ⟨g, cap, rfl, hoc, hb⟩; obtain ⟨wa, HI, hoc, hbc⟩ : ∃ wa, At (P3 w B d ys t A c xs r) wa ∧ OT w3 wa.heap.size (.slice (some ⟨g, 0, none⟩) ys.length cap) ys ∧ Below wa.heap.size wa w3 := ⟨_, (P3.swap HI), hoc, hb⟩; have HOC := Lib.hid hoc; have HBC := Lib.hid hbc; clear hoc hbc hb; obtain ⟨⟨p1, p2, p3, p4, p5⟩, ⟨q1, q2, q3, q4, q5⟩, ⟨r1, r2, r3, r4, r5⟩⟩ := P3.cells (HI.go HBC.out)))
  go_loopw [48] (fun i wr => ∃ k : Nat, k ≤ xs.length ∧ i = .int .i64 k ∧ Hid (OT wr wa.heap.size (.slice (some ⟨g, 0, none⟩) ys.length cap) (mz ys xs k)) ∧ Hid (okOf nrwOk ((ys.zip xs).take k) = true) ∧ Hid (Below wa.heap.size wa wr)) (fun i _ => xs.length - (intOf i).toNat)
  case atStart => exact ⟨0, Nat.zero_le _, rfl, Lib.hid (by rw [mz_zero]; exact HOC.out), Lib.hid rfl, HBC⟩
  case round =>
    obtain ⟨k, hk, rfl, HO, HOK, HBL⟩ := hrel
    have HJ := HI.go HBL.out
    have hsz := HBL.out.size
    obtain ⟨⟨p1, p2, p3, p4, p5⟩, ⟨q1, q2, q3, q4, q5⟩, ⟨r1, r2, r3, r4, r5⟩⟩ := P3.cells HJ
    by_cases hlt : k < xs.length
    · have hlu : k < ys.length := by have := HLE.out; omega
      obtain ⟨x, hx⟩ : ∃ x, ys[k]? = some x := ⟨_, List.getElem?_eq_getElem hlu⟩
      obtain ⟨y, hy⟩ : ∃ y, xs[k]? = some y := ⟨_, List.getElem?_eq_getElem hlt⟩
      obtain ⟨b2, o2, rfl, hb2, hc2⟩ := (P3.y HJ).2.2 (by omega)
      have hcy := hc2 k y hy
      obtain ⟨hcx, hfx, hg1, hg2, -, hcap, hcap2⟩ := HO.out.cell (mz_at hlt hx)
      have hxz := HSX.out x (List.mem_of_getElem? hx)
      have hyz := HSY.out y (List.mem_of_getElem? hy)
      have HZ := Lib.hid (zip_get hx hy)
      have HST := Lib.hid (mz_step hx hy)
      have HZX := Lib.hid hx
      have HKL : Hid (k < (mz ys xs k).length) := Lib.hid (by rw [mz_len hk HLE.out]; exact hlu)
      clear hc2 hx hy hb2
      cases hi : nrwOk x y with
      | true =>
        have HN := Lib.hid (ok_step (g := nrwOk) HZ.out HOK.out hi)
        go_wp2_with (go_at_call 67; refine (meetPart_any x y _ hxz hyz).mono ?_; rintro e w3 ⟨rfl, hb⟩; have HO3 := Lib.hid (HO.out.below hb); obtain ⟨hcx3, hfx3, -, hg3, -, -, -⟩ := HO3.out.cell (mz_at hlt HZX.out); have HBL3 := Lib.hid (HBL.out.trans (hb.mono HBL.out.size)); clear hb)
        go_roundw
        case rel => exact ⟨k + 1, by omega, by go_num, Lib.hid (by rw [← HST.out]; exact HO3.out.set HKL.out _), HN, Lib.hid (HBL3.out.setCell (p := ⟨g, k, none⟩) hg1 _)⟩
        case measure => simp [intOf]; omega
      | false =>
        have HN := Lib.hid (ok_miss (g := nrwOk) HZ.out hi)
        go_wp2_with (go_at_call 67; refine (meetPart_any x y _ hxz hyz).mono ?_; rintro e w3 ⟨rfl, hb⟩; have HJ3 := HJ.go hb; obtain ⟨⟨t1, t2, t3, t4, t5⟩, ⟨v1, v2, v3, v4, v5⟩, ⟨s1, s2, s3, s4, s5⟩⟩ := P3.cells HJ3)
        refine bodyPost_ret (v := .tuple #[.agg #[.slice none 0 0, .bool false], .bool false]) (by simp [results, Tryd.results44, go_sem, s1, s2, s3, s4]) rfl ⟨fun h => absurd (HN.out.symm.trans h) (by decide), fun _ => ⟨none, 0, rfl, RT.nil _ _ _ (by omega), ?_⟩⟩
        exact below_box (P3.b HJ3) (by omega) _ _
    · have HN : Hid (okOf nrwOk (ys.zip xs) = true) := Lib.hid (by
        have := HOK.out
        rwa [List.take_of_length_le (by rw [List.length_zip]; have := HLE.out; omega)] at this)
      have HM := Lib.hid HO.out
      rw [mz_full (by omega) HLE.out hk] at HM
      have HML := Lib.hid (mzAll_len HLE.out)
      have HRM : Hid (RT wr (some ⟨g, 0, none⟩) cap (mzAll ys xs)) := Lib.hid (by
        obtain ⟨A', c', e, hrt⟩ := HM.out.read
        obtain ⟨rfl, _, rfl⟩ := Value.slice.inj e
        exact hrt)
      cases r <;> cases t <;>
      · go_wp2_with fail
        first
        | refine bodyPost_ret (v := .tuple #[.agg #[.slice (some ⟨g, 0, none⟩) ys.length cap, .bool true], .bool true]) (by simp [results, Tryd.results44, go_sem, r1, r2, r3, r4]) rfl ⟨fun _ => ⟨some ⟨g, 0, none⟩, cap, by rw [HML.out]; rfl, ?_, ?_⟩, fun h => absurd (HN.out.symm.trans h) (by decide)⟩
        | refine bodyPost_ret (v := .tuple #[.agg #[.slice (some ⟨g, 0, none⟩) ys.length cap, .bool false], .bool true]) (by simp [results, Tryd.results44, go_sem, r1, r2, r3, r4]) rfl ⟨fun _ => ⟨some ⟨g, 0, none⟩, cap, by rw [HML.out]; rfl, ?_, ?_⟩, fun h => absurd (HN.out.symm.trans h) (by decide)⟩
        · exact HRM.out.box ⟨r1, r2, r3, r4, r5⟩ (slice_ns _ _ _) (bool_ns _) _ _
        · exact below_box (P3.b HJ) (by omega) _ _

theorem meet_any (A B : Option Addr) (c d : Nat) (xs ys : List ByteArray) (r t : Bool) (w : World) (h : RT w A c xs) (k : RT w B d ys)
    (hsx : ∀ x ∈ xs, x.size ≤ 9223372036854775807) (hsy : ∀ x ∈ ys, x.size ≤ 9223372036854775807) :
    Calls Tryd.prog 44 #[.agg #[.slice A xs.length c, .bool r], .agg #[.slice B ys.length d, .bool t]] w (RetMO w (meetL xs ys) (r && t) (meetOk xs ys r t)) := by
  unfold meetOk meetL
  cases hb : ((checkP xs r == 0) && (checkP ys t == 0) && compatB xs.length r ys.length t) with
  | false =>
    rw [Bool.false_and]
    exact (meet_chk A B c d xs ys r t w h k hsx hsy hb).mono fun _ _ h => ⟨fun e => (by cases e), fun _ => h⟩
  | true =>
    rw [Bool.true_and]
    rw [Bool.and_eq_true, Bool.and_eq_true, beq_iff_eq, beq_iff_eq] at hb
    by_cases hl : xs.length < ys.length
    · rw [if_pos hl, if_pos hl]
      exact meet_swap A B c d xs ys r t w h k hsx hsy hb.1.1 hb.1.2 hb.2 hl
    · rw [if_neg hl, if_neg hl]
      exact meet_noswap A B c d xs ys r t w h k hsx hsy hb.1.1 hb.1.2 hb.2 (by omega)
end Go.Proofs.YtidjmbmnfnnleaaDoor

