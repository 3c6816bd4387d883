/-
  The script between two texts makes the one of the other.
-/
import Derived.Test.YtfhkmmicdbblnaaL9
namespace Go.Proofs.Ytfhkmmicdbblnaa
set_option linter.unusedSimpArgs false
set_option linter.unusedVariables false
open Go.RowKit

theorem diffT_few {a b : ByteArray} (h : fewB [a, b] = true) : diffT a b = diffL (lB a) (lB b) := by
  unfold diffT
  rw [if_pos h]
theorem nat_cast (hs : List (Nat × Nat × List ByteArray)) : natH (hs.map castH) = hs := nat_back hs
theorem lB_line {s x : ByteArray} (h : x ∈ lB s) : lnB x = true := by
  unfold lB at h
  obtain ⟨l, hl, rfl⟩ := List.mem_map.1 h
  unfold lnB
  rw [mkB_data]
  exact lns_line _ _ hl
theorem lB_nl (s : ByteArray) : nlT (lB s) = true := by
  have h := lns_ok s.data.toList
  rw [lines_nl, Bool.and_eq_true] at h
  unfold nlT
  rw [show (lB s).map dT = lns s.data.toList from lB_data s]
  exact h.2
theorem diff_mem {a b : List ByteArray} {h : Nat × Nat × List ByteArray} (hh : h ∈ diffL a b) {x : ByteArray} (hx : x ∈ h.2.2) : x ∈ b := by
  have := mem_apl a (diffL a b) 0 h hh x hx
  rwa [(diff_back a b).1] at this
theorem diff_apR {a b : ByteArray} (h : fewB [a, b] = true) : apR a ((diffT a b).map castH) = lB b := by
  unfold apR
  rw [nat_cast, diffT_few h]
  exact (diff_back _ _).1
theorem diff_scB {a b : ByteArray} (h : fewB [a, b] = true) : scB (lB a).length ((diffT a b).map castH) (-1) = true := by
  unfold scB
  rw [diffT_few h, Bool.and_eq_true]
  refine ⟨scrI_of (m := 0) (by omega) (diff_back _ _).2.1, List.all_eq_true.2 fun g hg => List.all_eq_true.2 fun x hx => ?_⟩
  obtain ⟨g', hg', rfl⟩ := List.mem_map.1 hg
  exact lB_line (diff_mem hg' hx)
theorem apply_diff {a b : ByteArray} (h : fewB [a, b] = true) : apS a ((diffT a b).map castH) = b ∧ apE a ((diffT a b).map castH) = 0 := by
  obtain ⟨h1, h2⟩ := ap_good (a := a) (hs := (diffT a b).map castH) (by
    unfold apOk
    rw [diff_scB h, diff_apR h, lB_nl]
    rfl)
  rw [h1, h2, diff_apR h, cat_lB]
  exact ⟨rfl, rfl⟩
theorem lB_inj {a b : ByteArray} (h : lB a = lB b) : a = b := by rw [← cat_lB a, ← cat_lB b, h]
theorem diffT_nil {a b : ByteArray} (h : fewB [a, b] = true) : (diffT a b).length = 0 ↔ a = b := by
  rw [diffT_few h, List.length_eq_zero_iff, diff_nil]
  exact ⟨lB_inj, fun e => by rw [e]⟩
theorem diffT_bad {a b : ByteArray} (h : fewB [a, b] = false) : diffT a b = [] := by
  unfold diffT
  rw [h]
  rfl
theorem few_left {a b : ByteArray} (h : fewB [a, b] = true) : fewB [a, a] = true := by
  have := few2 h
  unfold fewB
  simp [this.1]
theorem diffT_self (a : ByteArray) : diffT a a = [] := by
  unfold diffT
  split
  · exact diff_self _
  · rfl
theorem applyN_any (a : ByteArray) (A : Option Addr) (c : Nat) (hs : List (Nat × Nat × List ByteArray)) (w : World) (ha : a.size ≤ 100000) (h : RF w A c 3 (hs.map hkF)) (hz : ∀ h ∈ hs, ∀ x ∈ h.2.2, x.size ≤ 100000)
    (hr : (apl (lB a) hs 0).length ≤ 100000 ∧ (catB (apl (lB a) hs 0)).size ≤ 100000000 ∧ ∀ x ∈ apl (lB a) hs 0, x.size ≤ 100000) :
    Calls Try.prog 18 #[.string a, .slice A hs.length c] w (RetS w (apS a (hs.map castH)) (apE a (hs.map castH))) := by
  have := apply_any a A c (hs.map castH) w ha (by rw [← cast_hk]; exact h) (by
    intro g hg x hx
    obtain ⟨g', hg', rfl⟩ := List.mem_map.1 hg
    exact hz g' hg' x hx) (by
    intro _
    unfold apR
    rw [nat_cast]
    exact hr)
  rw [List.length_map] at this
  exact this
theorem applyD_any (a b : ByteArray) (A : Option Addr) (c : Nat) (w : World) (ha : a.size ≤ 100000) (hb : b.size ≤ 100000) (hf : fewB [a, b] = true) (h : RF w A c 3 ((diffT a b).map hkF)) :
    Calls Try.prog 18 #[.string a, .slice A (diffT a b).length c] w (RetS w b 0) := by
  have e : apl (lB a) (diffT a b) 0 = lB b := by rw [diffT_few hf]; exact (diff_back _ _).1
  have := applyN_any a A c (diffT a b) w ha h (by
    intro g hg x hx
    rw [diffT_few hf] at hg
    have := lB_size (diff_mem hg hx)
    omega) (by
    rw [e, cat_lB]
    have := lB_len b
    exact ⟨by omega, by omega, fun x hx => by have := lB_size hx; omega⟩)
  rw [(apply_diff hf).1, (apply_diff hf).2] at this
  exact this
end Go.Proofs.Ytfhkmmicdbblnaa

