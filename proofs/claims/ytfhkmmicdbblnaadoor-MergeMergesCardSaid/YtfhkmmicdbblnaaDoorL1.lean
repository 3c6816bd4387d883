/-
  The walk of the program's Lines.
-/
import Derived.Test.YtfhkmmicdbblnaaDoorM3
import Derived.Test.YtfhkmmicdbblnaaDoorME
namespace Go.Proofs.YtfhkmmicdbblnaaDoor
set_option linter.unusedSimpArgs false
set_option linter.unusedVariables false
open Go.RowKit

/-- the lines of a text -/
def lB (s : ByteArray) : List ByteArray := (lns s.data.toList).map mkB
theorem lB_len (s : ByteArray) : (lB s).length ≤ s.size := by
  unfold lB
  rw [List.length_map, Lib.size_eq]
  exact lns_len _
theorem lB_nil {s : ByteArray} (h : ¬ 0 < s.size) : lB s = [] := by
  unfold lB
  rw [bytes_nil (by omega)]
  rfl
theorem lB_data (s : ByteArray) : (lB s).map (·.data.toList) = lns s.data.toList := by
  unfold lB
  rw [List.map_map]
  conv => rhs; rw [← List.map_id (lns s.data.toList)]
  exact List.map_congr_left fun x _ => mkB_data x
theorem lB_cut (t : ByteArray) (h : 0 < t.size) : ∃ e, 0 < e ∧ e ≤ t.size ∧ lB t = t.extract 0 e :: lB (t.extract e t.size) ∧ (Lib.indexByte t.data.toList 10 = -1 → e = t.size) ∧ (Lib.indexByte t.data.toList 10 ≠ -1 → Lib.indexByte t.data.toList 10 = (e : Int) - 1) := by
  have hn : t.data.toList ≠ [] := by
    intro e
    rw [Lib.size_eq, e] at h
    exact Nat.lt_irrefl 0 h
  obtain ⟨e, h1, h2, h3, h4, h5⟩ := lns_cut t.data.toList hn
  rw [← Lib.size_eq] at h2 h4
  refine ⟨e, h1, h2, ?_, h4, fun hh => by have := h5 hh; omega⟩
  unfold lB
  rw [h3, List.map_cons, piece_eq t e t.size]
  congr 1
  · rw [← mkB_back (t.extract 0 e), piece_eq, List.drop_zero, Nat.sub_zero]
  · rw [List.take_of_length_le (by rw [List.length_drop, ← Lib.size_eq]; exact Nat.le_refl _)]
/-- a call hands back texts in a row of new memory -/
def RetO (w : World) (xs : List ByteArray) (f : Value → Value) (e : Ending) (w' : World) : Prop :=
  ∃ A c, e = .returned (f (.slice A xs.length c)) ∧ OT w' w.heap.size (.slice A xs.length c) xs ∧ Below w.heap.size w w'
theorem OT.rt {w : World} {base : Nat} {A : Option Addr} {n c : Nat} {xs : List ByteArray} (h : OT w base (.slice A n c) xs) : n = xs.length ∧ RT w A c xs := by
  obtain ⟨A', c', e, hr⟩ := h.read
  cases e
  exact ⟨rfl, hr⟩
theorem OT.newA {w : World} {base : Nat} {A : Option Addr} {n c : Nat} {xs : List ByteArray} (h : OT w base (.slice A n c) xs) : ∀ p, A = some p → base ≤ p.block := by
  rintro p rfl
  rcases h.2 with ⟨e, _⟩ | ⟨g, cap, cur, e, hbg, _⟩
  · cases e
  · cases e; exact hbg
def strLen : Value → Nat
  | .string b => b.size
  | _ => 0

set_option maxHeartbeats 1000000 in
theorem lines_any (s : ByteArray) (w : World) (hs : s.size ≤ 100000) :
    Calls Tryd.prog 12 #[.string s] w (RetO w (lB s) id) := by
  have HLL := Lib.hid (lB_len s)
  have HS : Hid (s.size ≤ 100000) := Lib.hid hs
  obtain ⟨L, hL⟩ : ∃ L, L = lB s := ⟨_, rfl⟩
  have HST : Hid (L = [] ++ lB s) := Lib.hid hL
  rw [← hL] at HLL ⊢
  clear hL
  go_enter Tryd.func12, Tryd.ntmps12
  go_wp2_with fail
  go_loopw [0, 3] (fun t v wr => ∃ (tt : ByteArray) (ds : List ByteArray), t = .string tt ∧ tt.size ≤ 100000 ∧ Hid (L = ds ++ lB tt) ∧ Hid (OT wr w.heap.size v ds) ∧ Hid (Below w.heap.size w wr)) (fun t _ _ => strLen t)
  case atStart => exact ⟨s, [], rfl, HS.out, HST, Lib.hid (OT.nil _ _), Lib.hid (Below.refl _ _)⟩
  case round =>
    obtain ⟨tt, ds, rfl, hsz, HL, HO, HB⟩ := hrel
    have hbs := HB.out.size
    by_cases h0 : 0 < tt.size
    · obtain ⟨e, e1, e2, e3, e4, e5⟩ := lB_cut tt h0
      have HE3 := Lib.hid e3
      have HN := Lib.hid (show L = (ds ++ [tt.extract 0 e]) ++ lB (tt.extract e tt.size) by rw [HL.out, e3, List.append_assoc]; rfl)
      have HDN : Hid (ds.length ≤ 100000) := Lib.hid (by
        have a1 := HLL.out
        have a2 := HS.out
        rw [HL.out, List.length_append] at a1
        omega)
      have hne := bytes_ne h0
      have hpz : (tt.extract e tt.size).size = tt.size - e := by
        rw [Lib.size_eq, piece_eq, List.length_take, List.length_drop, ← Lib.size_eq]; omega
      have HPZ := Lib.hid hpz
      clear hpz e3
      by_cases hi : Lib.indexByte tt.data.toList 10 = -1
      · have HIX := Lib.hid (fun W => indexByte_any tt 10 W)
        rw [show ((10 : Int).toNat.toUInt8) = (10 : UInt8) from rfl, hi] at HIX
        obtain rfl := e4 hi
        have hall : tt.extract 0 tt.size = tt := by rw [← mkB_back (tt.extract 0 tt.size), piece_eq, List.drop_zero, Nat.sub_zero, List.take_of_length_le (by rw [Lib.size_eq]; exact Nat.le_refl _), mkB_back]
        have HN2 : Hid (∀ z, z = tt.extract tt.size tt.size → L = (ds ++ [tt]) ++ lB z ∧ z.size = 0) := Lib.hid (fun z hz => by subst hz; exact ⟨by have := HN.out; rw [hall] at this; exact this, by have := HPZ.out; omega⟩)
        clear hi e4 e5 hall HN HPZ HE3
        go_wp2_with (first
          | (go_at_call 30; refine (HIX.out _).mono ?_; rintro e w' ⟨rfl, rfl⟩)
          | (at_builtin; refine wpList_append_texts rfl _ _ rfl w.heap.size _ _ [tt] _ 1 rfl rfl (HO.out.below (below_alloc _ _)) (RT.one1 (by simp)) (by have := HDN.out; simp only [List.length_singleton]; omega) (by simp; omega) ?_; intro v1 w3 hown hg _; have HB3 := Lib.hid ((HB.out.alloc hbs _).grown hg (by simp; omega) (fun k hk => HO.out.own k hk)); have HOW := Lib.hid hown; clear hown hg))
        go_roundw
        case rel => exact ⟨_, _, rfl, by rw [(HN2.out _ (by simp)).2]; omega, Lib.hid (HN2.out _ (by simp)).1, HOW, HB3⟩
        case measure => have := (HN2.out _ rfl).2; simp [strLen]; omega
      · have HIX := Lib.hid (fun W => indexByte_any tt 10 W)
        rw [show ((10 : Int).toNat.toUInt8) = (10 : UInt8) from rfl, e5 hi] at HIX
        have hee : ((e : Int) == 0) = false := by rw [beq_eq_false_iff_ne]; omega
        clear hi e4 e5
        go_wp2_with (first
          | (go_at_call 30; refine (HIX.out _).mono ?_; rintro e w' ⟨rfl, rfl⟩)
          | (at_builtin; refine wpList_append_texts rfl _ _ rfl w.heap.size _ _ [tt.extract 0 e] _ 1 rfl rfl (HO.out.below (below_alloc _ _)) (RT.one1 (by simp)) (by have := HDN.out; simp only [List.length_singleton]; omega) (by simp; omega) ?_; intro v1 w3 hown hg _; have HB3 := Lib.hid ((HB.out.alloc hbs _).grown hg (by simp; omega) (fun k hk => HO.out.own k hk)); have HOW := Lib.hid hown; clear hown hg))
        go_roundw
        case rel => exact ⟨_, _, rfl, by have := HPZ.out; omega, HN, HOW, HB3⟩
        case measure => have := HPZ.out; simp only [strLen]; omega
    · have he := lB_nil h0
      have hdd : L = ds := by rw [HL.out, he, List.append_nil]
      subst hdd
      have hem : tt.toList.isEmpty = true := by rw [Lib.toList_data, bytes_nil (by omega)]; rfl
      obtain ⟨A', c', rfl, _⟩ := HO.out.read
      clear he HL HST h0
      go_wp2_with fail
      go_ret
      exact ⟨A', c', rfl, HO.out, HB.out⟩
end Go.Proofs.YtfhkmmicdbblnaaDoor

