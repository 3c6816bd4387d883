/-
  Words for slices of texts, and the library's contracts in those words.
-/
import Derived.Test.YtofmngfmoagenaaDoorPw2
import Derived.SliceStrings
import Derived.OpenShut
import Derived.ProofKit
namespace Go.Proofs.YtofmngfmoagenaaDoor
set_option linter.unusedSimpArgs false
set_option linter.unusedVariables false
open Go.RowKit Go.ChangeShapes Go.WideShapes
open Pm

def mkB (l : List UInt8) : ByteArray := ⟨l.toArray⟩
theorem mkB_data (l : List UInt8) : (mkB l).data.toList = l := by simp [mkB]
theorem mkB_size (l : List UInt8) : (mkB l).size = l.length := by rw [Lib.size_eq, mkB_data]
theorem mkB_back (s : ByteArray) : mkB s.data.toList = s := Lib.mk_data s

/-- A slice of texts that lies in the world: address A, capacity c, the texts xs. -/
def RT (w : World) (A : Option Addr) (c : Nat) (xs : List ByteArray) : Prop :=
  xs.length ≤ c ∧ c ≤ 9223372036854775807 ∧ (0 < xs.length → ∃ b o, A = some ⟨b, o, none⟩ ∧ b < w.heap.size ∧ ∀ j x, xs[j]? = some x → w.cell? ⟨b, o + j, none⟩ = some (.string x))

theorem RT.nil (w : World) (A : Option Addr) (c : Nat) (h : c ≤ 9223372036854775807) : RT w A c [] := ⟨Nat.zero_le _, h, fun h => absurd h (Nat.lt_irrefl 0)⟩
theorem RT.below {w w' : World} {A : Option Addr} {c : Nat} {xs : List ByteArray} (h : RT w A c xs) (hb : Below w.heap.size w w') : RT w' A c xs :=
  ⟨h.1, h.2.1, fun h0 => by
    obtain ⟨b, o, e, hlt, hc⟩ := h.2.2 h0
    exact ⟨b, o, e, Nat.lt_of_lt_of_le hlt hb.size, fun j x hx => (hb.cell (p := ⟨b, o + j, none⟩) hlt).trans (hc j x hx)⟩⟩
theorem RT.take {w : World} {A : Option Addr} {c : Nat} {xs : List ByteArray} (h : RT w A c xs) (m : Nat) : RT w A c (xs.take m) :=
  ⟨by rw [List.length_take]; have := h.1; omega, h.2.1, fun h0 => by
    rw [List.length_take] at h0
    obtain ⟨b, o, e, hlt, hc⟩ := h.2.2 (by omega)
    refine ⟨b, o, e, hlt, fun j x hx => hc j x ?_⟩
    rw [List.getElem?_take] at hx
    split at hx
    · exact hx
    · cases hx⟩

/-- the library's variable MaxLen holds some number -/
def ML (w : World) : Prop := ∃ m, w.cell? ⟨0, 0, none⟩ = some (.int .i64 m)
theorem cell_lt {w : World} {p : Addr} {v : Value} (h : w.cell? p = some v) : p.block < w.heap.size := by
  rcases Nat.lt_or_ge p.block w.heap.size with h1 | h1
  · exact h1
  · exfalso
    have : w.heap[p.block]? = none := Array.getElem?_eq_none h1
    simp [World.cell?, this] at h
theorem ML.below {w w' : World} (h : ML w) (hb : Below w.heap.size w w') : ML w' := by
  obtain ⟨m, hm⟩ := h
  exact ⟨m, (hb.cell (p := ⟨0, 0, none⟩) (cell_lt hm)).trans hm⟩
theorem ML.of {w : World} (h : w.ShapedOpen Tryd.prog) : ML w := Tryd.laysM146.s1_3 w h

theorem cutPrefix_any (s p : ByteArray) (w : World) :
    Calls Tryd.prog 45 #[.string s, .string p] w fun e w' => e = .returned (.tuple #[.string (mkB (Lib.trimPrefix s.data.toList p.data.toList)), .bool (Lib.hasPrefix s.data.toList p.data.toList)]) ∧ w = w' :=
  (Tryd.strings_CutPrefix s p w).mono fun _ _ ⟨he, hw⟩ => ⟨he, hw.symm⟩
theorem indexByte_any (s : ByteArray) (c : Int) (w : World) :
    Calls Tryd.prog 81 #[.string s, .int .u8 c] w fun e w' => e = .returned (.int .i64 (Lib.indexByte s.data.toList c.toNat.toUInt8)) ∧ w = w' :=
  (Tryd.strings_IndexByte s c w).mono fun _ _ ⟨he, hw⟩ => ⟨he, hw.symm⟩
/-- the pieces between the slashes, as texts -/
def spB (l : List UInt8) : List ByteArray := (sp l).map mkB
theorem spB_pos (l : List UInt8) : 0 < (spB l).length := by
  unfold spB
  rw [List.length_map]
  exact List.length_pos_iff.2 (sp_ne l)
theorem bytes_inj {a b : List ByteArray} (h : a.map (·.data.toList) = b.map (·.data.toList)) : a = b := by
  have e : ∀ l : List ByteArray, (l.map (·.data.toList)).map mkB = l := fun l => by
    rw [List.map_map]
    conv => rhs; rw [← List.map_id l]
    exact List.map_congr_left fun x _ => mkB_back x
  rw [← e a, ← e b, h]
theorem splitB_eq (s : ByteArray) : Lib.splitB ⟨#[47]⟩ 0 (Lib.countB s ⟨#[47]⟩) s = spB s.data.toList := by
  refine bytes_inj ?_
  rw [Lib.splitB_data]
  show Lib.split s.data.toList [47] = _
  rw [split_eq]
  unfold spB
  rw [List.map_map]
  conv => lhs; rw [← List.map_id (sp s.data.toList)]
  exact List.map_congr_left fun x _ => (mkB_data x).symm
theorem count_eq (s : ByteArray) : Lib.countB s ⟨#[47]⟩ + 1 = (spB s.data.toList).length := by
  rw [← splitB_eq, Lib.splitB_all ⟨#[47]⟩ (by decide) 0 _ s rfl]

/-- a call hands back texts in new memory -/
def RetT (w : World) (xs : List ByteArray) (f : Value → Value) (e : Ending) (w' : World) : Prop :=
  ∃ A c, e = .returned (f (.slice A xs.length c)) ∧ RT w' A c xs ∧ Below w.heap.size w w'

theorem split_any (s : ByteArray) (w : World) (hs : s.size ≤ 1000000) (hm : ML w) :
    Calls Tryd.prog 47 #[.string s, .string ⟨#[47]⟩] w (RetT w (spB s.data.toList) id) := by
  obtain ⟨m, hm⟩ := hm
  refine (Tryd.strings_Split s ⟨#[47]⟩ m w (by omega) hm (by decide)).mono fun e w' ⟨he, hw⟩ => ?_
  have hc := Lib.countB_le ⟨#[47]⟩ (by decide) _ s (Nat.le_refl _)
  rw [splitB_eq] at hw
  rw [count_eq] at he
  have hn := count_eq s
  refine ⟨_, _, he, ⟨Nat.le_refl _, by omega, fun _ => ⟨w.heap.size, 0, rfl, ?_, fun j x hx => ?_⟩⟩, ?_⟩
  · rw [hw]; simp
  · rw [hw]
    have : (⟨w.heap.size, 0 + j, none⟩ : Addr) = ⟨w.heap.size, j, none⟩ := by simp
    rw [this]
    simp [World.cell?_alloc_new, List.getElem?_map, hx]
  · rw [hw]
    exact (Below.refl _ _).alloc (Nat.le_refl _) _

theorem join_any (A : Option Addr) (c : Nat) (xs : List ByteArray) (sep : ByteArray) (w : World) (h : RT w A c xs) (hN : xs.length ≤ 100000) (hlen : (Lib.join (xs.map (·.data.toList)) sep.data.toList).length ≤ 100000000) :
    Calls Tryd.prog 52 #[.slice A xs.length c, .string sep] w fun e w' => e = .returned (.string (mkB (Lib.join (xs.map (·.data.toList)) sep.data.toList))) ∧ Below w.heap.size w w' := by
  by_cases h0 : 0 < xs.length
  · obtain ⟨b, o, rfl, hb, hc⟩ := h.2.2 h0
    exact Tryd.strings_Join b o c xs sep w hc hb (by omega) h.1 (by omega)
  · have : xs = [] := List.eq_nil_of_length_eq_zero (by omega)
    subst this
    exact (Tryd.strings_Join_none A c sep w).mono fun e w' ⟨he, hw⟩ => ⟨he, hw ▸ Below.refl _ _⟩

theorem getD_cells {xs : List ByteArray} {w : World} {b o : Nat} (h : ∀ j x, xs[j]? = some x → w.cell? ⟨b, o + j, none⟩ = some (.string x)) :
    ∀ j, j < xs.length → w.cell? ⟨b, o + j, none⟩ = some (.string (xs.getD j ByteArray.empty)) := fun j hj => by
  refine h j _ ?_
  rw [List.getD, List.getElem?_eq_getElem hj]
  rfl
theorem below_drewN' (w : World) (n : Nat) : Below w.heap.size w (w.drewN n) := below_drewN (Below.refl _ _) n
end Go.Proofs.YtofmngfmoagenaaDoor

