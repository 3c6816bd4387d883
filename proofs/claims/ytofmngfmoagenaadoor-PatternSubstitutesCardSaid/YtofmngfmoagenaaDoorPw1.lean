/-
  The walks of IsByte, Component and Valid: what they return; the world is as it was.
-/
import Derived.Test.YtofmngfmoagenaaDoorProg
import Derived.Test.YtofmngfmoagenaaDoorPm
import Derived.Test.YtofmngfmoagenaaDoorShelf
import Derived.WalkKit
import Derived.WalkSpells
import Derived.WalkLawsBesides
import Derived.Deep.QuietTactic
import Derived.BigQuiet
import Derived.Outline
import Derived.Lib.Hide
namespace Go.Proofs.YtofmngfmoagenaaDoor
set_option linter.unusedSimpArgs false
set_option linter.unusedVariables false
open Go.RowKit
open Pm

theorem ret_bool {a b : Bool} (h : a = b) : Ending.returned (.bool a) = .returned (.bool b) := by rw [h]
theorem ret_int {k : IntKind} {a b : Int} (h : a = b) : Ending.returned (.int k a) = .returned (.int k b) := by rw [h]

theorem isByte_any (n : Int) (w : World) :
    Calls Tryd.prog 82 #[.int .u8 n] w fun e w' => e = .returned (.bool (isBI n)) ∧ w = w' := by
  go_enter Tryd.func82, Tryd.ntmps82
  go_wp2
  all_goals go_ret
  all_goals refine ⟨ret_bool ?_, rfl⟩
  all_goals (rw [Bool.eq_iff_iff]; simp [isBI]; try omega)

theorem comp_step (s : ByteArray) (k : Nat) (h : k < s.size) :
    (s.data.toList.take (k + 1)).all isB = ((s.data.toList.take k).all isB && isBI (s[k].toNat : Int)) := by
  rw [List.take_succ_eq_append_getElem (by simpa using h), List.all_append]
  simp [isB]
  rfl
theorem comp_ne {s : ByteArray} (h0 : 0 < s.size) (h : ¬ (s[0].toNat : Int) = 46) : comp s.data.toList = (s.data.toList).all isB := by
  have e : s.data.toList = s[0] :: s.data.toList.tail := by
    obtain ⟨⟨l⟩⟩ := s
    cases l with
    | nil => exact absurd h0 (Nat.lt_irrefl 0)
    | cons c l => rfl
  rw [e]
  have : (s[0] == 46) = false := by
    rw [beq_eq_false_iff_ne]
    intro e
    rw [e] at h
    exact h rfl
  simp [comp, this]
theorem comp_dot {s : ByteArray} (h0 : 0 < s.size) (h : (s[0].toNat : Int) = 46) : comp s.data.toList = false := by
  have e : s.data.toList = s[0] :: s.data.toList.tail := by
    obtain ⟨⟨l⟩⟩ := s
    cases l with
    | nil => exact absurd h0 (Nat.lt_irrefl 0)
    | cons c l => rfl
  rw [e]
  have : s[0] = 46 := UInt8.toNat_inj.1 (by simpa using (by omega : s[0].toNat = 46))
  simp [comp, this]

theorem bytes_nil {s : ByteArray} (h0 : s.size = 0) : s.data.toList = [] := by
  rw [Lib.size_eq] at h0
  exact List.eq_nil_of_length_eq_zero h0
theorem bytes_ne {s : ByteArray} (h0 : 0 < s.size) : s.toList.isEmpty = false := by
  rw [Lib.toList_data]
  rw [Lib.size_eq] at h0
  cases h : s.data.toList with
  | nil => rw [h] at h0; exact absurd h0 (Nat.lt_irrefl 0)
  | cons c l => rfl

set_option maxHeartbeats 400000 in
theorem component_any (s : ByteArray) (w : World) (hs : s.size ≤ 9223372036854775807) :
    Calls Tryd.prog 63 #[.string s] w fun e w' => e = .returned (.bool (comp s.data.toList)) ∧ w = w' := by
  by_cases h0 : s.size = 0
  · have hl := bytes_nil h0
    have he : s.toList = [] := by rw [Lib.toList_data, hl]
    go_enter Tryd.func63, Tryd.ntmps63
    go_wp2_with fail
    go_ret
    rw [hl]
    exact ⟨rfl, rfl⟩
  have hpos : 0 < s.size := by omega
  have hne := bytes_ne hpos
  clear h0
  by_cases hd : (s[0].toNat : Int) = 46
  · have HC := Lib.hid (comp_dot hpos hd)
    go_enter Tryd.func63, Tryd.ntmps63
    go_wp2_with fail
    go_ret
    exact ⟨ret_bool HC.out.symm, rfl⟩
  · have HC := Lib.hid (comp_ne hpos hd)
    have hdb : ((s[0].toNat : Int) == 46) = false := by rw [beq_eq_false_iff_ne]; exact hd
    clear hd
    go_enter Tryd.func63, Tryd.ntmps63
    go_wp2_with fail
    go_loop [13] (fun i => ∃ k : Nat, k ≤ s.size ∧ i = .int .i64 k ∧ Hid ((s.data.toList.take k).all isB = true)) (fun i => s.size - (intOf i).toNat)
    case atStart => exact ⟨0, Nat.zero_le _, rfl, Lib.hid (by simp)⟩
    case round =>
      obtain ⟨k, hk, rfl, HA⟩ := hrel
      by_cases hlt : k < s.size
      · have HS := Lib.hid (comp_step s k hlt)
        by_cases hb : isBI (s[k].toNat : Int) = true
        · go_wp2_with (go_at_call 82; refine (isByte_any _ _).mono ?_; rintro e w' ⟨rfl, rfl⟩)
          go_round
          case rel => exact ⟨k + 1, by omega, by go_num, Lib.hid (by rw [HS.out, HA.out, hb]; rfl)⟩
          case measure => simp [intOf]; omega
        · have hb' : isBI (s[k].toNat : Int) = false := by simpa using hb
          clear hb
          go_wp2_with (go_at_call 82; refine (isByte_any _ _).mono ?_; rintro e w' ⟨rfl, rfl⟩)
          go_ret
          refine ⟨ret_bool ?_, rfl⟩
          rw [HC.out]
          symm
          rw [Bool.eq_false_iff]
          intro h
          rw [List.all_eq_true] at h
          have := h s[k] (List.mem_of_getElem? (Lib.data_getElem? s k hlt))
          rw [isB, hb'] at this
          cases this
      · go_wp2_with fail
        go_ret
        refine ⟨ret_bool ?_, rfl⟩
        rw [HC.out, ← HA.out, List.take_of_length_le (by rw [← Lib.size_eq]; omega)]

/-- what the loop of Valid knows: so many components are read, the next one begins at b, and up to i it has no slash -/
def VI (l : List UInt8) (c b i : Nat) : Prop :=
  ∃ done : List (List UInt8), done.length = c ∧ done.all comp = true ∧
    ((i ≤ l.length ∧ b ≤ i ∧ (47 : UInt8) ∉ (l.drop b).take (i - b) ∧ sp (l.drop 2) = done ++ sp (l.drop b)) ∨ (i = l.length + 1 ∧ sp (l.drop 2) = done))

theorem prefix_len {l : List UInt8} (h : Lib.hasPrefix l [47, 47] = true) : 2 ≤ l.length := by
  unfold Lib.hasPrefix at h
  have := (List.isPrefixOf_iff_prefix.1 h).length_le
  simpa using this
theorem vi_start {l : List UInt8} (h : Lib.hasPrefix l [47, 47] = true) : VI l 0 2 2 :=
  ⟨[], rfl, rfl, .inl ⟨prefix_len h, Nat.le_refl _, by simp, by simp⟩⟩
theorem vi_next {l : List UInt8} {c b i : Nat} {x : UInt8} (h : VI l c b i) (hi : i < l.length) (hx : l[i]? = some x) (hne : x ≠ 47) : VI l c b (i + 1) := by
  obtain ⟨done, h1, h2, h3⟩ := h
  refine ⟨done, h1, h2, ?_⟩
  rcases h3 with ⟨h4, h5, h6, h7⟩ | ⟨h4, _⟩
  · refine .inl ⟨by omega, by omega, ?_, h7⟩
    rw [show i + 1 - b = (i - b) + 1 by omega, List.take_add_one]
    intro hm
    rcases List.mem_append.1 hm with hm | hm
    · exact h6 hm
    · rw [List.getElem?_drop, show b + (i - b) = i by omega, hx] at hm
      simp at hm
      exact hne hm.symm
  · omega
theorem vi_cut {l : List UInt8} {b i : Nat} (hb : b ≤ i) (hi : i ≤ l.length) (h6 : (47 : UInt8) ∉ (l.drop b).take (i - b)) (hs : i < l.length → l[i]? = some 47) :
    sp (l.drop b) = ((l.drop b).take (i - b)) :: (if i < l.length then sp (l.drop (i + 1)) else []) := by
  by_cases hlt : i < l.length
  · have e : l.drop b = (l.drop b).take (i - b) ++ 47 :: l.drop (i + 1) := by
      have h1 : l.drop i = 47 :: l.drop (i + 1) := by
        rw [List.drop_eq_getElem_cons hlt]
        congr 1
        have := hs hlt
        rw [List.getElem?_eq_getElem hlt] at this
        exact Option.some.inj this
      rw [← h1]
      conv => lhs; rw [← List.take_append_drop (i - b) (l.drop b)]
      rw [List.drop_drop, show b + (i - b) = i by omega]
    rw [if_pos hlt]
    conv => lhs; rw [e]
    exact sp_piece _ _ h6
  · have e : (l.drop b).take (i - b) = l.drop b := List.take_of_length_le (by rw [List.length_drop]; omega)
    rw [if_neg hlt, e]
    rw [e] at h6
    exact sp_last _ h6
theorem vi_piece {l : List UInt8} {c b i : Nat} (h : VI l c b i) (hi : i ≤ l.length) (hs : i < l.length → l[i]? = some 47) (hc : comp ((l.drop b).take (i - b)) = true) : VI l (c + 1) (i + 1) (i + 1) := by
  obtain ⟨done, h1, h2, h3⟩ := h
  rcases h3 with ⟨h4, h5, h6, h7⟩ | ⟨h4, _⟩
  · refine ⟨done ++ [(l.drop b).take (i - b)], by simp [h1], by simp [h2, hc], ?_⟩
    rw [vi_cut h5 hi h6 hs] at h7
    by_cases hlt : i < l.length
    · rw [if_pos hlt] at h7
      exact .inl ⟨by omega, Nat.le_refl _, by simp, by rw [h7]; simp⟩
    · rw [if_neg hlt] at h7
      exact .inr ⟨by omega, h7⟩
  · omega
theorem vi_bad {l : List UInt8} {c b i : Nat} (h : VI l c b i) (hi : i ≤ l.length) (hs : i < l.length → l[i]? = some 47) (hc : comp ((l.drop b).take (i - b)) = false) : pathOk l = false := by
  obtain ⟨done, h1, h2, h3⟩ := h
  rcases h3 with ⟨h4, h5, h6, h7⟩ | ⟨h4, _⟩
  · rw [vi_cut h5 hi h6 hs] at h7
    simp [pathOk, dirOk, h7, hc]
  · omega
theorem vi_end {l : List UInt8} {c b i : Nat} (h : VI l c b i) (hp : Lib.hasPrefix l [47, 47] = true) (hi : ¬ i ≤ l.length) : pathOk l = decide (2 ≤ c) := by
  obtain ⟨done, h1, h2, h3⟩ := h
  rcases h3 with ⟨h4, h5, h6, h7⟩ | ⟨h4, h7⟩
  · omega
  · simp [pathOk, dirOk, h7, hp, h1]
    intro _ x hx
    exact List.all_eq_true.1 h2 x hx
theorem not_prefix {l : List UInt8} (h : Lib.hasPrefix l [47, 47] = false) : pathOk l = false := by simp [pathOk, dirOk, h]

theorem hasPrefix_any (s p : ByteArray) (w : World) :
    Calls Tryd.prog 48 #[.string s, .string p] w fun e w' => e = .returned (.bool (Lib.hasPrefix s.data.toList p.data.toList)) ∧ w = w' :=
  (Tryd.strings_HasPrefix s p w).mono fun _ _ ⟨he, hw⟩ => ⟨he, hw.symm⟩

theorem piece_eq (s : ByteArray) (b i : Nat) : (s.extract b i).data.toList = (s.data.toList.drop b).take (i - b) := Lib.extract_data s b i
theorem piece_size (s : ByteArray) (b i : Nat) : (s.extract b i).size ≤ s.size := by
  rw [Lib.size_eq, Lib.size_eq, piece_eq, List.length_take, List.length_drop]; omega
theorem at_slash {s : ByteArray} {i : Nat} (h : i < s.size) (e : ((s[i].toNat : Int) != 47) = false) : s.data.toList[i]? = some 47 := by
  rw [Lib.data_getElem? s i h]
  have : s[i].toNat = 47 := by
    have e2 : (s[i].toNat : Int) = 47 := by simpa using e
    omega
  congr 1
  exact UInt8.toNat_inj.1 this
theorem at_slash_back {s : ByteArray} {i : Nat} (h : i < s.size) (e : s.data.toList[i]? = some 47) : ((s[i].toNat : Int) != 47) = false := by
  rw [Lib.data_getElem? s i h] at e
  rw [Option.some.inj e]
  decide
theorem not_slash {s : ByteArray} {i : Nat} (h : i < s.size) (e : ((s[i].toNat : Int) != 47) = true) : s[i] ≠ 47 := by
  intro e2
  rw [e2] at e
  exact absurd e (by decide)

end Go.Proofs.YtofmngfmoagenaaDoor

