/-
  The walks of components, Split, and the reference's Component, Parts and Path.
-/
import Derived.Test.YtofmngfmoagenaaDoorPl
namespace Go.Proofs.YtofmngfmoagenaaDoor
set_option linter.unusedSimpArgs false
set_option linter.unusedVariables false
open Go.RowKit
open Pm

def letters : List UInt8 := [65, 66, 67, 68, 69, 70, 71, 72, 73, 74, 75, 76, 77, 78, 79, 80, 81, 82, 83, 84, 85, 86, 87, 88, 89, 90, 97, 98, 99, 100, 101, 102, 103, 104, 105, 106, 107, 108, 109, 110, 111, 112, 113, 114, 115, 116, 117, 118, 119, 120, 121, 122, 48, 49, 50, 51, 52, 53, 54, 55, 56, 57, 95, 46, 43, 45]
def letIdx (x : UInt8) : Int := Lib.indexByte letters x
theorem letIdx_all : (List.range 256).all (fun n => decide (letIdx n.toUInt8 < 0) == !isB n.toUInt8) = true := by decide +kernel
theorem letIdx_eq (x : UInt8) : decide (letIdx x < 0) = !isB x := by
  have h := List.all_eq_true.1 letIdx_all x.toNat (List.mem_range.2 x.toNat_lt)
  have e : x.toNat.toUInt8 = x := by simp
  rw [e] at h
  exact beq_iff_eq.1 h
theorem letIdx_lo (x : UInt8) : -1 ≤ letIdx x := Lib.indexByte_ge _ _
theorem letters_any (s : ByteArray) (hs : s.data.toList = letters) (x : UInt8) (w : World) :
    Calls Tryd.prog 81 #[.string s, .int .u8 (x.toNat : Int)] w fun e w' => e = .returned (.int .i64 (letIdx x)) ∧ w = w' := by
  have := indexByte_any s (x.toNat : Int) w
  rw [Lib.byte_back, hs] at this
  exact this

set_option maxHeartbeats 400000 in
theorem rcomponent_any (s : ByteArray) (w : World) (hs : s.size ≤ 9223372036854775807) :
    Calls Tryd.prog 57 #[.string s] w fun e w' => e = .returned (.bool (comp s.data.toList)) ∧ w = w' := by
  by_cases h0 : s.size = 0
  · have hl := bytes_nil h0
    have he : s.toList = [] := by rw [Lib.toList_data, hl]
    go_enter Tryd.func57, Tryd.ntmps57
    go_wp2_with fail
    go_ret
    rw [hl]
    exact ⟨rfl, rfl⟩
  have hpos : 0 < s.size := by omega
  have hne := bytes_ne hpos
  clear h0
  by_cases hd : (s[0].toNat : Int) = 46
  · have HC := Lib.hid (comp_dot hpos hd)
    go_enter Tryd.func57, Tryd.ntmps57
    go_wp2_with fail
    go_ret
    exact ⟨ret_bool HC.out.symm, rfl⟩
  · have HC := Lib.hid (comp_ne hpos hd)
    have hdb : ((s[0].toNat : Int) == 46) = false := by rw [beq_eq_false_iff_ne]; exact hd
    clear hd
    go_enter Tryd.func57, Tryd.ntmps57
    go_wp2_with fail
    go_loop [3] (fun i => ∃ k : Nat, k ≤ s.size ∧ i = .int .i64 k ∧ Hid ((s.data.toList.take k).all isB = true)) (fun i => s.size - (intOf i).toNat)
    case atStart => exact ⟨0, Nat.zero_le _, rfl, Lib.hid (by simp)⟩
    case round =>
      obtain ⟨k, hk, rfl, HA⟩ := hrel
      by_cases hlt : k < s.size
      · have HS := Lib.hid (comp_step s k hlt)
        have HL := Lib.hid (letIdx_eq s[k])
        by_cases hb : letIdx s[k] < 0
        · have HF := Lib.hid (show isB s[k] = false by
            have := HL.out
            rw [decide_eq_true hb] at this
            cases h : isB s[k] with
            | false => rfl
            | true => rw [h] at this; cases this)
          go_wp2_with (go_at_call 81; refine (letters_any _ rfl _ _).mono ?_; rintro e w' ⟨rfl, rfl⟩)
          go_ret
          refine ⟨ret_bool ?_, rfl⟩
          rw [HC.out]
          symm
          rw [Bool.eq_false_iff]
          intro h
          rw [List.all_eq_true] at h
          have := h s[k] (List.mem_of_getElem? (Lib.data_getElem? s k hlt))
          rw [HF.out] at this
          cases this
        · have HT := Lib.hid (show isB s[k] = true by
            have := HL.out
            rw [decide_eq_false hb] at this
            cases h : isB s[k] with
            | true => rfl
            | false => rw [h] at this; cases this)
          go_wp2_with (go_at_call 81; refine (letters_any _ rfl _ _).mono ?_; rintro e w' ⟨rfl, rfl⟩)
          go_round
          case rel => exact ⟨k + 1, by omega, by go_num, Lib.hid (by rw [HS.out, HA.out, show isBI (s[k].toNat : Int) = true from HT.out]; rfl)⟩
          case measure => simp [intOf]; omega
      · go_wp2_with fail
        go_ret
        refine ⟨ret_bool ?_, rfl⟩
        rw [HC.out, ← HA.out, List.take_of_length_le (by rw [← Lib.size_eq]; omega)]

/-- the components of a text, as texts -/
def compsB (s : ByteArray) : List ByteArray := spB (s.data.toList.drop 2)
theorem comps_all (s : ByteArray) : (sp (s.data.toList.drop 2)).all comp = (compsB s).all (fun x => comp x.data.toList) := by
  unfold compsB spB
  rw [List.all_map]
  congr 1
theorem comps_len (s : ByteArray) : (sp (s.data.toList.drop 2)).length = (compsB s).length := by
  unfold compsB spB
  rw [List.length_map]
theorem sp_total (l : List UInt8) : ∀ x ∈ sp l, x.length ≤ l.length := by
  induction l with
  | nil => simp [sp]
  | cons c l ih =>
    by_cases hc : c = 47
    · subst hc
      rw [sp_slash]
      intro x hx
      rcases List.mem_cons.1 hx with rfl | hx
      · simp
      · have := ih x hx
        simp only [List.length_cons]; omega
    · obtain ⟨x, xs, h1, h2⟩ := sp_cons c l hc
      rw [h2]
      rw [h1] at ih
      intro y hy
      rcases List.mem_cons.1 hy with rfl | hy
      · have := ih x (by simp)
        simp only [List.length_cons]; omega
      · have := ih y (by simp [hy])
        simp only [List.length_cons]; omega
theorem sp_count (l : List UInt8) : (sp l).length ≤ l.length + 1 := by
  induction l with
  | nil => simp [sp]
  | cons c l ih =>
    by_cases hc : c = 47
    · subst hc
      rw [sp_slash]
      simp only [List.length_cons]; omega
    · obtain ⟨x, xs, h1, h2⟩ := sp_cons c l hc
      rw [h2]
      rw [h1] at ih
      simp only [List.length_cons] at ih ⊢; omega
theorem compsB_size (s x : ByteArray) (h : x ∈ compsB s) : x.size ≤ s.size := by
  unfold compsB spB at h
  obtain ⟨l, hl, rfl⟩ := List.mem_map.1 h
  have := sp_total _ l hl
  rw [List.length_drop] at this
  rw [mkB_size, Lib.size_eq]
  omega
theorem compsB_len (s : ByteArray) : (compsB s).length ≤ s.size + 1 := by
  rw [← comps_len, Lib.size_eq]
  have := sp_count (s.data.toList.drop 2)
  rw [List.length_drop] at this
  omega
theorem trim_comps {s : ByteArray} (h : Lib.hasPrefix s.data.toList [47, 47] = true) : spB (mkB (Lib.trimPrefix s.data.toList [47, 47])).data.toList = compsB s := by
  rw [mkB_data]
  unfold Lib.trimPrefix compsB
  rw [if_pos h]
  rfl
theorem trim_size (s : ByteArray) (p : List UInt8) : (mkB (Lib.trimPrefix s.data.toList p)).size ≤ s.size := by
  rw [mkB_size, Lib.size_eq]
  exact Lib.trimPrefix_le _ _

theorem all_step {xs : List ByteArray} {k : Nat} {x : ByteArray} {p : ByteArray → Bool} (hx : xs[k]? = some x) : (xs.take (k + 1)).all p = ((xs.take k).all p && p x) := by
  rw [List.take_add_one, hx, List.all_append]
  simp
theorem all_miss {xs : List ByteArray} {k : Nat} {x : ByteArray} {p : ByteArray → Bool} (hx : xs[k]? = some x) (h : p x = false) : xs.all p = false := by
  rw [Bool.eq_false_iff]
  intro hh
  have := List.all_eq_true.1 hh x (List.mem_of_getElem? hx)
  rw [h] at this
  cases this

/-- a function hands back texts and true -/
def RetTB (w : World) (xs : List ByteArray) : Ending → World → Prop := RetT w xs (fun v => .tuple #[v, .bool true])
def RetNB (w : World) (e : Ending) (w' : World) : Prop := e = .returned (.tuple #[.slice none 0 0, .bool false]) ∧ Below w.heap.size w w'

set_option maxHeartbeats 1000000 in
theorem components_pre (s : ByteArray) (n : Int) (w : World) (hp : Lib.hasPrefix s.data.toList [47, 47] = false) :
    Calls Tryd.prog 90 #[.string s, .int .i64 n] w (RetNB w) := by
  go_enter Tryd.func90, Tryd.ntmps90
  go_wp2_with (go_at_call 45; refine (cutPrefix_any _ _ _).mono ?_; rintro e w' ⟨rfl, rfl⟩)
  go_ret2
  exact ⟨rfl, Below.refl _ _⟩

set_option maxHeartbeats 1000000 in
theorem components_few (s : ByteArray) (n : Nat) (w : World) (hs : s.size ≤ 1000000) (hm : ML w) (hp : Lib.hasPrefix s.data.toList [47, 47] = true) (hn : (compsB s).length < n) :
    Calls Tryd.prog 90 #[.string s, .int .i64 n] w (RetNB w) := by
  have hts := trim_size s [47, 47]
  have hsp := split_any (mkB (Lib.trimPrefix s.data.toList [47, 47])) w (by omega) hm
  rw [trim_comps hp] at hsp
  have HSP := Lib.hid hsp
  clear hsp hm
  go_enter Tryd.func90, Tryd.ntmps90
  go_wp2_with (first
    | (go_at_call 45; refine (cutPrefix_any _ _ _).mono ?_; rintro e w' ⟨rfl, rfl⟩)
    | (go_at_call 47; refine HSP.out.mono ?_; rintro e w1 ⟨A, c, rfl, hr, hb⟩))
  go_ret2
  exact ⟨rfl, hb⟩

/-- texts and true where ok; else nothing and false -/
def RetC (w : World) (xs : List ByteArray) (ok : Bool) (e : Ending) (w' : World) : Prop := (ok = true → RetTB w xs e w') ∧ (ok = false → RetNB w e w')

set_option maxHeartbeats 1000000 in
theorem components_many (s : ByteArray) (n : Nat) (w : World) (hs : s.size ≤ 1000000) (hm : ML w) (hp : Lib.hasPrefix s.data.toList [47, 47] = true) (hn : n ≤ (compsB s).length) :
    Calls Tryd.prog 90 #[.string s, .int .i64 n] w (RetC w (compsB s) ((compsB s).all (fun x => comp x.data.toList))) := by
  have hts := trim_size s [47, 47]
  have hsp := split_any (mkB (Lib.trimPrefix s.data.toList [47, 47])) w (by omega) hm
  rw [trim_comps hp] at hsp
  have HSP := Lib.hid hsp
  clear hsp hm
  have hlen := compsB_len s
  have HSZ := Lib.hid (compsB_size s)
  have hpos : 0 < (compsB s).length := spB_pos _
  have hnB : decide ((compsB s).length < n) = false := by rw [decide_eq_false_iff_not]; omega
  generalize compsB s = xs at *
  go_enter Tryd.func90, Tryd.ntmps90
  go_wp2_with (first
    | (go_at_call 45; refine (cutPrefix_any _ _ _).mono ?_; rintro e w' ⟨rfl, rfl⟩)
    | (go_at_call 47; refine HSP.out.mono ?_; rintro e w1 ⟨A, c, rfl, hr, hb⟩))
  obtain ⟨b, o, rfl, hbl, hc⟩ := hr.2.2 hpos
  have HR := Lib.hid hr
  have HCE := Lib.hid hc
  clear hr hc
  go_loop [26] (fun i => ∃ k : Nat, k ≤ xs.length ∧ i = .int .i64 k ∧ Hid ((xs.take k).all (fun x => comp x.data.toList) = true)) (fun i => xs.length - (intOf i).toNat)
  case atStart => exact ⟨0, Nat.zero_le _, rfl, Lib.hid (by simp)⟩
  case round =>
    obtain ⟨k, hk, rfl, HA⟩ := hrel
    by_cases hlt : k < xs.length
    · obtain ⟨x, hx⟩ : ∃ x, xs[k]? = some x := ⟨_, List.getElem?_eq_getElem hlt⟩
      have hcell := HCE.out k x hx
      have hxs := HSZ.out x (List.mem_of_getElem? hx)
      have HX := Lib.hid hx
      clear hx
      by_cases hcx : comp x.data.toList = true
      · go_wp2_with (go_at_call 63; refine (component_any _ _ (by omega)).mono ?_; rintro e w' ⟨rfl, rfl⟩)
        go_round
        case rel => exact ⟨k + 1, by omega, by go_num, Lib.hid (by rw [all_step HX.out, HA.out, hcx]; rfl)⟩
        case measure => simp [intOf]; omega
      · have hcx' : comp x.data.toList = false := by simpa using hcx
        clear hcx
        go_wp2_with (go_at_call 63; refine (component_any _ _ (by omega)).mono ?_; rintro e w' ⟨rfl, rfl⟩)
        go_ret2
        refine ⟨fun h => ?_, fun _ => ⟨rfl, hb⟩⟩
        rw [all_miss (p := fun x => comp x.data.toList) HX.out hcx'] at h
        cases h
    · go_wp2_with fail
      go_ret2
      refine ⟨fun _ => ⟨_, _, rfl, HR.out, hb⟩, fun h => ?_⟩
      have := HA.out
      rw [List.take_of_length_le (by omega), h] at this
      cases this

theorem components_yes (s : ByteArray) (n : Nat) (w : World) (hs : s.size ≤ 1000000) (hm : ML w) (hd : dirOk s.data.toList = true) (hn : n ≤ (compsB s).length) :
    Calls Tryd.prog 90 #[.string s, .int .i64 n] w (RetTB w (compsB s)) := by
  unfold dirOk at hd
  rw [Bool.and_eq_true, comps_all] at hd
  exact (components_many s n w hs hm hd.1 hn).mono fun e w' h => h.1 hd.2
theorem components_no (s : ByteArray) (n : Nat) (w : World) (hs : s.size ≤ 1000000) (hm : ML w) (hd : dirOk s.data.toList = false ∨ (compsB s).length < n) :
    Calls Tryd.prog 90 #[.string s, .int .i64 n] w (RetNB w) := by
  cases hp : Lib.hasPrefix s.data.toList [47, 47] with
  | false => exact components_pre s n w hp
  | true =>
    by_cases hn : (compsB s).length < n
    · exact components_few s n w hs hm hp hn
    · rcases hd with hd | hd
      · unfold dirOk at hd
        rw [hp, Bool.true_and, comps_all] at hd
        exact (components_many s n w hs hm hp (by omega)).mono fun e w' h => h.2 hd
      · exact absurd hd hn

theorem pathOk_iff (s : ByteArray) : pathOk s.data.toList = true ↔ dirOk s.data.toList = true ∧ 2 ≤ (compsB s).length := by
  unfold pathOk
  rw [Bool.and_eq_true, decide_eq_true_iff, comps_len]

/-- a function hands back texts and no error -/
def RetTE (w : World) (xs : List ByteArray) : Ending → World → Prop := RetT w xs (fun v => .tuple #[v, .int .i64 0])
def RetNE (w : World) (n : Int) (e : Ending) (w' : World) : Prop := e = .returned (.tuple #[.slice none 0 0, .int .i64 n]) ∧ Below w.heap.size w w'

set_option maxHeartbeats 400000 in
theorem psplit_yes (s : ByteArray) (w : World) (hs : s.size ≤ 1000000) (hm : ML w) (hv : pathOk s.data.toList = true) :
    Calls Tryd.prog 75 #[.string s] w (RetTE w (compsB s)) := by
  have hh := (pathOk_iff s).1 hv
  have HC := Lib.hid (components_yes s 2 w hs hm hh.1 hh.2)
  clear hh hm
  go_enter Tryd.func75, Tryd.ntmps75
  go_wp2_with (go_at_call 90; refine HC.out.mono ?_; rintro e w1 ⟨A, c, rfl, hr, hb⟩)
  go_ret2
  exact ⟨_, _, rfl, hr, hb⟩
set_option maxHeartbeats 400000 in
theorem psplit_no (s : ByteArray) (w : World) (hs : s.size ≤ 1000000) (hm : ML w) (hv : pathOk s.data.toList = false) :
    Calls Tryd.prog 75 #[.string s] w (RetNE w 20) := by
  have hh : dirOk s.data.toList = false ∨ (compsB s).length < 2 := by
    have := pathOk_iff s
    rw [hv] at this
    cases hd : dirOk s.data.toList with
    | false => exact .inl rfl
    | true =>
      rw [hd] at this
      refine .inr ?_
      have h2 : ¬ (2 ≤ (compsB s).length) := fun h => by
        have := this.2 ⟨rfl, h⟩
        cases this
      omega
  have HC := Lib.hid (components_no s 2 w hs hm hh)
  clear hh hm
  go_enter Tryd.func75, Tryd.ntmps75
  go_wp2_with (go_at_call 90; refine HC.out.mono ?_; rintro e w1 ⟨rfl, hb⟩)
  go_ret2
  exact ⟨rfl, hb⟩

theorem drop2_eq (s : ByteArray) : (s.extract 2 s.size).data.toList = s.data.toList.drop 2 := Lib.extract_to_end s 2

set_option maxHeartbeats 1000000 in
theorem parts_many (s : ByteArray) (w : World) (hs : s.size ≤ 1000000) (hm : ML w) (hp : Lib.hasPrefix s.data.toList [47, 47] = true) :
    Calls Tryd.prog 79 #[.string s] w (RetC w (compsB s) ((compsB s).all (fun x => comp x.data.toList))) := by
  have hsp := split_any (s.extract 2 s.size) w (by have := piece_size s 2 s.size; omega) hm
  rw [drop2_eq] at hsp
  have HSP : Hid (Calls Tryd.prog 47 #[.string (s.extract 2 s.size), .string ⟨#[47]⟩] w (RetT w (compsB s) id)) := Lib.hid hsp
  clear hsp hm
  have hl2 := prefix_len hp
  rw [← Lib.size_eq] at hl2
  have hlen := compsB_len s
  have HSZ := Lib.hid (compsB_size s)
  have hpos : 0 < (compsB s).length := spB_pos _
  generalize compsB s = xs at *
  go_enter Tryd.func79, Tryd.ntmps79
  go_wp2_with (first
    | (go_at_call 48; refine (hasPrefix_any _ _ _).mono ?_; rintro e w' ⟨rfl, rfl⟩)
    | (go_at_call 47; refine HSP.out.mono ?_; rintro e w1 ⟨A, c, rfl, hr, hb⟩))
  obtain ⟨b, o, rfl, hbl, hc⟩ := hr.2.2 hpos
  have HR := Lib.hid hr
  have HCE := Lib.hid hc
  clear hr hc
  go_loop [15] (fun i => ∃ k : Nat, k ≤ xs.length ∧ i = .int .i64 k ∧ Hid ((xs.take k).all (fun x => comp x.data.toList) = true)) (fun i => xs.length - (intOf i).toNat)
  case atStart => exact ⟨0, Nat.zero_le _, rfl, Lib.hid (by simp)⟩
  case round =>
    obtain ⟨k, hk, rfl, HA⟩ := hrel
    by_cases hlt : k < xs.length
    · obtain ⟨x, hx⟩ : ∃ x, xs[k]? = some x := ⟨_, List.getElem?_eq_getElem hlt⟩
      have hcell := HCE.out k x hx
      have hxs := HSZ.out x (List.mem_of_getElem? hx)
      have HX := Lib.hid hx
      clear hx
      by_cases hcx : comp x.data.toList = true
      · go_wp2_with (go_at_call 57; refine (rcomponent_any _ _ (by omega)).mono ?_; rintro e w' ⟨rfl, rfl⟩)
        go_round
        case rel => exact ⟨k + 1, by omega, by go_num, Lib.hid (by rw [all_step HX.out, HA.out, hcx]; rfl)⟩
        case measure => simp [intOf]; omega
      · have hcx' : comp x.data.toList = false := by simpa using hcx
        clear hcx
        go_wp2_with (go_at_call 57; refine (rcomponent_any _ _ (by omega)).mono ?_; rintro e w' ⟨rfl, rfl⟩)
        go_ret2
        refine ⟨fun h => ?_, fun _ => ⟨rfl, hb⟩⟩
        rw [all_miss (p := fun x => comp x.data.toList) HX.out hcx'] at h
        cases h
    · go_wp2_with fail
      go_ret2
      refine ⟨fun _ => ⟨_, _, rfl, HR.out, hb⟩, fun h => ?_⟩
      have := HA.out
      rw [List.take_of_length_le (by omega), h] at this
      cases this
set_option maxHeartbeats 400000 in
theorem parts_pre (s : ByteArray) (w : World) (hp : Lib.hasPrefix s.data.toList [47, 47] = false) :
    Calls Tryd.prog 79 #[.string s] w (RetNB w) := by
  go_enter Tryd.func79, Tryd.ntmps79
  go_wp2_with (go_at_call 48; refine (hasPrefix_any _ _ _).mono ?_; rintro e w' ⟨rfl, rfl⟩)
  go_ret2
  exact ⟨rfl, Below.refl _ _⟩
theorem parts_yes (s : ByteArray) (w : World) (hs : s.size ≤ 1000000) (hm : ML w) (hd : dirOk s.data.toList = true) :
    Calls Tryd.prog 79 #[.string s] w (RetTB w (compsB s)) := by
  unfold dirOk at hd
  rw [Bool.and_eq_true, comps_all] at hd
  exact (parts_many s w hs hm hd.1).mono fun e w' h => h.1 hd.2
theorem parts_no (s : ByteArray) (w : World) (hs : s.size ≤ 1000000) (hm : ML w) (hd : dirOk s.data.toList = false) :
    Calls Tryd.prog 79 #[.string s] w (RetNB w) := by
  cases hp : Lib.hasPrefix s.data.toList [47, 47] with
  | false => exact parts_pre s w hp
  | true =>
    unfold dirOk at hd
    rw [hp, Bool.true_and, comps_all] at hd
    exact (parts_many s w hs hm hp).mono fun e w' h => h.2 hd

set_option maxHeartbeats 400000 in
theorem rpath_yes (s : ByteArray) (w : World) (hs : s.size ≤ 1000000) (hm : ML w) (hv : pathOk s.data.toList = true) :
    Calls Tryd.prog 53 #[.string s] w (RetTB w (compsB s)) := by
  have hh := (pathOk_iff s).1 hv
  have HC := Lib.hid (parts_yes s w hs hm hh.1)
  have h2 := hh.2
  have hlen := compsB_len s
  clear hh hm
  go_enter Tryd.func53, Tryd.ntmps53
  go_wp2_with (go_at_call 79; refine HC.out.mono ?_; rintro e w1 ⟨A, c, rfl, hr, hb⟩)
  go_ret2
  exact ⟨_, _, rfl, hr, hb⟩
set_option maxHeartbeats 400000 in
theorem rpath_no (s : ByteArray) (w : World) (hs : s.size ≤ 1000000) (hm : ML w) (hv : pathOk s.data.toList = false) :
    Calls Tryd.prog 53 #[.string s] w (RetNB w) := by
  cases hd : dirOk s.data.toList with
  | false =>
    have HC := Lib.hid (parts_no s w hs hm hd)
    clear hm
    go_enter Tryd.func53, Tryd.ntmps53
    go_wp2_with (go_at_call 79; refine HC.out.mono ?_; rintro e w1 ⟨rfl, hb⟩)
    go_ret2
    exact ⟨rfl, hb⟩
  | true =>
    have h2 : (compsB s).length < 2 := by
      have := pathOk_iff s
      rw [hv, hd] at this
      have h2 : ¬ (2 ≤ (compsB s).length) := fun h => by
        have := this.2 ⟨rfl, h⟩
        cases this
      omega
    have HC := Lib.hid (parts_yes s w hs hm hd)
    clear hm
    go_enter Tryd.func53, Tryd.ntmps53
    go_wp2_with (go_at_call 79; refine HC.out.mono ?_; rintro e w1 ⟨A, c, rfl, hr, hb⟩)
    go_ret2
    exact ⟨rfl, hb⟩
end Go.Proofs.YtofmngfmoagenaaDoor

