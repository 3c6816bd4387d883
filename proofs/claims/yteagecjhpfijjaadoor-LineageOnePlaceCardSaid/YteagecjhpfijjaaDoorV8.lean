/-
  The reference's Path and its parts, in the lineage seat; taken out of the path texts by pick.py.
-/
import Derived.Test.YteagecjhpfijjaaDoorPm
import Derived.Test.YteagecjhpfijjaaDoorM0
namespace Go.Proofs.YteagecjhpfijjaaDoor
set_option linter.unusedSimpArgs false
set_option linter.unusedVariables false
open Go.RowKit Go.ChangeShapes Go.WideShapes
open Pm

theorem comp_step (s : ByteArray) (k : Nat) (h : k < s.size) :
    (s.data.toList.take (k + 1)).all isB = ((s.data.toList.take k).all isB && isBI (s[k].toNat : Int)) := by
  rw [List.take_succ_eq_append_getElem (by simpa using h), List.all_append]
  simp [isB]
  rfl
theorem comp_ne {s : ByteArray} (h0 : 0 < s.size) (h : ¬ (s[0].toNat : Int) = 46) : comp s.data.toList = (s.data.toList).all isB := by
  have e : s.data.toList = s[0] :: s.data.toList.tail := by
    obtain ⟨⟨l⟩⟩ := s
    cases l with
    | nil => exact absurd h0 (Nat.lt_irrefl 0)
    | cons c l => rfl
  rw [e]
  have : (s[0] == 46) = false := by
    rw [beq_eq_false_iff_ne]
    intro e
    rw [e] at h
    exact h rfl
  simp [comp, this]
theorem comp_dot {s : ByteArray} (h0 : 0 < s.size) (h : (s[0].toNat : Int) = 46) : comp s.data.toList = false := by
  have e : s.data.toList = s[0] :: s.data.toList.tail := by
    obtain ⟨⟨l⟩⟩ := s
    cases l with
    | nil => exact absurd h0 (Nat.lt_irrefl 0)
    | cons c l => rfl
  rw [e]
  have : s[0] = 46 := UInt8.toNat_inj.1 (by simpa using (by omega : s[0].toNat = 46))
  simp [comp, this]
theorem prefix_len {l : List UInt8} (h : Lib.hasPrefix l [47, 47] = true) : 2 ≤ l.length := by
  unfold Lib.hasPrefix at h
  have := (List.isPrefixOf_iff_prefix.1 h).length_le
  simpa using this
theorem quiet_left {P : Program} {f : FuncId} {args : Array Value} {w : World} {n : Nat} {v : Value}
    (h : Calls P f args (w.drewN n) fun e w' => e = .returned v ∧ w.drewN n = w') : Calls P f args (w.drewN n) fun e w'' => e = .returned v ∧ ∃ m, w'' = w.drewN m :=
  h.mono fun _ _ ⟨he, hm⟩ => ⟨he, n, hm.symm⟩
theorem ML.of {w : World} (h : w.ShapedOpen Tryd.prog) : ML w := by first | exact Tryd.laysM219.s1_3 w h | exact Tryd.laysM146.s1_3 w h
theorem compareB_any (a b : ByteArray) (w : World) :
    Calls Tryd.prog 55 #[.string a, .string b] w fun e w' => e = .returned (.int .i64 (Lib.compareBytes a.data.toList b.data.toList)) ∧ w = w' :=
  (Tryd.strings_Compare a b w).mono fun _ _ ⟨he, hw⟩ => ⟨he, hw.symm⟩
/-- the pieces between the slashes, as texts -/
def spB (l : List UInt8) : List ByteArray := (sp l).map mkB
theorem spB_pos (l : List UInt8) : 0 < (spB l).length := by
  unfold spB
  rw [List.length_map]
  exact List.length_pos_iff.2 (sp_ne l)
theorem splitB_eq (s : ByteArray) : Lib.splitB ⟨#[47]⟩ 0 (Lib.countB s ⟨#[47]⟩) s = spB s.data.toList := by
  refine bytes_inj ?_
  rw [Lib.splitB_data]
  show Lib.split s.data.toList [47] = _
  rw [split_eq]
  unfold spB
  rw [List.map_map]
  conv => lhs; rw [← List.map_id (sp s.data.toList)]
  exact List.map_congr_left fun x _ => (mkB_data x).symm
theorem count_eq (s : ByteArray) : Lib.countB s ⟨#[47]⟩ + 1 = (spB s.data.toList).length := by
  rw [← splitB_eq, Lib.splitB_all ⟨#[47]⟩ (by decide) 0 _ s rfl]
theorem split_any (s : ByteArray) (w : World) (hs : s.size ≤ 1000000) (hm : ML w) :
    Calls Tryd.prog 61 #[.string s, .string ⟨#[47]⟩] w (RetT w (spB s.data.toList) id) := by
  obtain ⟨m, hm⟩ := hm
  refine (Tryd.strings_Split s ⟨#[47]⟩ m w (by omega) hm (by decide)).mono fun e w' ⟨he, hw⟩ => ?_
  have hc := Lib.countB_le ⟨#[47]⟩ (by decide) _ s (Nat.le_refl _)
  rw [splitB_eq] at hw
  rw [count_eq] at he
  have hn := count_eq s
  refine ⟨_, _, he, ⟨Nat.le_refl _, by omega, fun _ => ⟨w.heap.size, 0, rfl, ?_, fun j x hx => ?_⟩⟩, ?_⟩
  · rw [hw]; simp
  · rw [hw]
    have : (⟨w.heap.size, 0 + j, none⟩ : Addr) = ⟨w.heap.size, j, none⟩ := by simp
    rw [this]
    simp [World.cell?_alloc_new, List.getElem?_map, hx]
  · rw [hw]
    exact (Below.refl _ _).alloc (Nat.le_refl _) _
def letters : List UInt8 := [65, 66, 67, 68, 69, 70, 71, 72, 73, 74, 75, 76, 77, 78, 79, 80, 81, 82, 83, 84, 85, 86, 87, 88, 89, 90, 97, 98, 99, 100, 101, 102, 103, 104, 105, 106, 107, 108, 109, 110, 111, 112, 113, 114, 115, 116, 117, 118, 119, 120, 121, 122, 48, 49, 50, 51, 52, 53, 54, 55, 56, 57, 95, 46, 43, 45]
def letIdx (x : UInt8) : Int := Lib.indexByte letters x
theorem letIdx_all : (List.range 256).all (fun n => decide (letIdx n.toUInt8 < 0) == !isB n.toUInt8) = true := by decide +kernel
theorem letIdx_eq (x : UInt8) : decide (letIdx x < 0) = !isB x := by
  have h := List.all_eq_true.1 letIdx_all x.toNat (List.mem_range.2 x.toNat_lt)
  have e : x.toNat.toUInt8 = x := by simp
  rw [e] at h
  exact beq_iff_eq.1 h
theorem letIdx_lo (x : UInt8) : -1 ≤ letIdx x := Lib.indexByte_ge _ _
theorem letters_any (s : ByteArray) (hs : s.data.toList = letters) (x : UInt8) (w : World) :
    Calls Tryd.prog 66 #[.string s, .int .u8 (x.toNat : Int)] w fun e w' => e = .returned (.int .i64 (letIdx x)) ∧ w = w' := by
  have := indexByte_any s (x.toNat : Int) w
  rw [Lib.byte_back, hs] at this
  exact this
set_option maxHeartbeats 400000 in
theorem rcomponent_any (s : ByteArray) (w : World) (hs : s.size ≤ 9223372036854775807) :
    Calls Tryd.prog 62 #[.string s] w fun e w' => e = .returned (.bool (comp s.data.toList)) ∧ w = w' := by
  by_cases h0 : s.size = 0
  · have hl := bytes_nil h0
    have he : s.toList = [] := by rw [Lib.toList_data, hl]
    go_enter Tryd.func62, Tryd.ntmps62
    go_wp2_with fail
    go_ret
    rw [hl]
    exact ⟨rfl, rfl⟩
  have hpos : 0 < s.size := by omega
  have hne := bytes_ne hpos
  clear h0
  by_cases hd : (s[0].toNat : Int) = 46
  · have HC := Lib.hid (comp_dot hpos hd)
    go_enter Tryd.func62, Tryd.ntmps62
    go_wp2_with fail
    go_ret
    exact ⟨ret_bool HC.out.symm, rfl⟩
  · have HC := Lib.hid (comp_ne hpos hd)
    have hdb : ((s[0].toNat : Int) == 46) = false := by rw [beq_eq_false_iff_ne]; exact hd
    clear hd
    go_enter Tryd.func62, Tryd.ntmps62
    go_wp2_with fail
    go_loop [3] (fun i => ∃ k : Nat, k ≤ s.size ∧ i = .int .i64 k ∧ Hid ((s.data.toList.take k).all isB = true)) (fun i => s.size - (intOf i).toNat)
    case atStart => exact ⟨0, Nat.zero_le _, rfl, Lib.hid (by simp)⟩
    case round =>
      obtain ⟨k, hk, rfl, HA⟩ := hrel
      by_cases hlt : k < s.size
      · have HS := Lib.hid (comp_step s k hlt)
        have HL := Lib.hid (letIdx_eq s[k])
        by_cases hb : letIdx s[k] < 0
        · have HF := Lib.hid (show isB s[k] = false by
            have := HL.out
            rw [decide_eq_true hb] at this
            cases h : isB s[k] with
            | false => rfl
            | true => rw [h] at this; cases this)
          go_wp2_with (go_at_call 66; refine (letters_any _ rfl _ _).mono ?_; rintro e w' ⟨rfl, rfl⟩)
          go_ret
          refine ⟨ret_bool ?_, rfl⟩
          rw [HC.out]
          symm
          rw [Bool.eq_false_iff]
          intro h
          rw [List.all_eq_true] at h
          have := h s[k] (List.mem_of_getElem? (Lib.data_getElem? s k hlt))
          rw [HF.out] at this
          cases this
        · have HT := Lib.hid (show isB s[k] = true by
            have := HL.out
            rw [decide_eq_false hb] at this
            cases h : isB s[k] with
            | true => rfl
            | false => rw [h] at this; cases this)
          go_wp2_with (go_at_call 66; refine (letters_any _ rfl _ _).mono ?_; rintro e w' ⟨rfl, rfl⟩)
          go_round
          case rel => exact ⟨k + 1, by omega, by go_num, Lib.hid (by rw [HS.out, HA.out, show isBI (s[k].toNat : Int) = true from HT.out]; rfl)⟩
          case measure => simp [intOf]; omega
      · go_wp2_with fail
        go_ret
        refine ⟨ret_bool ?_, rfl⟩
        rw [HC.out, ← HA.out, List.take_of_length_le (by rw [← Lib.size_eq]; omega)]
/-- the components of a text, as texts -/
def compsB (s : ByteArray) : List ByteArray := spB (s.data.toList.drop 2)
theorem comps_all (s : ByteArray) : (sp (s.data.toList.drop 2)).all comp = (compsB s).all (fun x => comp x.data.toList) := by
  unfold compsB spB
  rw [List.all_map]
  congr 1
theorem comps_len (s : ByteArray) : (sp (s.data.toList.drop 2)).length = (compsB s).length := by
  unfold compsB spB
  rw [List.length_map]
theorem sp_total (l : List UInt8) : ∀ x ∈ sp l, x.length ≤ l.length := by
  induction l with
  | nil => simp [sp]
  | cons c l ih =>
    by_cases hc : c = 47
    · subst hc
      rw [sp_slash]
      intro x hx
      rcases List.mem_cons.1 hx with rfl | hx
      · simp
      · have := ih x hx
        simp only [List.length_cons]; omega
    · obtain ⟨x, xs, h1, h2⟩ := sp_cons c l hc
      rw [h2]
      rw [h1] at ih
      intro y hy
      rcases List.mem_cons.1 hy with rfl | hy
      · have := ih x (by simp)
        simp only [List.length_cons]; omega
      · have := ih y (by simp [hy])
        simp only [List.length_cons]; omega
theorem sp_count (l : List UInt8) : (sp l).length ≤ l.length + 1 := by
  induction l with
  | nil => simp [sp]
  | cons c l ih =>
    by_cases hc : c = 47
    · subst hc
      rw [sp_slash]
      simp only [List.length_cons]; omega
    · obtain ⟨x, xs, h1, h2⟩ := sp_cons c l hc
      rw [h2]
      rw [h1] at ih
      simp only [List.length_cons] at ih ⊢; omega
theorem compsB_size (s x : ByteArray) (h : x ∈ compsB s) : x.size ≤ s.size := by
  unfold compsB spB at h
  obtain ⟨l, hl, rfl⟩ := List.mem_map.1 h
  have := sp_total _ l hl
  rw [List.length_drop] at this
  rw [mkB_size, Lib.size_eq]
  omega
theorem compsB_len (s : ByteArray) : (compsB s).length ≤ s.size + 1 := by
  rw [← comps_len, Lib.size_eq]
  have := sp_count (s.data.toList.drop 2)
  rw [List.length_drop] at this
  omega
/-- a function hands back texts and true -/
def RetTB (w : World) (xs : List ByteArray) : Ending → World → Prop := RetT w xs (fun v => .tuple #[v, .bool true])
def RetNB (w : World) (e : Ending) (w' : World) : Prop := e = .returned (.tuple #[.slice none 0 0, .bool false]) ∧ Below w.heap.size w w'
/-- texts and true where ok; else nothing and false -/
def RetC (w : World) (xs : List ByteArray) (ok : Bool) (e : Ending) (w' : World) : Prop := (ok = true → RetTB w xs e w') ∧ (ok = false → RetNB w e w')
theorem pathOk_iff (s : ByteArray) : pathOk s.data.toList = true ↔ dirOk s.data.toList = true ∧ 2 ≤ (compsB s).length := by
  unfold pathOk
  rw [Bool.and_eq_true, decide_eq_true_iff, comps_len]
theorem drop2_eq (s : ByteArray) : (s.extract 2 s.size).data.toList = s.data.toList.drop 2 := Lib.extract_to_end s 2
set_option maxHeartbeats 1000000 in
theorem parts_many (s : ByteArray) (w : World) (hs : s.size ≤ 1000000) (hm : ML w) (hp : Lib.hasPrefix s.data.toList [47, 47] = true) :
    Calls Tryd.prog 58 #[.string s] w (RetC w (compsB s) ((compsB s).all (fun x => comp x.data.toList))) := by
  have hsp := split_any (s.extract 2 s.size) w (by have := piece_size s 2 s.size; omega) hm
  rw [drop2_eq] at hsp
  have HSP : Hid (Calls Tryd.prog 61 #[.string (s.extract 2 s.size), .string ⟨#[47]⟩] w (RetT w (compsB s) id)) := Lib.hid hsp
  clear hsp hm
  have hl2 := prefix_len hp
  rw [← Lib.size_eq] at hl2
  have hlen := compsB_len s
  have HSZ := Lib.hid (compsB_size s)
  have hpos : 0 < (compsB s).length := spB_pos _
  generalize compsB s = xs at *
  go_enter Tryd.func58, Tryd.ntmps58
  go_wp2_with (first
    | (go_at_call 60; refine (hasPrefix_any _ _ _).mono ?_; rintro e w' ⟨rfl, rfl⟩)
    | (go_at_call 61; refine HSP.out.mono ?_; rintro e w1 ⟨A, c, rfl, hr, hb⟩))
  obtain ⟨b, o, rfl, hbl, hc⟩ := hr.2.2 hpos
  have HR := Lib.hid hr
  have HCE := Lib.hid hc
  clear hr hc
  go_loop [15] (fun i => ∃ k : Nat, k ≤ xs.length ∧ i = .int .i64 k ∧ Hid ((xs.take k).all (fun x => comp x.data.toList) = true)) (fun i => xs.length - (intOf i).toNat)
  case atStart => exact ⟨0, Nat.zero_le _, rfl, Lib.hid (by simp)⟩
  case round =>
    obtain ⟨k, hk, rfl, HA⟩ := hrel
    by_cases hlt : k < xs.length
    · obtain ⟨x, hx⟩ : ∃ x, xs[k]? = some x := ⟨_, List.getElem?_eq_getElem hlt⟩
      have hcell := HCE.out k x hx
      have hxs := HSZ.out x (List.mem_of_getElem? hx)
      have HX := Lib.hid hx
      clear hx
      by_cases hcx : comp x.data.toList = true
      · go_wp2_with (go_at_call 62; refine (rcomponent_any _ _ (by omega)).mono ?_; rintro e w' ⟨rfl, rfl⟩)
        go_round
        case rel => exact ⟨k + 1, by omega, by go_num, Lib.hid (by rw [all_step HX.out, HA.out, hcx]; rfl)⟩
        case measure => simp [intOf]; omega
      · have hcx' : comp x.data.toList = false := by simpa using hcx
        clear hcx
        go_wp2_with (go_at_call 62; refine (rcomponent_any _ _ (by omega)).mono ?_; rintro e w' ⟨rfl, rfl⟩)
        go_ret2
        refine ⟨fun h => ?_, fun _ => ⟨rfl, hb⟩⟩
        rw [all_miss (p := fun x => comp x.data.toList) HX.out hcx'] at h
        cases h
    · go_wp2_with fail
      go_ret2
      refine ⟨fun _ => ⟨_, _, rfl, HR.out, hb⟩, fun h => ?_⟩
      have := HA.out
      rw [List.take_of_length_le (by omega), h] at this
      cases this
set_option maxHeartbeats 400000 in
theorem parts_pre (s : ByteArray) (w : World) (hp : Lib.hasPrefix s.data.toList [47, 47] = false) :
    Calls Tryd.prog 58 #[.string s] w (RetNB w) := by
  go_enter Tryd.func58, Tryd.ntmps58
  go_wp2_with (go_at_call 60; refine (hasPrefix_any _ _ _).mono ?_; rintro e w' ⟨rfl, rfl⟩)
  go_ret2
  exact ⟨rfl, Below.refl _ _⟩
theorem parts_yes (s : ByteArray) (w : World) (hs : s.size ≤ 1000000) (hm : ML w) (hd : dirOk s.data.toList = true) :
    Calls Tryd.prog 58 #[.string s] w (RetTB w (compsB s)) := by
  unfold dirOk at hd
  rw [Bool.and_eq_true, comps_all] at hd
  exact (parts_many s w hs hm hd.1).mono fun e w' h => h.1 hd.2
theorem parts_no (s : ByteArray) (w : World) (hs : s.size ≤ 1000000) (hm : ML w) (hd : dirOk s.data.toList = false) :
    Calls Tryd.prog 58 #[.string s] w (RetNB w) := by
  cases hp : Lib.hasPrefix s.data.toList [47, 47] with
  | false => exact parts_pre s w hp
  | true =>
    unfold dirOk at hd
    rw [hp, Bool.true_and, comps_all] at hd
    exact (parts_many s w hs hm hp).mono fun e w' h => h.2 hd
set_option maxHeartbeats 400000 in
theorem rpath_yes (s : ByteArray) (w : World) (hs : s.size ≤ 1000000) (hm : ML w) (hv : pathOk s.data.toList = true) :
    Calls Tryd.prog 54 #[.string s] w (RetTB w (compsB s)) := by
  have hh := (pathOk_iff s).1 hv
  have HC := Lib.hid (parts_yes s w hs hm hh.1)
  have h2 := hh.2
  have hlen := compsB_len s
  clear hh hm
  go_enter Tryd.func54, Tryd.ntmps54
  go_wp2_with (go_at_call 58; refine HC.out.mono ?_; rintro e w1 ⟨A, c, rfl, hr, hb⟩)
  go_ret2
  exact ⟨_, _, rfl, hr, hb⟩
set_option maxHeartbeats 400000 in
theorem rpath_no (s : ByteArray) (w : World) (hs : s.size ≤ 1000000) (hm : ML w) (hv : pathOk s.data.toList = false) :
    Calls Tryd.prog 54 #[.string s] w (RetNB w) := by
  cases hd : dirOk s.data.toList with
  | false =>
    have HC := Lib.hid (parts_no s w hs hm hd)
    clear hm
    go_enter Tryd.func54, Tryd.ntmps54
    go_wp2_with (go_at_call 58; refine HC.out.mono ?_; rintro e w1 ⟨rfl, hb⟩)
    go_ret2
    exact ⟨rfl, hb⟩
  | true =>
    have h2 : (compsB s).length < 2 := by
      have := pathOk_iff s
      rw [hv, hd] at this
      have h2 : ¬ (2 ≤ (compsB s).length) := fun h => by
        have := this.2 ⟨rfl, h⟩
        cases this
      omega
    have HC := Lib.hid (parts_yes s w hs hm hd)
    clear hm
    go_enter Tryd.func54, Tryd.ntmps54
    go_wp2_with (go_at_call 58; refine HC.out.mono ?_; rintro e w1 ⟨A, c, rfl, hr, hb⟩)
    go_ret2
    exact ⟨rfl, hb⟩
def dat (xs : List ByteArray) : List (List UInt8) := xs.map (·.data.toList)
theorem dat_len (xs : List ByteArray) : (dat xs).length = xs.length := List.length_map _
theorem dat_get {xs : List ByteArray} {k : Nat} {x : ByteArray} (h : xs[k]? = some x) : (dat xs)[k]? = some x.data.toList := by simp [dat, h]
theorem dat_inj {a b : List ByteArray} (h : dat a = dat b) : a = b := bytes_inj h
theorem dat_take (xs : List ByteArray) (n : Nat) : dat (xs.take n) = (dat xs).take n := List.map_take
theorem cc_drop (a b : List (List UInt8)) (k : Nat) (x y : List UInt8) (ha : a[k]? = some x) (hb : b[k]? = some y) (h : ccmp a b = ccmp (a.drop k) (b.drop k)) :
    (Lib.compareBytes x y = 0 → ccmp a b = ccmp (a.drop (k + 1)) (b.drop (k + 1))) ∧ (Lib.compareBytes x y ≠ 0 → ccmp a b = Lib.compareBytes x y) := by
  obtain ⟨ha1, rfl⟩ := List.getElem?_eq_some_iff.1 ha
  obtain ⟨hb1, rfl⟩ := List.getElem?_eq_some_iff.1 hb
  rw [List.drop_eq_getElem_cons ha1, List.drop_eq_getElem_cons hb1] at h
  constructor
  · intro e
    rw [h, ccmp, if_pos e]
  · intro e
    rw [h, ccmp, if_neg e]
theorem cc_end (a b : List (List UInt8)) (k : Nat) (h : ccmp a b = ccmp (a.drop k) (b.drop k)) (hk : k = a.length ∨ k = b.length) (hka : k ≤ a.length) (hkb : k ≤ b.length) :
    ccmp a b = Lib.compareInt (a.length : Int) (b.length : Int) := by
  rw [h]
  unfold Lib.compareInt
  by_cases ea : k = a.length
  · have : a.drop k = [] := List.drop_of_length_le (by omega)
    rw [this]
    by_cases eb : k = b.length
    · have : b.drop k = [] := List.drop_of_length_le (by omega)
      rw [this, if_neg (by omega), if_neg (by omega)]
      rfl
    · rw [List.drop_eq_getElem_cons (show k < b.length by omega), if_pos (by omega)]
      rfl
  · have eb : k = b.length := by omega
    have : b.drop k = [] := List.drop_of_length_le (by omega)
    rw [this, List.drop_eq_getElem_cons (show k < a.length by omega), if_neg (by omega), if_pos (by omega)]
    rfl
theorem compareBytes_range : ∀ (a b : List UInt8), -1 ≤ Lib.compareBytes a b ∧ Lib.compareBytes a b ≤ 1
  | [], [] => by decide
  | [], _ :: _ => by simp [Lib.compareBytes]
  | _ :: _, [] => by simp [Lib.compareBytes]
  | x :: a, y :: b => by
    unfold Lib.compareBytes
    split
    · decide
    · split
      · decide
      · exact compareBytes_range a b
theorem ccmp_self (a : List (List UInt8)) : ccmp a a = 0 := by
  induction a with
  | nil => rfl
  | cons x a ih => rw [ccmp, if_pos (compareBytes_self x), ih]
theorem ccmp_zero {a b : List (List UInt8)} (h : ccmp a b = 0) : a = b := by
  induction a generalizing b with
  | nil => cases b with
    | nil => rfl
    | cons y b => simp [ccmp] at h
  | cons x a ih =>
    cases b with
    | nil => simp [ccmp] at h
    | cons y b =>
      unfold ccmp at h
      split at h
      · rename_i e
        rw [compareBytes_eq e, ih h]
      · rename_i e
        exact absurd h e
set_option maxHeartbeats 1000000 in
theorem rcompare_any (A B : Option Addr) (c d : Nat) (xs ys : List ByteArray) (w : World) (h : RT w A c xs) (k : RT w B d ys) :
    Calls Tryd.prog 56 #[.slice A xs.length c, .slice B ys.length d] w fun e w' => e = .returned (.int .i64 (ccmp (dat xs) (dat ys))) ∧ Below w.heap.size w w' := by
  have h1 := h.1
  have h2 := h.2.1
  have k1 := k.1
  have k2 := k.2.1
  have hx9 : xs.length ≤ 9223372036854775807 := by omega
  have hy9 : ys.length ≤ 9223372036854775807 := by omega
  clear h1 h2 k1 k2
  have HX := Lib.hid h
  have HY := Lib.hid k
  clear h k
  go_enter Tryd.func56, Tryd.ntmps56
  go_wp2_with fail
  go_loopw [5] (fun i wr => ∃ k : Nat, k ≤ xs.length ∧ k ≤ ys.length ∧ i = .int .i64 k ∧ Hid (ccmp (dat xs) (dat ys) = ccmp ((dat xs).drop k) ((dat ys).drop k)) ∧ Below w.heap.size w wr)
    (fun i _ => xs.length - (intOf i).toNat)
  case atStart => exact ⟨0, Nat.zero_le _, Nat.zero_le _, rfl, Lib.hid rfl, Below.refl _ _⟩
  case round =>
    obtain ⟨k, hka, hkb, rfl, HK, hbel⟩ := hrel
    by_cases hlt : k < xs.length ∧ k < ys.length
    · obtain ⟨g1, g2⟩ := hlt
      obtain ⟨x, hx⟩ : ∃ x, xs[k]? = some x := ⟨_, List.getElem?_eq_getElem g1⟩
      obtain ⟨y, hy⟩ : ∃ y, ys[k]? = some y := ⟨_, List.getElem?_eq_getElem g2⟩
      obtain ⟨b1, o1, rfl, hb1, hc1⟩ := (HX.out.below hbel).2.2 (by omega)
      obtain ⟨b2, o2, rfl, hb2, hc2⟩ := (HY.out.below hbel).2.2 (by omega)
      have hcx := hc1 k x hx
      have hcy := hc2 k y hy
      have HD := Lib.hid (cc_drop _ _ k _ _ (dat_get hx) (dat_get hy) HK.out)
      have hr := compareBytes_range x.data.toList y.data.toList
      clear hc1 hc2 hx hy hb1 hb2
      by_cases he : Lib.compareBytes x.data.toList y.data.toList = 0
      · have heB : (Lib.compareBytes x.data.toList y.data.toList != 0) = false := by rw [he]; rfl
        have HN := Lib.hid (HD.out.1 he)
        clear he
        go_wp2_with fail
        go_quiet ((go_at_call 55; exact quiet_left (compareB_any _ _ _)))
        go_wp2_with fail
        go_roundw
        case rel => exact ⟨k + 1, by omega, by omega, by go_num, HN, by repeat (first | exact hbel | apply Below.drew | apply below_drewN)⟩
        case measure => simp [intOf]; omega
      · have heB : (Lib.compareBytes x.data.toList y.data.toList != 0) = true := by rw [bne_iff_ne]; exact he
        have HN := Lib.hid (HD.out.2 he)
        clear he
        go_wp2_with fail
        go_quiet ((go_at_call 55; exact quiet_left (compareB_any _ _ _)))
        go_wp2_with fail
        go_ret
        exact ⟨ret_int HN.out.symm, by repeat (first | exact hbel | apply Below.drew | apply below_drewN)⟩
    · have HE := Lib.hid (cc_end _ _ k HK.out (by rw [dat_len, dat_len]; omega) (by rw [dat_len]; omega) (by rw [dat_len]; omega))
      by_cases gx : k < xs.length
      · have gy : ¬ k < ys.length := fun g => hlt ⟨gx, g⟩
        clear hlt
        have e1 : ¬ xs.length < ys.length := by omega
        have e2 : ys.length < xs.length := by omega
        go_wp2_with fail
        go_ret
        exact ⟨ret_int (by rw [HE.out, dat_len, dat_len]; unfold Lib.compareInt; rw [if_neg (by omega), if_pos (by omega)]), hbel⟩
      · clear hlt
        by_cases e1 : xs.length < ys.length
        · go_wp2_with fail
          go_ret
          exact ⟨ret_int (by rw [HE.out, dat_len, dat_len]; unfold Lib.compareInt; rw [if_pos (by omega)]), hbel⟩
        · have e2 : ¬ ys.length < xs.length := by omega
          go_wp2_with fail
          go_ret
          exact ⟨ret_int (by rw [HE.out, dat_len, dat_len]; unfold Lib.compareInt; rw [if_neg (by omega), if_neg (by omega)]), hbel⟩
end Go.Proofs.YteagecjhpfijjaaDoor

