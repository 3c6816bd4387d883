/-
  The walks of the program's Where, of the law's same and awake.
-/
import Derived.Test.YteagecjhpfijjaaDoorV33
namespace Go.Proofs.YteagecjhpfijjaaDoor
set_option linter.unusedSimpArgs false
set_option linter.unusedVariables false
open Go.RowKit Go.WideShapes

set_option maxHeartbeats 8000000 in
set_option maxRecDepth 100000 in
theorem lwhere_any (A B : Option Addr) (c m d : Nat) (rs : List Rv) (p : ByteArray) (n ch : Int) (w : World) (h : RV w A c rs) (hd : Dp rs) :
    Calls Tryd.prog 25 #[.agg #[.slice A rs.length c, .slice B m d], .agg #[.string p, .int .i64 n], .int .i64 ch] w (RetOR w (whereR rs (p, n) ch)) := by
  have HR := Lib.hid h
  have HLN := Lib.hid (fun W h => lline_any A B c m d rs p n W h hd)
  unfold RetVN at HLN
  have HQ : Hid (whereR rs (p, n) ch = (((lineR rs (p, n)).filter (fun v => decide (v.chg ≤ ch))).getLast?).filter (fun v => v.act != 3)) := Lib.hid rfl
  have HNM : Hid (∀ v ∈ lineR rs (p, n), v.num ≠ 0) := Lib.hid (fun v hv => by have := (hd.inv.num_le (mem_line.1 hv).1).1; omega)
  have HLL : Hid ((lineR rs (p, n)).length ≤ 500) := Lib.hid (by unfold lineR; have := List.length_filter_le (memF rs (p, n)) rs; have := hd.len; omega)
  have HS : At (BB w [(w.heap.size, [.slice A rs.length c, .slice B m d]), (w.heap.size + 1, [.string p, .int .i64 n]), (w.heap.size + 1 + 1, zeroV), (w.heap.size + 1 + 1 + 1, zeroV)]) ((((w.alloc (.cells #[.slice A rs.length c, .slice B m d] 28)).alloc (.cells #[.string p, .int .i64 n] 31)).alloc (.cells zeroV.toArray 40)).alloc (.cells zeroV.toArray 40)) :=
    (((((BB.nil w).push [.slice A rs.length c, .slice B m d] 28 rfl).push [.string p, .int .i64 n] 31 (g := w.heap.size + 1) (by simp)).push zeroV 40 (g := w.heap.size + 1 + 1) (by simp)).push zeroV 40 (g := w.heap.size + 1 + 1 + 1) (by simp)).at_
  clear h hd
  generalize whereR rs (p, n) ch = wo at *
  generalize lineR rs (p, n) = ls at *
  unfold zeroV at HS
  go_enter Tryd.func25, Tryd.ntmps25
  go_wp2_with (go_at_call 18; refine (HLN.out _ (HR.out.below HS.out.low)).mono ?_; rintro e w1 ⟨A1, c1, rfl, hrv, hb, hab⟩; have HA1 := Lib.hid hab; have HR1 := Lib.hid hrv; have q1 := hrv.1; rw [List.length_map] at q1; have q2 := hrv.2.1; replace HS := HS.go2 (Below.refl _ _) hb; clear hrv hb hab)
  go_loopw [9, 16] (fun s9 s wr => ∃ (k : Nat) (o : Option Rv), k ≤ ls.length ∧ s = .int .i64 k ∧ s9 = .bool o.isSome ∧ Hid (o = ((ls.take k).filter (fun v => decide (v.chg ≤ ch))).getLast?) ∧ Hid (BB w [(w.heap.size, [.slice A rs.length c, .slice B m d]), (w.heap.size + 1, [.string p, .int .i64 n]), (w.heap.size + 1 + 1, zeroV), (w.heap.size + 1 + 1 + 1, revV (o.getD rv0))] wr) ∧ Hid (RV wr A1 c1 ls)) (fun _ s _ => ls.length - (intOf s).toNat)
  case atStart => exact ⟨0, none, Nat.zero_le _, rfl, rfl, Lib.hid rfl, Lib.hid HS.out, HR1⟩
  case round =>
    clear HS
    obtain ⟨k, o, hk, rfl, rfl, HO, HS0, HR2⟩ := hrel
    have HS := HS0.out.at_
    clear HS0
    obtain ⟨d0, d1⟩ := HS.out.get 0 rfl |>.c2
    obtain ⟨e0, e1⟩ := HS.out.get 1 rfl |>.c2
    obtain ⟨r0, r1, r2, r3, r4, r5, r6, r7, r8, r9, r10, r11⟩ := (show At12 _ (w.heap.size + 1 + 1) 0 rv0 from (HS.out.get 2 rfl).rev)
    obtain ⟨o0, o1, o2, o3, o4, o5, o6, o7, o8, o9, o10, o11⟩ := (HS.out.get 3 rfl).rev
    have rf := (HS.out.get 2 rfl).2.1
    have off := (HS.out.get 3 rfl).2.1
    have g2l := (HS.out.get 2 rfl).2.2
    have g3l := (HS.out.get 3 rfl).2.2
    by_cases hlt : k < ls.length
    · obtain ⟨v, hv⟩ : ∃ v, ls[k]? = some v := ⟨_, List.getElem?_eq_getElem hlt⟩
      obtain ⟨b, o', rfl, hb1, x0, x1, x2, x3, x4, x5, x6, x7, x8, x9, x10, x11⟩ := HR2.out.at_ hv
      have HSN := Lib.hid (lineAt_snoc (ch := ch) hv)
      have ne1 : ¬ wr.heap.size = w.heap.size + 1 + 1 + 1 := by omega
      have ne2 : ¬ w.heap.size + 1 + 1 + 1 = wr.heap.size := by omega
      clear hv hb1
      by_cases hc : v.chg ≤ ch
      · have HN : Hid (some v = ((ls.take (k + 1)).filter (fun v => decide (v.chg ≤ ch))).getLast?) := Lib.hid (by rw [HSN.out, if_pos hc])
        go_wp2_with fail
        go_roundw
        case rel => exact ⟨k + 1, some v, by omega, by go_num, by go_num, HN, Lib.hid (BB.kept _ _ _ _ (BB.set12 (l := [_, _, _]) HS.out rfl (fun p hp => by simp only [List.mem_cons, List.not_mem_nil, or_false] at hp; rcases hp with rfl | rfl | rfl <;> simp only <;> omega) (by omega) _ _ _ _ _ _ _ _ _ _ _ _) (below_alloc _ _)), Lib.hid ((RV.other12 HR2.out (fun a ha => by have := HA1.out a ha; simp at this; omega) _ _ _ _ _ _ _ _ _ _ _ _).below (below_alloc _ _))⟩
        case measure => simp [intOf]; omega
      · have HN : Hid (o = ((ls.take (k + 1)).filter (fun v => decide (v.chg ≤ ch))).getLast?) := Lib.hid (by rw [HSN.out, if_neg hc]; exact HO.out)
        go_wp2_with fail
        go_roundw
        case rel => exact ⟨k + 1, o, by omega, by go_num, by go_num, HN, Lib.hid (HS.go (by repeat (first | exact Below.refl _ _ | apply Below.drew | apply below_drewN | apply below_al))).out, Lib.hid (HR2.out.below (by repeat (first | exact Below.refl _ _ | apply Below.drew | apply below_drewN | apply below_al)))⟩
        case measure => simp [intOf]; omega
    · obtain rfl : k = ls.length := by omega
      have HO2 := HO.out
      rw [List.take_length] at HO2
      have HQ2 : Hid (wo = o.filter (fun v => v.act != 3)) := Lib.hid (by rw [HQ.out, HO2])
      have HON : Hid (∀ u, o = some u → u.num ≠ 0) := Lib.hid (fun u hu => HNM.out u (List.mem_filter.1 (List.mem_of_getLast? (by rw [← HO2]; exact hu))).1)
      clear HO2 HO HQ HNM
      cases o with
      | none =>
        have HN : Hid (wo = none) := Lib.hid HQ2.out
        clear HQ2 HON
        simp only [Option.getD_none, Option.isSome_none] at *
        go_wp2_with fail
        refine bodyPost_ret (v := .tuple #[aggR rv0, .bool false]) (by simp [results, Tryd.results25, go_sem, r0, r1, r2, r3, r4, r5, r6, r7, r8, r9, r10, r11, aggR, rv0]) rfl ?_
        exact ⟨by rw [HN.out]; rfl, below12 HS.out.low (by omega) _ _ _ _ _ _ _ _ _ _ _ _⟩
      | some v =>
        have hn0 := HON.out v rfl
        have b0 : (v.num == 0) = false := by simpa using hn0
        by_cases a3 : v.act = 3
        · have HN : Hid (wo = none) := Lib.hid (by rw [HQ2.out, Option.filter_some]; simp [a3])
          have b3 : (v.act == 3) = true := by simpa using a3
          clear HQ2 HON a3
          simp only [Option.getD_some, Option.isSome_some] at *
          go_wp2_with fail
          refine bodyPost_ret (v := .tuple #[aggR rv0, .bool false]) (by simp [results, Tryd.results25, go_sem, r0, r1, r2, r3, r4, r5, r6, r7, r8, r9, r10, r11, aggR, rv0]) rfl ?_
          exact ⟨by rw [HN.out]; rfl, below12 HS.out.low (by omega) _ _ _ _ _ _ _ _ _ _ _ _⟩
        · have HN : Hid (wo = some v) := Lib.hid (by rw [HQ2.out, Option.filter_some]; simp [a3])
          have b3 : (v.act == 3) = false := by simpa using a3
          clear HQ2 HON a3
          simp only [Option.getD_some, Option.isSome_some] at *
          go_wp2_with fail
          refine bodyPost_ret (v := .tuple #[aggR v, .bool true]) (by simp [results, Tryd.results25, go_sem, r0, r1, r2, r3, r4, r5, r6, r7, r8, r9, r10, r11, aggR, rv0]) rfl ?_
          exact ⟨by rw [HN.out]; rfl, below12 HS.out.low (by omega) _ _ _ _ _ _ _ _ _ _ _ _⟩
set_option maxHeartbeats 4000000 in
set_option maxRecDepth 100000 in
theorem same_any (A B : Option Addr) (c d : Nat) (xs ys : List Rv) (w : World) (h : RV w A c xs) (k : RV w B d ys) (he : xs = ys) (hl : xs.length ≤ 1000) :
    Calls Tryd.prog 19 #[.slice A xs.length c, .slice B ys.length d] w fun e w' => e = .returned (.bool true) ∧ Below w.heap.size w w' := by
  subst he
  have h1 := h.1
  have h2 := h.2.1
  have k1 := k.1
  have k2 := k.2.1
  rw [List.length_map] at h1 k1
  have HA := Lib.hid h
  have HB := Lib.hid k
  clear h k
  go_enter Tryd.func19, Tryd.ntmps19
  go_wp2_with fail
  go_loopw [13] (fun s wr => ∃ k : Nat, k ≤ xs.length ∧ s = .int .i64 k ∧ Hid (Below w.heap.size w wr)) (fun s _ => xs.length - (intOf s).toNat)
  case atStart => exact ⟨0, Nat.zero_le _, rfl, Lib.hid (Below.refl _ _)⟩
  case round =>
    obtain ⟨k, hk, rfl, HW⟩ := hrel
    by_cases hlt : k < xs.length
    · obtain ⟨v, hv⟩ : ∃ v, xs[k]? = some v := ⟨_, List.getElem?_eq_getElem hlt⟩
      obtain ⟨b, o', rfl, hb1, x0, x1, x2, x3, x4, x5, x6, x7, x8, x9, x10, x11⟩ := (HA.out.below HW.out).at_ hv
      obtain ⟨b2, o2, rfl, hb2, y0, y1, y2, y3, y4, y5, y6, y7, y8, y9, y10, y11⟩ := (HB.out.below HW.out).at_ hv
      have hre := fun w => rev_eq v v w
      have hvv : revB v v = true := (revB_iff v v).2 rfl
      simp only [hvv] at hre
      unfold aggR at hre
      clear hv
      go_upto_region 6 with (fail)
      go_quiet (fail)
      all_goals
        go_wp2_with fail
        go_roundw
        case rel => exact ⟨k + 1, by omega, by go_num, Lib.hid (go3 HW.out (by repeat (first | exact Below.refl _ _ | apply Below.drew | apply below_drewN | apply below_al)))⟩
        case measure => simp [intOf]; omega
    · obtain rfl : k = xs.length := by omega
      go_wp2_with fail
      go_ret
      exact ⟨rfl, HW.out⟩
def xA : ByteArray := ⟨#[47, 47, 97, 47, 120]⟩
def yA : ByteArray := ⟨#[47, 47, 97, 47, 121]⟩
def eA1 : Ed := ⟨xA, 1, (1, false, false, false), (0, 0), 0, ⟨#[]⟩, 0, 0⟩
def eA2 : Ed := ⟨xA, 5, (1, false, false, false), (0, 0), 1, ⟨#[]⟩, 0, 0⟩
def eA3 : Ed := ⟨yA, 4, (1, false, false, false), (0, 0), 0, xA, 1, 0⟩
def rsA1 : List Rv := [] ++ [eA1].map (madeR 1)
def rsA : List Rv := rsA1 ++ [eA2, eA3].map (madeR 2)
theorem bA1 : Batch [] 1 [eA1] where
  pos := by decide
  top := by decide
  lt := fun v h => by cases h
  nodup := by simp
  act := fun x h => by obtain rfl := List.mem_singleton.1 h; unfold ActOk; decide +kernel
  base := fun x h => by obtain rfl := List.mem_singleton.1 h; unfold BaseOk; decide +kernel
  frm := fun x h => by obtain rfl := List.mem_singleton.1 h; unfold FromOk; decide +kernel
  mov := fun x h => by obtain rfl := List.mem_singleton.1 h; decide +kernel
theorem bA2 : Batch rsA1 2 [eA2, eA3] where
  pos := by decide
  top := by decide
  lt := fun v h => by
    obtain rfl : v = madeR 1 eA1 := by simpa [rsA1] using h
    decide +kernel
  nodup := by decide +kernel
  act := fun x h => by
    rcases List.mem_cons.1 h with rfl | h
    · unfold ActOk; decide +kernel
    · obtain rfl := List.mem_singleton.1 h; unfold ActOk; decide +kernel
  base := fun x h => by
    rcases List.mem_cons.1 h with rfl | h
    · unfold BaseOk; decide +kernel
    · obtain rfl := List.mem_singleton.1 h; unfold BaseOk; decide +kernel
  frm := fun x h => by
    rcases List.mem_cons.1 h with rfl | h
    · unfold FromOk; decide +kernel
    · obtain rfl := List.mem_singleton.1 h; unfold FromOk; decide +kernel
  mov := fun x h => by
    rcases List.mem_cons.1 h with rfl | h
    · decide +kernel
    · obtain rfl := List.mem_singleton.1 h; decide +kernel
theorem vhA : VH rsA := VH.app (VH.app VH.nil bA1) bA2
theorem dpA : Dp rsA := vhA.dp (fun v h => by
  have : v = madeR 1 eA1 ∨ v = madeR 2 eA2 ∨ v = madeR 2 eA3 := by simpa [rsA, rsA1] using h
  rcases this with rfl | rfl | rfl <;> decide +kernel) (by decide)
theorem idA : idR rsA yA 1 = some (xA, 1) := by decide +kernel
theorem lineA : (lineR rsA (xA, 1)).length = 2 := by decide +kernel
theorem rsA_eq : (rsA.map revV).flatten = [.string xA, .int .i64 1, .int .i64 1, .int .i64 1, .int .i64 1, .bool false, .bool false, .bool false, .int .u64 0, .int .i64 0, .string ⟨#[]⟩, .int .i64 0, .string xA, .int .i64 2, .int .i64 2, .int .i64 5, .int .i64 1, .bool false, .bool false, .bool false, .int .u64 0, .int .i64 0, .string ⟨#[]⟩, .int .i64 0, .string yA, .int .i64 1, .int .i64 2, .int .i64 4, .int .i64 1, .bool false, .bool false, .bool false, .int .u64 0, .int .i64 0, .string xA, .int .i64 1] := rfl
set_option maxHeartbeats 4000000 in
set_option maxRecDepth 100000 in
theorem awake_any (w : World) : Calls Tryd.prog 12 #[] w fun e w' => e = .returned (.bool true) ∧ Below w.heap.size w w' := by
  have HID := Lib.hid (fun A B c m d W h => lidentity_any A B c m d rsA yA 1 W h dpA (by decide +kernel) (by decide))
  have HLN := Lib.hid (fun A B c m d W h => lline_any A B c m d rsA xA 1 W h dpA)
  rw [idA] at HID
  unfold RetOF at HID
  unfold RetVN at HLN
  rw [lineA] at HLN
  have hfe := fun w => file_eq xA xA 1 1 w
  have hff : fileB xA xA 1 1 = true := (fileB_iff _ _ _ _).2 rfl
  simp only [hff] at hfe
  have hr3 : rsA.length = 3 := rfl
  simp only [hr3] at HID HLN
  simp only [Option.getD_some, Option.isSome_some] at HID
  have HS : At (BB w [(w.heap.size, [.int .i64 1, .bool false, .bool false, .bool false]), (w.heap.size + 1, [.string ⟨#[47, 47, 97, 47, 120]⟩, .int .i64 1, .int .i64 1, .int .i64 1, .int .i64 1, .bool false, .bool false, .bool false, .int .u64 0, .int .i64 0, .string ⟨#[]⟩, .int .i64 0, .string ⟨#[47, 47, 97, 47, 120]⟩, .int .i64 2, .int .i64 2, .int .i64 5, .int .i64 1, .bool false, .bool false, .bool false, .int .u64 0, .int .i64 0, .string ⟨#[]⟩, .int .i64 0, .string ⟨#[47, 47, 97, 47, 121]⟩, .int .i64 1, .int .i64 2, .int .i64 4, .int .i64 1, .bool false, .bool false, .bool false, .int .u64 0, .int .i64 0, .string ⟨#[47, 47, 97, 47, 120]⟩, .int .i64 1]), (w.heap.size + 1 + 1, [.slice (some ⟨w.heap.size + 1, 0, none⟩) 3 3, .slice none 0 0])]) (((w.alloc (.cells #[.int .i64 1, .bool false, .bool false, .bool false] 35)).alloc (.cells #[.string ⟨#[47, 47, 97, 47, 120]⟩, .int .i64 1, .int .i64 1, .int .i64 1, .int .i64 1, .bool false, .bool false, .bool false, .int .u64 0, .int .i64 0, .string ⟨#[]⟩, .int .i64 0, .string ⟨#[47, 47, 97, 47, 120]⟩, .int .i64 2, .int .i64 2, .int .i64 5, .int .i64 1, .bool false, .bool false, .bool false, .int .u64 0, .int .i64 0, .string ⟨#[]⟩, .int .i64 0, .string ⟨#[47, 47, 97, 47, 121]⟩, .int .i64 1, .int .i64 2, .int .i64 4, .int .i64 1, .bool false, .bool false, .bool false, .int .u64 0, .int .i64 0, .string ⟨#[47, 47, 97, 47, 120]⟩, .int .i64 1] 40)).alloc (.cells #[.slice (some ⟨w.heap.size + 1, 0, none⟩) 3 3, .slice none 0 0] 28)) :=
    ((((BB.nil w).push [.int .i64 1, .bool false, .bool false, .bool false] 35 rfl).push [.string ⟨#[47, 47, 97, 47, 120]⟩, .int .i64 1, .int .i64 1, .int .i64 1, .int .i64 1, .bool false, .bool false, .bool false, .int .u64 0, .int .i64 0, .string ⟨#[]⟩, .int .i64 0, .string ⟨#[47, 47, 97, 47, 120]⟩, .int .i64 2, .int .i64 2, .int .i64 5, .int .i64 1, .bool false, .bool false, .bool false, .int .u64 0, .int .i64 0, .string ⟨#[]⟩, .int .i64 0, .string ⟨#[47, 47, 97, 47, 121]⟩, .int .i64 1, .int .i64 2, .int .i64 4, .int .i64 1, .bool false, .bool false, .bool false, .int .u64 0, .int .i64 0, .string ⟨#[47, 47, 97, 47, 120]⟩, .int .i64 1] 40 (g := w.heap.size + 1) (by simp)).push [.slice (some ⟨w.heap.size + 1, 0, none⟩) 3 3, .slice none 0 0] 28 (g := w.heap.size + 1 + 1) (by simp)).at_
  have HRV := Lib.hid (show RV _ (some ⟨w.heap.size + 1, 0, none⟩) 3 rsA from RR.of_bx (rows := rsA.map revV) (show BX _ (w.heap.size + 1) (rsA.map revV).flatten from HS.out.get 1 rfl) (revV_len _) (by decide) (by decide))
  unfold xA at hfe HLN
  unfold xA yA at HID
  clear hff hr3
  go_enter Tryd.func12, Tryd.ntmps12
  go_wp2_with (first
    | (go_at_call 14; refine (HID.out _ none 3 0 0 _ HRV.out).mono ?_; rintro e w1 ⟨rfl, hb⟩; replace HRV := Lib.hid (HRV.out.below hb); replace HS := HS.go2 (Below.refl _ _) hb; clear hb; obtain ⟨d0, d1⟩ := (HS.out.get 2 rfl).c2; have dl := (HS.out.get 2 rfl).2.2)
    | (go_at_call 18; refine (HLN.out _ none 3 0 0 _ (HRV.out.below (below_alloc _ _))).mono ?_; rintro e w2 ⟨A2, c2, rfl, _, hb, _⟩; have HB2 := Lib.hid (go3 (below_al HS.out.low _) hb); clear hb))
  go_ret
  exact ⟨rfl, HB2.out⟩
end Go.Proofs.YteagecjhpfijjaaDoor

