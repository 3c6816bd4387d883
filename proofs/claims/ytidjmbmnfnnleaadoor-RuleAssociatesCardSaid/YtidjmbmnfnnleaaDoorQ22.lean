/-
  The walk of the reference's Meet.
-/
import Derived.Test.YtidjmbmnfnnleaaDoorQ21
import Derived.Deep.DrawnRows
namespace Go.Proofs.YtidjmbmnfnnleaaDoor
set_option linter.unusedSimpArgs false
set_option linter.unusedVariables false
open Go.RowKit
open Pm

theorem PX.grown {w w' : World} {g : Nat} {u v : Value} {row : Option Nat} (h : PX w g u v) (hg : w.grownBy w' row) (hne : some g ≠ row) : PX w' g u v := by
  have hb := hg.block g h.2.2.2.2 hne
  exact ⟨(World.cell?_of_block (w := w) (a := ⟨g, 0, none⟩) hb).trans h.1, (World.cell?_of_block (w := w) (a := ⟨g, 1, none⟩) hb).trans h.2.1, (World.frozen?_of_block (w := w) (a := ⟨g, 0, none⟩) hb).trans h.2.2.1, (World.frozen?_of_block (w := w) (a := ⟨g, 1, none⟩) hb).trans h.2.2.2.1, Nat.lt_of_lt_of_le h.2.2.2.2 hg.size⟩
theorem PX.set_fst {w : World} {g : Nat} {u v : Value} (h : PX w g u v) (a : Value) : PX (w.setCell ⟨g, 0, none⟩ a) g a v := by
  refine ⟨World.cell?_setCell_same _ _ _ h.1, ?_, ?_, ?_, ?_⟩
  · rw [World.cell?_setCell_other _ _ _ _ (by simp)]; exact h.2.1
  · rw [World.frozen?_setCell]; exact h.2.2.1
  · rw [World.frozen?_setCell]; exact h.2.2.2.1
  · simpa using h.2.2.2.2

theorem mzAll_lo {us vs : List ByteArray} {k : Nat} {x y : ByteArray} (hx : us[k]? = some x) (hy : vs[k]? = some y) : (mzAll us vs).take (k + 1) = (mzAll us vs).take k ++ [nrw x y] := by
  have hz := zip_get hx hy
  have : (mzAll us vs)[k]? = some (nrw x y) := by
    unfold mzAll
    have hlt : k < ((us.zip vs).map (fun p => nrw p.1 p.2)).length := by
      rw [List.length_map]
      exact (List.getElem?_eq_some_iff.1 hz).1
    rw [List.getElem?_append_left hlt, List.getElem?_map, hz]
    rfl
  rw [List.take_add_one, this]
  rfl
theorem mzAll_hi {us vs : List ByteArray} {k : Nat} {x : ByteArray} (hl : vs.length ≤ us.length) (hx : us[k]? = some x) (hk : vs.length ≤ k) : (mzAll us vs).take (k + 1) = (mzAll us vs).take k ++ [x] := by
  have : (mzAll us vs)[k]? = some x := by
    unfold mzAll
    have hlen : ((us.zip vs).map (fun p => nrw p.1 p.2)).length = vs.length := by rw [List.length_map, List.length_zip]; omega
    rw [List.getElem?_append_right (by omega), hlen, List.getElem?_drop, show vs.length + (k - vs.length) = k by omega]
    exact hx
  rw [List.take_add_one, this]
  rfl
theorem zip_take_hi {us vs : List ByteArray} {k : Nat} (hk : vs.length ≤ k) : (us.zip vs).take (k + 1) = (us.zip vs).take k := by
  rw [List.take_of_length_le (by rw [List.length_zip]; omega), List.take_of_length_le (by rw [List.length_zip]; omega)]
theorem rins_any (x y : ByteArray) (w : World) (hx : x.size ≤ 9223372036854775807) (hy : y.size ≤ 9223372036854775807) (px : partB x = true) (py : partB y = true) :
    Calls Tryd.prog 70 #[.string x, .string y] w fun e w' => e = .returned (.bool (insB x y)) ∧ w = w' := by
  rw [ins_agree px py]
  exact rinside_any x y w hx hy
theorem nrw_cases (x y : ByteArray) : (insB x y = true ∧ nrw x y = x ∧ nrwOk x y = true) ∨ (insB x y = false ∧ insB y x = true ∧ nrw x y = y ∧ nrwOk x y = true) ∨ (insB x y = false ∧ insB y x = false ∧ nrwOk x y = false) := by
  unfold nrw nrwOk
  cases insB x y with
  | true => exact .inl ⟨rfl, rfl, rfl⟩
  | false =>
    cases insB y x with
    | true => exact .inr (.inl ⟨rfl, rfl, rfl, rfl⟩)
    | false => exact .inr (.inr ⟨rfl, rfl, rfl⟩)
theorem len_facts (n m : Nat) : (n < m ∧ decide (n < m) = true ∧ ((m : Int) == (n : Int)) = false) ∨ (n = m ∧ decide (n < m) = false ∧ decide (m < n) = false ∧ ((n : Int) == (m : Int)) = true) ∨ (m < n ∧ decide (n < m) = false ∧ decide (m < n) = true ∧ ((n : Int) == (m : Int)) = false) := by
  rcases Nat.lt_trichotomy n m with h | h | h
  · exact .inl ⟨h, decide_eq_true h, by rw [beq_eq_false_iff_ne]; omega⟩
  · subst h
    exact .inr (.inl ⟨rfl, by simp, by simp, by simp⟩)
  · exact .inr (.inr ⟨h, decide_eq_false (by omega), decide_eq_true h, by rw [beq_eq_false_iff_ne]; omega⟩)

set_option maxHeartbeats 2000000 in
theorem rmeet_chk (A B : Option Addr) (c d : Nat) (xs ys : List ByteArray) (r t : Bool) (w : World) (h : RT w A c xs) (k : RT w B d ys)
    (hsx : ∀ x ∈ xs, x.size ≤ 9223372036854775807) (hsy : ∀ x ∈ ys, x.size ≤ 9223372036854775807) (hb : ((checkP xs r == 0) && (checkP ys t == 0)) = false) :
    Calls Tryd.prog 46 #[.agg #[.slice A xs.length c, .bool r], .agg #[.slice B ys.length d, .bool t]] w (RetM w [] false false) := by
  have HI := P3.enter h k r t 24
  have HCX := Lib.hid (fun W (h : RT W A c xs) => rcheck_any A c xs r W h hsx)
  have HCY := Lib.hid (fun W (h : RT W B d ys) => rcheck_any B d ys t W h hsy)
  have hx1 := h.1
  have hx2 := h.2.1
  have hy1 := k.1
  have hy2 := k.2.1
  clear h k hsx hsy
  generalize checkP xs r = n at *
  generalize checkP ys t = m at *
  have hcase : ((n != 0) = true) ∨ ((n != 0) = false ∧ (m != 0) = true) := by
    by_cases hn : n = 0
    · by_cases hm : m = 0
      · subst hn; subst hm
        cases hb
      · exact .inr ⟨by rw [hn]; rfl, by rw [bne_iff_ne]; exact hm⟩
    · exact .inl (by rw [bne_iff_ne]; exact hn)
  clear hb
  rcases hcase with hn | ⟨hn, hm⟩ <;>
  · go_enter Tryd.func46, Tryd.ntmps46
    go_wp2_with (first
      | (go_at_call_of 41 (Value.agg #[.slice A xs.length c, .bool r]); ((with_reducible refine (HCX.out _ (P3.x (HI.go (by repeat (first | exact Below.refl _ _ | apply Below.drew | apply below_drewN | apply below_al))))).mono ?_); rintro e w1 ⟨rfl, hb⟩); replace HI := HI.go2 (by repeat (first | exact Below.refl _ _ | apply Below.drew | apply below_drewN | apply below_al)) hb; clear hb; obtain ⟨⟨p1, p2, p3, p4, p5⟩, ⟨q1, q2, q3, q4, q5⟩, ⟨r1, r2, r3, r4, r5⟩⟩ := P3.cells HI)
      | (go_at_call_of 41 (Value.agg #[.slice B ys.length d, .bool t]); ((with_reducible refine (HCY.out _ (P3.y (HI.go (by repeat (first | exact Below.refl _ _ | apply Below.drew | apply below_drewN | apply below_al))))).mono ?_); rintro e w1 ⟨rfl, hb⟩); replace HI := HI.go2 (by repeat (first | exact Below.refl _ _ | apply Below.drew | apply below_drewN | apply below_al)) hb; clear hb; obtain ⟨⟨p1, p2, p3, p4, p5⟩, ⟨q1, q2, q3, q4, q5⟩, ⟨r1, r2, r3, r4, r5⟩⟩ := P3.cells HI)
      )
    refine bodyPost_ret (v := .tuple #[.agg #[.slice none 0 0, .bool false], .bool false]) (by simp [results, Tryd.results46, go_sem, r1, r2, r3, r4]) rfl ⟨none, 0, rfl, RT.nil _ _ _ (by omega), ?_⟩
    exact below_box (P3.b HI) (by omega) _ _

set_option maxHeartbeats 4000000 in
theorem rmeet_len (A B : Option Addr) (c d : Nat) (xs ys : List ByteArray) (r t : Bool) (w : World) (h : RT w A c xs) (k : RT w B d ys)
    (hsx : ∀ x ∈ xs, x.size ≤ 9223372036854775807) (hsy : ∀ x ∈ ys, x.size ≤ 9223372036854775807) (hn : checkP xs r = 0) (hm : checkP ys t = 0) (hco : compatB xs.length r ys.length t = false) :
    Calls Tryd.prog 46 #[.agg #[.slice A xs.length c, .bool r], .agg #[.slice B ys.length d, .bool t]] w (RetM w [] false false) := by
  have HI := P3.enter h k r t 24
  have HCX := Lib.hid (fun W (h : RT W A c xs) => rcheck_any A c xs r W h hsx)
  have HCY := Lib.hid (fun W (h : RT W B d ys) => rcheck_any B d ys t W h hsy)
  have hx1 := h.1
  have hx2 := h.2.1
  have hy1 := k.1
  have hy2 := k.2.1
  rw [hn] at HCX
  rw [hm] at HCY
  clear h k hsx hsy hn hm
  rcases len_facts xs.length ys.length with ⟨f0, f1, f2⟩ | hf
  · cases r <;> cases t <;>
    first
    | (exfalso; unfold compatB at hco; (simp at hco <;> omega))
    | (clear hco f0
       go_enter Tryd.func46, Tryd.ntmps46
       go_wp2_with (first
         | (go_at_call_of 41 (Value.agg #[.slice A xs.length c, .bool true]); ((with_reducible refine (HCX.out _ (P3.x (HI.go (by repeat (first | exact Below.refl _ _ | apply Below.drew | apply below_drewN | apply below_al))))).mono ?_); rintro e w1 ⟨rfl, hb⟩); replace HI := HI.go2 (by repeat (first | exact Below.refl _ _ | apply Below.drew | apply below_drewN | apply below_al)) hb; clear hb; obtain ⟨⟨p1, p2, p3, p4, p5⟩, ⟨q1, q2, q3, q4, q5⟩, ⟨r1, r2, r3, r4, r5⟩⟩ := P3.cells HI)
         | (go_at_call_of 41 (Value.agg #[.slice B ys.length d, .bool true]); ((with_reducible refine (HCY.out _ (P3.y (HI.go (by repeat (first | exact Below.refl _ _ | apply Below.drew | apply below_drewN | apply below_al))))).mono ?_); rintro e w1 ⟨rfl, hb⟩); replace HI := HI.go2 (by repeat (first | exact Below.refl _ _ | apply Below.drew | apply below_drewN | apply below_al)) hb; clear hb; obtain ⟨⟨p1, p2, p3, p4, p5⟩, ⟨q1, q2, q3, q4, q5⟩, ⟨r1, r2, r3, r4, r5⟩⟩ := P3.cells HI)
         | (go_at_call_of 41 (Value.agg #[.slice A xs.length c, .bool false]); ((with_reducible refine (HCX.out _ (P3.x (HI.go (by repeat (first | exact Below.refl _ _ | apply Below.drew | apply below_drewN | apply below_al))))).mono ?_); rintro e w1 ⟨rfl, hb⟩); replace HI := HI.go2 (by repeat (first | exact Below.refl _ _ | apply Below.drew | apply below_drewN | apply below_al)) hb; clear hb; obtain ⟨⟨p1, p2, p3, p4, p5⟩, ⟨q1, q2, q3, q4, q5⟩, ⟨r1, r2, r3, r4, r5⟩⟩ := P3.cells HI)
         | (go_at_call_of 41 (Value.agg #[.slice B ys.length d, .bool false]); ((with_reducible refine (HCY.out _ (P3.y (HI.go (by repeat (first | exact Below.refl _ _ | apply Below.drew | apply below_drewN | apply below_al))))).mono ?_); rintro e w1 ⟨rfl, hb⟩); replace HI := HI.go2 (by repeat (first | exact Below.refl _ _ | apply Below.drew | apply below_drewN | apply below_al)) hb; clear hb; obtain ⟨⟨p1, p2, p3, p4, p5⟩, ⟨q1, q2, q3, q4, q5⟩, ⟨r1, r2, r3, r4, r5⟩⟩ := P3.cells HI)
         )
       refine bodyPost_ret (v := .tuple #[.agg #[.slice none 0 0, .bool false], .bool false]) (by simp [results, Tryd.results46, go_sem, r1, r2, r3, r4]) rfl ⟨none, 0, rfl, RT.nil _ _ _ (by omega), ?_⟩
       exact below_box (P3.b (P3.swap HI)) (by omega) _ _)
  · rcases hf with ⟨f0, f1, f2, f3⟩ | ⟨f0, f1, f2, f3⟩ <;> cases r <;> cases t <;>
    first
    | (exfalso; unfold compatB at hco; (simp at hco <;> omega))
    | (clear hco f0
       go_enter Tryd.func46, Tryd.ntmps46
       go_wp2_with (first
         | (go_at_call_of 41 (Value.agg #[.slice A xs.length c, .bool true]); ((with_reducible refine (HCX.out _ (P3.x (HI.go (by repeat (first | exact Below.refl _ _ | apply Below.drew | apply below_drewN | apply below_al))))).mono ?_); rintro e w1 ⟨rfl, hb⟩); replace HI := HI.go2 (by repeat (first | exact Below.refl _ _ | apply Below.drew | apply below_drewN | apply below_al)) hb; clear hb; obtain ⟨⟨p1, p2, p3, p4, p5⟩, ⟨q1, q2, q3, q4, q5⟩, ⟨r1, r2, r3, r4, r5⟩⟩ := P3.cells HI)
         | (go_at_call_of 41 (Value.agg #[.slice B ys.length d, .bool true]); ((with_reducible refine (HCY.out _ (P3.y (HI.go (by repeat (first | exact Below.refl _ _ | apply Below.drew | apply below_drewN | apply below_al))))).mono ?_); rintro e w1 ⟨rfl, hb⟩); replace HI := HI.go2 (by repeat (first | exact Below.refl _ _ | apply Below.drew | apply below_drewN | apply below_al)) hb; clear hb; obtain ⟨⟨p1, p2, p3, p4, p5⟩, ⟨q1, q2, q3, q4, q5⟩, ⟨r1, r2, r3, r4, r5⟩⟩ := P3.cells HI)
         | (go_at_call_of 41 (Value.agg #[.slice A xs.length c, .bool false]); ((with_reducible refine (HCX.out _ (P3.x (HI.go (by repeat (first | exact Below.refl _ _ | apply Below.drew | apply below_drewN | apply below_al))))).mono ?_); rintro e w1 ⟨rfl, hb⟩); replace HI := HI.go2 (by repeat (first | exact Below.refl _ _ | apply Below.drew | apply below_drewN | apply below_al)) hb; clear hb; obtain ⟨⟨p1, p2, p3, p4, p5⟩, ⟨q1, q2, q3, q4, q5⟩, ⟨r1, r2, r3, r4, r5⟩⟩ := P3.cells HI)
         | (go_at_call_of 41 (Value.agg #[.slice B ys.length d, .bool false]); ((with_reducible refine (HCY.out _ (P3.y (HI.go (by repeat (first | exact Below.refl _ _ | apply Below.drew | apply below_drewN | apply below_al))))).mono ?_); rintro e w1 ⟨rfl, hb⟩); replace HI := HI.go2 (by repeat (first | exact Below.refl _ _ | apply Below.drew | apply below_drewN | apply below_al)) hb; clear hb; obtain ⟨⟨p1, p2, p3, p4, p5⟩, ⟨q1, q2, q3, q4, q5⟩, ⟨r1, r2, r3, r4, r5⟩⟩ := P3.cells HI)
         )
       refine bodyPost_ret (v := .tuple #[.agg #[.slice none 0 0, .bool false], .bool false]) (by simp [results, Tryd.results46, go_sem, r1, r2, r3, r4]) rfl ⟨none, 0, rfl, RT.nil _ _ _ (by omega), ?_⟩
       exact below_box (P3.b HI) (by omega) _ _)


set_option maxHeartbeats 8000000 in
theorem rmeet_noswap (A B : Option Addr) (c d : Nat) (xs ys : List ByteArray) (r t : Bool) (w : World) (h : RT w A c xs) (k : RT w B d ys)
    (hsx : ∀ x ∈ xs, x.size ≤ 9223372036854775807) (hsy : ∀ x ∈ ys, x.size ≤ 9223372036854775807) (hn : checkP xs r = 0) (hm : checkP ys t = 0) (hco : compatB xs.length r ys.length t = true) (hle : ys.length ≤ xs.length) :
    Calls Tryd.prog 46 #[.agg #[.slice A xs.length c, .bool r], .agg #[.slice B ys.length d, .bool t]] w (RetMO w (mzAll xs ys) (r && t) (okOf nrwOk (xs.zip ys))) := by
  have HI := P3.enter h k r t 24
  have HCX := Lib.hid (fun W (h : RT W A c xs) => rcheck_any A c xs r W h hsx)
  have HCY := Lib.hid (fun W (h : RT W B d ys) => rcheck_any B d ys t W h hsy)
  have hx1 := h.1
  have hx2 := h.2.1
  have hy1 := k.1
  have hy2 := k.2.1
  have hx12 := (check_zero hn).2.1
  have hy12 := (check_zero hm).2.1
  have HLE := Lib.hid hle
  have HSX := Lib.hid hsx
  have HSY := Lib.hid hsy
  have HPX1 := Lib.hid (parts_all (check_zero hn).2.2)
  have HPY1 := Lib.hid (parts_all (check_zero hm).2.2)
  rw [hn] at HCX
  rw [hm] at HCY
  clear h k hsx hsy hn hm
  rcases len_facts xs.length ys.length with ⟨f0, f1, f2⟩ | ⟨f0, f1, f2, f3⟩ | ⟨f0, f1, f2, f3⟩
  · exfalso; omega
  · obtain rfl : r = t := by
      unfold compatB at hco
      cases r <;> cases t <;> first | rfl | (simp at hco <;> omega)
    rw [Bool.and_self]
    clear hco f0
    go_enter Tryd.func46, Tryd.ntmps46
    go_wp2_with (first
       | (go_at_call_of 41 (Value.agg #[.slice A xs.length c, .bool r]); ((with_reducible refine (HCX.out _ (P3.x (HI.go (by repeat (first | exact Below.refl _ _ | apply Below.drew | apply below_drewN | apply below_al))))).mono ?_); rintro e w1 ⟨rfl, hb⟩); replace HI := HI.go2 (by repeat (first | exact Below.refl _ _ | apply Below.drew | apply below_drewN | apply below_al)) hb; clear hb; obtain ⟨⟨p1, p2, p3, p4, p5⟩, ⟨q1, q2, q3, q4, q5⟩, ⟨r1, r2, r3, r4, r5⟩⟩ := P3.cells HI)
       | (go_at_call_of 41 (Value.agg #[.slice B ys.length d, .bool r]); ((with_reducible refine (HCY.out _ (P3.y (HI.go (by repeat (first | exact Below.refl _ _ | apply Below.drew | apply below_drewN | apply below_al))))).mono ?_); rintro e w1 ⟨rfl, hb⟩); replace HI := HI.go2 (by repeat (first | exact Below.refl _ _ | apply Below.drew | apply below_drewN | apply below_al)) hb; clear hb; obtain ⟨⟨p1, p2, p3, p4, p5⟩, ⟨q1, q2, q3, q4, q5⟩, ⟨r1, r2, r3, r4, r5⟩⟩ := P3.cells HI)
       )
    have HWZ : Hid ((w1).heap.size = w1.heap.size) := Lib.hid (by simp)
    go_loopw [62] (fun i wr => ∃ (k : Nat) (ov : Value), k ≤ xs.length ∧ i = .int .i64 k ∧ Hid (PX wr w1.heap.size ov (.bool r)) ∧ Hid (OT wr (w1.heap.size + 1) ov ((mzAll xs ys).take k)) ∧ Hid (okOf nrwOk ((xs.zip ys).take k) = true) ∧ Hid (Below w1.heap.size (w1) wr)) (fun i _ => xs.length - (intOf i).toNat)
    case atStart => exact ⟨0, .slice none 0 0, Nat.zero_le _, rfl, Lib.hid (by simpa using PX.new (w1) (.slice none 0 0) (.bool r) 24), Lib.hid (OT.nil _ _), Lib.hid rfl, Lib.hid (by have := below_alloc (w1) (.cells #[.slice none 0 0, .bool r] 24); rw [HWZ.out] at this; exact this)⟩
    case round =>
       obtain ⟨k, ov, hk, rfl, HPX, HO, HOK, HBL⟩ := hrel
       have HJ := HI.go (by rw [HWZ.out]; exact HBL.out)
       have hsz := HBL.out.size
       rw [HWZ.out] at hsz
       obtain ⟨⟨p1, p2, p3, p4, p5⟩, ⟨q1, q2, q3, q4, q5⟩, ⟨r1, r2, r3, r4, r5⟩⟩ := P3.cells HJ
       obtain ⟨x1, x2, x3, x4, x5⟩ := HPX.out
       have HLN : Hid (((mzAll xs ys).take k).length ≤ 1000) := Lib.hid (by rw [List.length_take]; omega)
       by_cases hlt : k < xs.length
       · obtain ⟨x, hx⟩ : ∃ x, xs[k]? = some x := ⟨_, List.getElem?_eq_getElem hlt⟩
         obtain ⟨b1, o1, rfl, hb1, hc1⟩ := (P3.x HJ).2.2 (by omega)
         have hcx := hc1 k x hx
         generalize hdn : (mzAll xs ys).take k = dn at HO HLN
         have HDN := Lib.hid hdn
         clear hdn
         have hxz := HSX.out x (List.mem_of_getElem? hx)
         have hxp := HPX1.out x (List.mem_of_getElem? hx)
         clear hc1 hb1
         by_cases hge : ys.length ≤ k
         · have hgB : decide (ys.length ≤ k) = true := decide_eq_true hge
           have HTK := Lib.hid (mzAll_hi HLE.out hx hge)
           have HOK2 : Hid (okOf nrwOk ((xs.zip ys).take (k + 1)) = true) := Lib.hid (by rw [zip_take_hi hge]; exact HOK.out)
           have HRI : Hid True := Lib.hid trivial
           clear hx hxp
           go_wp2_with (first
             | (go_at_call_of 70 (Value.string x); ((with_reducible refine (HRI.out).mono ?_); rintro e w' ⟨rfl, rfl⟩))
             | (at_builtin; refine wpList_append_texts rfl _ _ rfl (w1.heap.size + 1) _ _ [x] _ 1 rfl rfl (HO.out.below (below_alloc _ _)) (RT.one _ _ _) (by have := HLN.out; simp only [List.length_singleton]; omega) (by simp; omega) ?_; intro v1 w3 hown hg _; have HX3 := Lib.hid ((HPX.out.below (below_alloc _ _)).grown hg (fun h => by have := HO.out.own _ h.symm; omega)); obtain ⟨x1, x2, x3, x4, x5⟩ := HX3.out; have HBL3 := Lib.hid ((HBL.out.alloc (by omega) _).grown hg (by simp; omega) (fun k hk => by have := HO.out.own k hk; omega)); obtain ⟨g1, cap1, hv, -, -, -, hcp⟩ := hown.block (by simp); rw [List.length_append, List.length_singleton] at hv; subst hv; have HOW := Lib.hid hown; clear hown hg))
           go_roundw
           case rel => exact ⟨k + 1, _, by omega, by go_num, Lib.hid (HX3.out.set_fst _), Lib.hid (by rw [HTK.out, HDN.out]; exact HOW.out.other (p := ⟨w1.heap.size, 0, none⟩) (Nat.lt_succ_self _) _), HOK2, Lib.hid (HBL3.out.setCell (p := ⟨w1.heap.size, 0, none⟩) (Nat.le_refl _) _)⟩
           case measure => simp [intOf]; omega
         · have hgB : decide (ys.length ≤ k) = false := decide_eq_false hge
           have hlv : k < ys.length := by omega
           obtain ⟨y, hy⟩ : ∃ y, ys[k]? = some y := ⟨_, List.getElem?_eq_getElem hlv⟩
           obtain ⟨b2, o2, rfl, hb2, hc2⟩ := (P3.y HJ).2.2 (by omega)
           have hcy := hc2 k y hy
           have hyz := HSY.out y (List.mem_of_getElem? hy)
           have hyp := HPY1.out y (List.mem_of_getElem? hy)
           have HTK := Lib.hid (mzAll_lo hx hy)
           have HZ := Lib.hid (zip_get hx hy)
           have HRI := Lib.hid (fun W => rins_any x y W hxz hyz hxp hyp)
           have HRJ := Lib.hid (fun W => rins_any y x W hyz hxz hyp hxp)
           clear hc2 hb2 hx hy hxp hyp
           have hgI : (ys.length : Int) ≤ 12 := by have := HLE.out; omega
           rcases nrw_cases x y with ⟨hi1, hn1, hk1⟩ | ⟨hi1, hi2, hn1, hk1⟩ | ⟨hi1, hi2, hk1⟩
           · have HOK2 := Lib.hid (ok_step (g := nrwOk) HZ.out HOK.out hk1)
             rw [hn1] at HTK
             rw [hi1] at HRI
             clear hn1 hk1 hi1 HRJ
             go_wp2_with (first
               | (go_at_call_of 70 (Value.string x); ((with_reducible refine (HRI.out _).mono ?_); rintro e w' ⟨rfl, rfl⟩))
               | (at_builtin; refine wpList_append_texts rfl _ _ rfl (w1.heap.size + 1) _ _ [x] _ 1 rfl rfl (HO.out.below (below_alloc _ _)) (RT.one _ _ _) (by have := HLN.out; simp only [List.length_singleton]; omega) (by simp; omega) ?_; intro v1 w3 hown hg _; have HX3 := Lib.hid ((HPX.out.below (below_alloc _ _)).grown hg (fun h => by have := HO.out.own _ h.symm; omega)); obtain ⟨x1, x2, x3, x4, x5⟩ := HX3.out; have HBL3 := Lib.hid ((HBL.out.alloc (by omega) _).grown hg (by simp; omega) (fun k hk => by have := HO.out.own k hk; omega)); obtain ⟨g1, cap1, hv, -, -, -, hcp⟩ := hown.block (by simp); rw [List.length_append, List.length_singleton] at hv; subst hv; have HOW := Lib.hid hown; clear hown hg))
             go_roundw
             case rel => exact ⟨k + 1, _, by omega, by go_num, Lib.hid (HX3.out.set_fst _), Lib.hid (by rw [HTK.out, HDN.out]; exact HOW.out.other (p := ⟨w1.heap.size, 0, none⟩) (Nat.lt_succ_self _) _), HOK2, Lib.hid (HBL3.out.setCell (p := ⟨w1.heap.size, 0, none⟩) (Nat.le_refl _) _)⟩
             case measure => simp [intOf]; omega
           · have HOK2 := Lib.hid (ok_step (g := nrwOk) HZ.out HOK.out hk1)
             rw [hn1] at HTK
             rw [hi1] at HRI
             rw [hi2] at HRJ
             clear hn1 hk1 hi1 hi2
             go_wp2_with (first
               | (go_at_call_of 70 (Value.string x); ((with_reducible refine (HRI.out _).mono ?_); rintro e w' ⟨rfl, rfl⟩))
               | (go_at_call_of 70 (Value.string y); ((with_reducible refine (HRJ.out _).mono ?_); rintro e w' ⟨rfl, rfl⟩)))
             go_region_law (refine step_append_texts rfl _ _ rfl (w1.heap.size + 1) _ _ [y] _ 1 rfl rfl (HO.out.below (by repeat (first | exact Below.refl _ _ | apply Below.drew | apply below_drewN | apply below_al))) ((RT.one wr y 9).below (by repeat (first | exact Below.refl _ _ | apply Below.drew | apply below_drewN | apply below_al))) (by have := HLN.out; simp only [List.length_singleton]; omega) (by simp; omega) ?_; intro v1 w3 hown hg _; have HX3 := Lib.hid ((HPX.out.below (by repeat (first | exact Below.refl _ _ | apply Below.drew | apply below_al))).grown hg (fun h => by have := HO.out.own _ h.symm; omega)); obtain ⟨x1, x2, x3, x4, x5⟩ := HX3.out; have HBL3 := Lib.hid (((HBL.out.alloc (by omega) (.cells #[.string y] 9)).drew).grown hg (by simp; omega) (fun k hk => by have := HO.out.own k hk; omega)); obtain ⟨g1, cap1, hv, -, -, -, hcp⟩ := hown.block (by simp); rw [List.length_append, List.length_singleton] at hv; subst hv; have HOW := Lib.hid hown; clear hown hg)
             all_goals (go_wp2_with fail)
             all_goals
               go_roundw
               case rel => exact ⟨k + 1, _, by omega, by go_num, Lib.hid (HX3.out.set_fst _), Lib.hid (by rw [HTK.out, HDN.out]; exact HOW.out.other (p := ⟨w1.heap.size, 0, none⟩) (Nat.lt_succ_self _) _), HOK2, Lib.hid (HBL3.out.setCell (p := ⟨w1.heap.size, 0, none⟩) (Nat.le_refl _) _)⟩
               case measure => simp [intOf]; omega
           · have HN := Lib.hid (ok_miss (g := nrwOk) HZ.out hk1)
             rw [hi1] at HRI
             rw [hi2] at HRJ
             clear hk1 hi1 hi2
             go_wp2_with (first
               | (go_at_call_of 70 (Value.string x); ((with_reducible refine (HRI.out _).mono ?_); rintro e w' ⟨rfl, rfl⟩))
               | (go_at_call_of 70 (Value.string y); ((with_reducible refine (HRJ.out _).mono ?_); rintro e w' ⟨rfl, rfl⟩)))
             refine bodyPost_ret (v := .tuple #[.agg #[.slice none 0 0, .bool false], .bool false]) (by simp [results, Tryd.results46, go_sem, r1, r2, r3, r4]) rfl ⟨fun h => absurd (HN.out.symm.trans h) (by decide), fun _ => ⟨none, 0, rfl, RT.nil _ _ _ (by omega), ?_⟩⟩
             exact below_box (P3.b HJ) (by omega) _ _
       · have HN : Hid (okOf nrwOk (xs.zip ys) = true) := Lib.hid (by
           have := HOK.out
           rwa [List.take_of_length_le (by rw [List.length_zip]; omega)] at this)
         have HM := Lib.hid HO.out
         have HML := Lib.hid (mzAll_len HLE.out)
         rw [List.take_of_length_le (by have := HML.out; omega)] at HM
         obtain ⟨C, cc, rfl, hrt⟩ := HM.out.read
         have HRT := Lib.hid hrt
         have hm1 := hrt.1
         have hm2 := hrt.2.1
         clear hrt
         go_wp2_with fail
         refine bodyPost_ret (v := .tuple #[.agg #[.slice C (mzAll xs ys).length cc, .bool r], .bool true]) (by simp [results, Tryd.results46, go_sem, r1, r2, r3, r4]) rfl ⟨fun _ => ⟨C, cc, rfl, ?_, ?_⟩, fun h => absurd (HN.out.symm.trans h) (by decide)⟩
         · exact HRT.out.box ⟨r1, r2, r3, r4, r5⟩ (slice_ns _ _ _) (bool_ns _) _ _
         · exact below_box (P3.b HJ) (by omega) _ _
  · obtain rfl : t = true := by
      unfold compatB at hco
      cases r <;> cases t <;> first | rfl | (simp at hco <;> omega)
    rw [Bool.and_true]
    clear hco f0
    go_enter Tryd.func46, Tryd.ntmps46
    go_wp2_with (first
       | (go_at_call_of 41 (Value.agg #[.slice A xs.length c, .bool r]); ((with_reducible refine (HCX.out _ (P3.x (HI.go (by repeat (first | exact Below.refl _ _ | apply Below.drew | apply below_drewN | apply below_al))))).mono ?_); rintro e w1 ⟨rfl, hb⟩); replace HI := HI.go2 (by repeat (first | exact Below.refl _ _ | apply Below.drew | apply below_drewN | apply below_al)) hb; clear hb; obtain ⟨⟨p1, p2, p3, p4, p5⟩, ⟨q1, q2, q3, q4, q5⟩, ⟨r1, r2, r3, r4, r5⟩⟩ := P3.cells HI)
       | (go_at_call_of 41 (Value.agg #[.slice B ys.length d, .bool true]); ((with_reducible refine (HCY.out _ (P3.y (HI.go (by repeat (first | exact Below.refl _ _ | apply Below.drew | apply below_drewN | apply below_al))))).mono ?_); rintro e w1 ⟨rfl, hb⟩); replace HI := HI.go2 (by repeat (first | exact Below.refl _ _ | apply Below.drew | apply below_drewN | apply below_al)) hb; clear hb; obtain ⟨⟨p1, p2, p3, p4, p5⟩, ⟨q1, q2, q3, q4, q5⟩, ⟨r1, r2, r3, r4, r5⟩⟩ := P3.cells HI)
       )
    have HWZ : Hid ((w1).heap.size = w1.heap.size) := Lib.hid (by simp)
    go_loopw [62] (fun i wr => ∃ (k : Nat) (ov : Value), k ≤ xs.length ∧ i = .int .i64 k ∧ Hid (PX wr w1.heap.size ov (.bool r)) ∧ Hid (OT wr (w1.heap.size + 1) ov ((mzAll xs ys).take k)) ∧ Hid (okOf nrwOk ((xs.zip ys).take k) = true) ∧ Hid (Below w1.heap.size (w1) wr)) (fun i _ => xs.length - (intOf i).toNat)
    case atStart => exact ⟨0, .slice none 0 0, Nat.zero_le _, rfl, Lib.hid (by simpa using PX.new (w1) (.slice none 0 0) (.bool r) 24), Lib.hid (OT.nil _ _), Lib.hid rfl, Lib.hid (by have := below_alloc (w1) (.cells #[.slice none 0 0, .bool r] 24); rw [HWZ.out] at this; exact this)⟩
    case round =>
       obtain ⟨k, ov, hk, rfl, HPX, HO, HOK, HBL⟩ := hrel
       have HJ := HI.go (by rw [HWZ.out]; exact HBL.out)
       have hsz := HBL.out.size
       rw [HWZ.out] at hsz
       obtain ⟨⟨p1, p2, p3, p4, p5⟩, ⟨q1, q2, q3, q4, q5⟩, ⟨r1, r2, r3, r4, r5⟩⟩ := P3.cells HJ
       obtain ⟨x1, x2, x3, x4, x5⟩ := HPX.out
       have HLN : Hid (((mzAll xs ys).take k).length ≤ 1000) := Lib.hid (by rw [List.length_take]; omega)
       by_cases hlt : k < xs.length
       · obtain ⟨x, hx⟩ : ∃ x, xs[k]? = some x := ⟨_, List.getElem?_eq_getElem hlt⟩
         obtain ⟨b1, o1, rfl, hb1, hc1⟩ := (P3.x HJ).2.2 (by omega)
         have hcx := hc1 k x hx
         generalize hdn : (mzAll xs ys).take k = dn at HO HLN
         have HDN := Lib.hid hdn
         clear hdn
         have hxz := HSX.out x (List.mem_of_getElem? hx)
         have hxp := HPX1.out x (List.mem_of_getElem? hx)
         clear hc1 hb1
         by_cases hge : ys.length ≤ k
         · have hgB : decide (ys.length ≤ k) = true := decide_eq_true hge
           have HTK := Lib.hid (mzAll_hi HLE.out hx hge)
           have HOK2 : Hid (okOf nrwOk ((xs.zip ys).take (k + 1)) = true) := Lib.hid (by rw [zip_take_hi hge]; exact HOK.out)
           have HRI : Hid True := Lib.hid trivial
           clear hx hxp
           go_wp2_with (first
             | (go_at_call_of 70 (Value.string x); ((with_reducible refine (HRI.out).mono ?_); rintro e w' ⟨rfl, rfl⟩))
             | (at_builtin; refine wpList_append_texts rfl _ _ rfl (w1.heap.size + 1) _ _ [x] _ 1 rfl rfl (HO.out.below (below_alloc _ _)) (RT.one _ _ _) (by have := HLN.out; simp only [List.length_singleton]; omega) (by simp; omega) ?_; intro v1 w3 hown hg _; have HX3 := Lib.hid ((HPX.out.below (below_alloc _ _)).grown hg (fun h => by have := HO.out.own _ h.symm; omega)); obtain ⟨x1, x2, x3, x4, x5⟩ := HX3.out; have HBL3 := Lib.hid ((HBL.out.alloc (by omega) _).grown hg (by simp; omega) (fun k hk => by have := HO.out.own k hk; omega)); obtain ⟨g1, cap1, hv, -, -, -, hcp⟩ := hown.block (by simp); rw [List.length_append, List.length_singleton] at hv; subst hv; have HOW := Lib.hid hown; clear hown hg))
           go_roundw
           case rel => exact ⟨k + 1, _, by omega, by go_num, Lib.hid (HX3.out.set_fst _), Lib.hid (by rw [HTK.out, HDN.out]; exact HOW.out.other (p := ⟨w1.heap.size, 0, none⟩) (Nat.lt_succ_self _) _), HOK2, Lib.hid (HBL3.out.setCell (p := ⟨w1.heap.size, 0, none⟩) (Nat.le_refl _) _)⟩
           case measure => simp [intOf]; omega
         · have hgB : decide (ys.length ≤ k) = false := decide_eq_false hge
           have hlv : k < ys.length := by omega
           obtain ⟨y, hy⟩ : ∃ y, ys[k]? = some y := ⟨_, List.getElem?_eq_getElem hlv⟩
           obtain ⟨b2, o2, rfl, hb2, hc2⟩ := (P3.y HJ).2.2 (by omega)
           have hcy := hc2 k y hy
           have hyz := HSY.out y (List.mem_of_getElem? hy)
           have hyp := HPY1.out y (List.mem_of_getElem? hy)
           have HTK := Lib.hid (mzAll_lo hx hy)
           have HZ := Lib.hid (zip_get hx hy)
           have HRI := Lib.hid (fun W => rins_any x y W hxz hyz hxp hyp)
           have HRJ := Lib.hid (fun W => rins_any y x W hyz hxz hyp hxp)
           clear hc2 hb2 hx hy hxp hyp
           have hgI : (ys.length : Int) ≤ 12 := by have := HLE.out; omega
           rcases nrw_cases x y with ⟨hi1, hn1, hk1⟩ | ⟨hi1, hi2, hn1, hk1⟩ | ⟨hi1, hi2, hk1⟩
           · have HOK2 := Lib.hid (ok_step (g := nrwOk) HZ.out HOK.out hk1)
             rw [hn1] at HTK
             rw [hi1] at HRI
             clear hn1 hk1 hi1 HRJ
             go_wp2_with (first
               | (go_at_call_of 70 (Value.string x); ((with_reducible refine (HRI.out _).mono ?_); rintro e w' ⟨rfl, rfl⟩))
               | (at_builtin; refine wpList_append_texts rfl _ _ rfl (w1.heap.size + 1) _ _ [x] _ 1 rfl rfl (HO.out.below (below_alloc _ _)) (RT.one _ _ _) (by have := HLN.out; simp only [List.length_singleton]; omega) (by simp; omega) ?_; intro v1 w3 hown hg _; have HX3 := Lib.hid ((HPX.out.below (below_alloc _ _)).grown hg (fun h => by have := HO.out.own _ h.symm; omega)); obtain ⟨x1, x2, x3, x4, x5⟩ := HX3.out; have HBL3 := Lib.hid ((HBL.out.alloc (by omega) _).grown hg (by simp; omega) (fun k hk => by have := HO.out.own k hk; omega)); obtain ⟨g1, cap1, hv, -, -, -, hcp⟩ := hown.block (by simp); rw [List.length_append, List.length_singleton] at hv; subst hv; have HOW := Lib.hid hown; clear hown hg))
             go_roundw
             case rel => exact ⟨k + 1, _, by omega, by go_num, Lib.hid (HX3.out.set_fst _), Lib.hid (by rw [HTK.out, HDN.out]; exact HOW.out.other (p := ⟨w1.heap.size, 0, none⟩) (Nat.lt_succ_self _) _), HOK2, Lib.hid (HBL3.out.setCell (p := ⟨w1.heap.size, 0, none⟩) (Nat.le_refl _) _)⟩
             case measure => simp [intOf]; omega
           · have HOK2 := Lib.hid (ok_step (g := nrwOk) HZ.out HOK.out hk1)
             rw [hn1] at HTK
             rw [hi1] at HRI
             rw [hi2] at HRJ
             clear hn1 hk1 hi1 hi2
             go_wp2_with (first
               | (go_at_call_of 70 (Value.string x); ((with_reducible refine (HRI.out _).mono ?_); rintro e w' ⟨rfl, rfl⟩))
               | (go_at_call_of 70 (Value.string y); ((with_reducible refine (HRJ.out _).mono ?_); rintro e w' ⟨rfl, rfl⟩)))
             go_region_law (refine step_append_texts rfl _ _ rfl (w1.heap.size + 1) _ _ [y] _ 1 rfl rfl (HO.out.below (by repeat (first | exact Below.refl _ _ | apply Below.drew | apply below_drewN | apply below_al))) ((RT.one wr y 9).below (by repeat (first | exact Below.refl _ _ | apply Below.drew | apply below_drewN | apply below_al))) (by have := HLN.out; simp only [List.length_singleton]; omega) (by simp; omega) ?_; intro v1 w3 hown hg _; have HX3 := Lib.hid ((HPX.out.below (by repeat (first | exact Below.refl _ _ | apply Below.drew | apply below_al))).grown hg (fun h => by have := HO.out.own _ h.symm; omega)); obtain ⟨x1, x2, x3, x4, x5⟩ := HX3.out; have HBL3 := Lib.hid (((HBL.out.alloc (by omega) (.cells #[.string y] 9)).drew).grown hg (by simp; omega) (fun k hk => by have := HO.out.own k hk; omega)); obtain ⟨g1, cap1, hv, -, -, -, hcp⟩ := hown.block (by simp); rw [List.length_append, List.length_singleton] at hv; subst hv; have HOW := Lib.hid hown; clear hown hg)
             all_goals (go_wp2_with fail)
             all_goals
               go_roundw
               case rel => exact ⟨k + 1, _, by omega, by go_num, Lib.hid (HX3.out.set_fst _), Lib.hid (by rw [HTK.out, HDN.out]; exact HOW.out.other (p := ⟨w1.heap.size, 0, none⟩) (Nat.lt_succ_self _) _), HOK2, Lib.hid (HBL3.out.setCell (p := ⟨w1.heap.size, 0, none⟩) (Nat.le_refl _) _)⟩
               case measure => simp [intOf]; omega
           · have HN := Lib.hid (ok_miss (g := nrwOk) HZ.out hk1)
             rw [hi1] at HRI
             rw [hi2] at HRJ
             clear hk1 hi1 hi2
             go_wp2_with (first
               | (go_at_call_of 70 (Value.string x); ((with_reducible refine (HRI.out _).mono ?_); rintro e w' ⟨rfl, rfl⟩))
               | (go_at_call_of 70 (Value.string y); ((with_reducible refine (HRJ.out _).mono ?_); rintro e w' ⟨rfl, rfl⟩)))
             refine bodyPost_ret (v := .tuple #[.agg #[.slice none 0 0, .bool false], .bool false]) (by simp [results, Tryd.results46, go_sem, r1, r2, r3, r4]) rfl ⟨fun h => absurd (HN.out.symm.trans h) (by decide), fun _ => ⟨none, 0, rfl, RT.nil _ _ _ (by omega), ?_⟩⟩
             exact below_box (P3.b HJ) (by omega) _ _
       · have HN : Hid (okOf nrwOk (xs.zip ys) = true) := Lib.hid (by
           have := HOK.out
           rwa [List.take_of_length_le (by rw [List.length_zip]; omega)] at this)
         have HM := Lib.hid HO.out
         have HML := Lib.hid (mzAll_len HLE.out)
         rw [List.take_of_length_le (by have := HML.out; omega)] at HM
         obtain ⟨C, cc, rfl, hrt⟩ := HM.out.read
         have HRT := Lib.hid hrt
         have hm1 := hrt.1
         have hm2 := hrt.2.1
         clear hrt
         go_wp2_with fail
         refine bodyPost_ret (v := .tuple #[.agg #[.slice C (mzAll xs ys).length cc, .bool r], .bool true]) (by simp [results, Tryd.results46, go_sem, r1, r2, r3, r4]) rfl ⟨fun _ => ⟨C, cc, rfl, ?_, ?_⟩, fun h => absurd (HN.out.symm.trans h) (by decide)⟩
         · exact HRT.out.box ⟨r1, r2, r3, r4, r5⟩ (slice_ns _ _ _) (bool_ns _) _ _
         · exact below_box (P3.b HJ) (by omega) _ _

set_option maxHeartbeats 8000000 in
theorem rmeet_swap (A B : Option Addr) (c d : Nat) (xs ys : List ByteArray) (r t : Bool) (w : World) (h : RT w A c xs) (k : RT w B d ys)
    (hsx : ∀ x ∈ xs, x.size ≤ 9223372036854775807) (hsy : ∀ x ∈ ys, x.size ≤ 9223372036854775807) (hn : checkP xs r = 0) (hm : checkP ys t = 0) (hco : compatB xs.length r ys.length t = true) (hlt0 : xs.length < ys.length) :
    Calls Tryd.prog 46 #[.agg #[.slice A xs.length c, .bool r], .agg #[.slice B ys.length d, .bool t]] w (RetMO w (mzAll ys xs) (r && t) (okOf nrwOk (ys.zip xs))) := by
  have HI := P3.enter h k r t 24
  have HCX := Lib.hid (fun W (h : RT W A c xs) => rcheck_any A c xs r W h hsx)
  have HCY := Lib.hid (fun W (h : RT W B d ys) => rcheck_any B d ys t W h hsy)
  have hx1 := h.1
  have hx2 := h.2.1
  have hy1 := k.1
  have hy2 := k.2.1
  have hx12 := (check_zero hm).2.1
  have hy12 := (check_zero hn).2.1
  have HLE : Hid (xs.length ≤ ys.length) := Lib.hid (by omega)
  have HSX := Lib.hid hsy
  have HSY := Lib.hid hsx
  have HPX1 := Lib.hid (parts_all (check_zero hm).2.2)
  have HPY1 := Lib.hid (parts_all (check_zero hn).2.2)
  rw [hn] at HCX
  rw [hm] at HCY
  clear h k hsx hsy hn hm
  rcases len_facts xs.length ys.length with ⟨f0, f1, f2⟩ | ⟨f0, f1, f2, f3⟩ | ⟨f0, f1, f2, f3⟩
  · obtain rfl : r = true := by
      unfold compatB at hco
      cases r <;> cases t <;> first | rfl | (simp at hco <;> omega)
    rw [Bool.true_and]
    clear hco f0
    go_enter Tryd.func46, Tryd.ntmps46
    go_wp2_with (first
       | (go_at_call_of 41 (Value.agg #[.slice A xs.length c, .bool true]); ((with_reducible refine (HCX.out _ (P3.x (HI.go (by repeat (first | exact Below.refl _ _ | apply Below.drew | apply below_drewN | apply below_al))))).mono ?_); rintro e w1 ⟨rfl, hb⟩); replace HI := HI.go2 (by repeat (first | exact Below.refl _ _ | apply Below.drew | apply below_drewN | apply below_al)) hb; clear hb; obtain ⟨⟨p1, p2, p3, p4, p5⟩, ⟨q1, q2, q3, q4, q5⟩, ⟨r1, r2, r3, r4, r5⟩⟩ := P3.cells HI)
       | (go_at_call_of 41 (Value.agg #[.slice B ys.length d, .bool t]); ((with_reducible refine (HCY.out _ (P3.y (HI.go (by repeat (first | exact Below.refl _ _ | apply Below.drew | apply below_drewN | apply below_al))))).mono ?_); rintro e w1 ⟨rfl, hb⟩); replace HI := HI.go2 (by repeat (first | exact Below.refl _ _ | apply Below.drew | apply below_drewN | apply below_al)) hb; clear hb; obtain ⟨⟨p1, p2, p3, p4, p5⟩, ⟨q1, q2, q3, q4, q5⟩, ⟨r1, r2, r3, r4, r5⟩⟩ := P3.cells HI)
       )
    replace HI := P3.swap HI
    have HWZ : Hid (((((w1.setCell ⟨w.heap.size, 0, none⟩ (.slice B ys.length d)).setCell ⟨w.heap.size, 1, none⟩ (.bool t)).setCell ⟨w.heap.size + 1, 0, none⟩ (.slice A xs.length c)).setCell ⟨w.heap.size + 1, 1, none⟩ (.bool true)).heap.size = w1.heap.size) := Lib.hid (by simp)
    go_loopw [62] (fun i wr => ∃ (k : Nat) (ov : Value), k ≤ ys.length ∧ i = .int .i64 k ∧ Hid (PX wr w1.heap.size ov (.bool t)) ∧ Hid (OT wr (w1.heap.size + 1) ov ((mzAll ys xs).take k)) ∧ Hid (okOf nrwOk ((ys.zip xs).take k) = true) ∧ Hid (Below w1.heap.size ((((w1.setCell ⟨w.heap.size, 0, none⟩ (.slice B ys.length d)).setCell ⟨w.heap.size, 1, none⟩ (.bool t)).setCell ⟨w.heap.size + 1, 0, none⟩ (.slice A xs.length c)).setCell ⟨w.heap.size + 1, 1, none⟩ (.bool true)) wr)) (fun i _ => ys.length - (intOf i).toNat)
    case atStart => exact ⟨0, .slice none 0 0, Nat.zero_le _, rfl, Lib.hid (by simpa using PX.new ((((w1.setCell ⟨w.heap.size, 0, none⟩ (.slice B ys.length d)).setCell ⟨w.heap.size, 1, none⟩ (.bool t)).setCell ⟨w.heap.size + 1, 0, none⟩ (.slice A xs.length c)).setCell ⟨w.heap.size + 1, 1, none⟩ (.bool true)) (.slice none 0 0) (.bool t) 24), Lib.hid (OT.nil _ _), Lib.hid rfl, Lib.hid (by have := below_alloc ((((w1.setCell ⟨w.heap.size, 0, none⟩ (.slice B ys.length d)).setCell ⟨w.heap.size, 1, none⟩ (.bool t)).setCell ⟨w.heap.size + 1, 0, none⟩ (.slice A xs.length c)).setCell ⟨w.heap.size + 1, 1, none⟩ (.bool true)) (.cells #[.slice none 0 0, .bool t] 24); rw [HWZ.out] at this; exact this)⟩
    case round =>
       obtain ⟨k, ov, hk, rfl, HPX, HO, HOK, HBL⟩ := hrel
       have HJ := HI.go (by rw [HWZ.out]; exact HBL.out)
       have hsz := HBL.out.size
       rw [HWZ.out] at hsz
       obtain ⟨⟨p1, p2, p3, p4, p5⟩, ⟨q1, q2, q3, q4, q5⟩, ⟨r1, r2, r3, r4, r5⟩⟩ := P3.cells HJ
       obtain ⟨x1, x2, x3, x4, x5⟩ := HPX.out
       have HLN : Hid (((mzAll ys xs).take k).length ≤ 1000) := Lib.hid (by rw [List.length_take]; omega)
       by_cases hlt : k < ys.length
       · obtain ⟨x, hx⟩ : ∃ x, ys[k]? = some x := ⟨_, List.getElem?_eq_getElem hlt⟩
         obtain ⟨b1, o1, rfl, hb1, hc1⟩ := (P3.x HJ).2.2 (by omega)
         have hcx := hc1 k x hx
         generalize hdn : (mzAll ys xs).take k = dn at HO HLN
         have HDN := Lib.hid hdn
         clear hdn
         have hxz := HSX.out x (List.mem_of_getElem? hx)
         have hxp := HPX1.out x (List.mem_of_getElem? hx)
         clear hc1 hb1
         by_cases hge : xs.length ≤ k
         · have hgB : decide (xs.length ≤ k) = true := decide_eq_true hge
           have HTK := Lib.hid (mzAll_hi HLE.out hx hge)
           have HOK2 : Hid (okOf nrwOk ((ys.zip xs).take (k + 1)) = true) := Lib.hid (by rw [zip_take_hi hge]; exact HOK.out)
           have HRI : Hid True := Lib.hid trivial
           clear hx hxp
           go_wp2_with (first
             | (go_at_call_of 70 (Value.string x); ((with_reducible refine (HRI.out).mono ?_); rintro e w' ⟨rfl, rfl⟩))
             | (at_builtin; refine wpList_append_texts rfl _ _ rfl (w1.heap.size + 1) _ _ [x] _ 1 rfl rfl (HO.out.below (below_alloc _ _)) (RT.one _ _ _) (by have := HLN.out; simp only [List.length_singleton]; omega) (by simp; omega) ?_; intro v1 w3 hown hg _; have HX3 := Lib.hid ((HPX.out.below (below_alloc _ _)).grown hg (fun h => by have := HO.out.own _ h.symm; omega)); obtain ⟨x1, x2, x3, x4, x5⟩ := HX3.out; have HBL3 := Lib.hid ((HBL.out.alloc (by omega) _).grown hg (by simp; omega) (fun k hk => by have := HO.out.own k hk; omega)); obtain ⟨g1, cap1, hv, -, -, -, hcp⟩ := hown.block (by simp); rw [List.length_append, List.length_singleton] at hv; subst hv; have HOW := Lib.hid hown; clear hown hg))
           go_roundw
           case rel => exact ⟨k + 1, _, by omega, by go_num, Lib.hid (HX3.out.set_fst _), Lib.hid (by rw [HTK.out, HDN.out]; exact HOW.out.other (p := ⟨w1.heap.size, 0, none⟩) (Nat.lt_succ_self _) _), HOK2, Lib.hid (HBL3.out.setCell (p := ⟨w1.heap.size, 0, none⟩) (Nat.le_refl _) _)⟩
           case measure => simp [intOf]; omega
         · have hgB : decide (xs.length ≤ k) = false := decide_eq_false hge
           have hlv : k < xs.length := by omega
           obtain ⟨y, hy⟩ : ∃ y, xs[k]? = some y := ⟨_, List.getElem?_eq_getElem hlv⟩
           obtain ⟨b2, o2, rfl, hb2, hc2⟩ := (P3.y HJ).2.2 (by omega)
           have hcy := hc2 k y hy
           have hyz := HSY.out y (List.mem_of_getElem? hy)
           have hyp := HPY1.out y (List.mem_of_getElem? hy)
           have HTK := Lib.hid (mzAll_lo hx hy)
           have HZ := Lib.hid (zip_get hx hy)
           have HRI := Lib.hid (fun W => rins_any x y W hxz hyz hxp hyp)
           have HRJ := Lib.hid (fun W => rins_any y x W hyz hxz hyp hxp)
           clear hc2 hb2 hx hy hxp hyp
           have hgI : (xs.length : Int) ≤ 12 := by have := HLE.out; omega
           rcases nrw_cases x y with ⟨hi1, hn1, hk1⟩ | ⟨hi1, hi2, hn1, hk1⟩ | ⟨hi1, hi2, hk1⟩
           · have HOK2 := Lib.hid (ok_step (g := nrwOk) HZ.out HOK.out hk1)
             rw [hn1] at HTK
             rw [hi1] at HRI
             clear hn1 hk1 hi1 HRJ
             go_wp2_with (first
               | (go_at_call_of 70 (Value.string x); ((with_reducible refine (HRI.out _).mono ?_); rintro e w' ⟨rfl, rfl⟩))
               | (at_builtin; refine wpList_append_texts rfl _ _ rfl (w1.heap.size + 1) _ _ [x] _ 1 rfl rfl (HO.out.below (below_alloc _ _)) (RT.one _ _ _) (by have := HLN.out; simp only [List.length_singleton]; omega) (by simp; omega) ?_; intro v1 w3 hown hg _; have HX3 := Lib.hid ((HPX.out.below (below_alloc _ _)).grown hg (fun h => by have := HO.out.own _ h.symm; omega)); obtain ⟨x1, x2, x3, x4, x5⟩ := HX3.out; have HBL3 := Lib.hid ((HBL.out.alloc (by omega) _).grown hg (by simp; omega) (fun k hk => by have := HO.out.own k hk; omega)); obtain ⟨g1, cap1, hv, -, -, -, hcp⟩ := hown.block (by simp); rw [List.length_append, List.length_singleton] at hv; subst hv; have HOW := Lib.hid hown; clear hown hg))
             go_roundw
             case rel => exact ⟨k + 1, _, by omega, by go_num, Lib.hid (HX3.out.set_fst _), Lib.hid (by rw [HTK.out, HDN.out]; exact HOW.out.other (p := ⟨w1.heap.size, 0, none⟩) (Nat.lt_succ_self _) _), HOK2, Lib.hid (HBL3.out.setCell (p := ⟨w1.heap.size, 0, none⟩) (Nat.le_refl _) _)⟩
             case measure => simp [intOf]; omega
           · have HOK2 := Lib.hid (ok_step (g := nrwOk) HZ.out HOK.out hk1)
             rw [hn1] at HTK
             rw [hi1] at HRI
             rw [hi2] at HRJ
             clear hn1 hk1 hi1 hi2
             go_wp2_with (first
               | (go_at_call_of 70 (Value.string x); ((with_reducible refine (HRI.out _).mono ?_); rintro e w' ⟨rfl, rfl⟩))
               | (go_at_call_of 70 (Value.string y); ((with_reducible refine (HRJ.out _).mono ?_); rintro e w' ⟨rfl, rfl⟩)))
             go_region_law (refine step_append_texts rfl _ _ rfl (w1.heap.size + 1) _ _ [y] _ 1 rfl rfl (HO.out.below (by repeat (first | exact Below.refl _ _ | apply Below.drew | apply below_drewN | apply below_al))) ((RT.one wr y 9).below (by repeat (first | exact Below.refl _ _ | apply Below.drew | apply below_drewN | apply below_al))) (by have := HLN.out; simp only [List.length_singleton]; omega) (by simp; omega) ?_; intro v1 w3 hown hg _; have HX3 := Lib.hid ((HPX.out.below (by repeat (first | exact Below.refl _ _ | apply Below.drew | apply below_al))).grown hg (fun h => by have := HO.out.own _ h.symm; omega)); obtain ⟨x1, x2, x3, x4, x5⟩ := HX3.out; have HBL3 := Lib.hid (((HBL.out.alloc (by omega) (.cells #[.string y] 9)).drew).grown hg (by simp; omega) (fun k hk => by have := HO.out.own k hk; omega)); obtain ⟨g1, cap1, hv, -, -, -, hcp⟩ := hown.block (by simp); rw [List.length_append, List.length_singleton] at hv; subst hv; have HOW := Lib.hid hown; clear hown hg)
             all_goals (go_wp2_with fail)
             all_goals
               go_roundw
               case rel => exact ⟨k + 1, _, by omega, by go_num, Lib.hid (HX3.out.set_fst _), Lib.hid (by rw [HTK.out, HDN.out]; exact HOW.out.other (p := ⟨w1.heap.size, 0, none⟩) (Nat.lt_succ_self _) _), HOK2, Lib.hid (HBL3.out.setCell (p := ⟨w1.heap.size, 0, none⟩) (Nat.le_refl _) _)⟩
               case measure => simp [intOf]; omega
           · have HN := Lib.hid (ok_miss (g := nrwOk) HZ.out hk1)
             rw [hi1] at HRI
             rw [hi2] at HRJ
             clear hk1 hi1 hi2
             go_wp2_with (first
               | (go_at_call_of 70 (Value.string x); ((with_reducible refine (HRI.out _).mono ?_); rintro e w' ⟨rfl, rfl⟩))
               | (go_at_call_of 70 (Value.string y); ((with_reducible refine (HRJ.out _).mono ?_); rintro e w' ⟨rfl, rfl⟩)))
             refine bodyPost_ret (v := .tuple #[.agg #[.slice none 0 0, .bool false], .bool false]) (by simp [results, Tryd.results46, go_sem, r1, r2, r3, r4]) rfl ⟨fun h => absurd (HN.out.symm.trans h) (by decide), fun _ => ⟨none, 0, rfl, RT.nil _ _ _ (by omega), ?_⟩⟩
             exact below_box (P3.b HJ) (by omega) _ _
       · have HN : Hid (okOf nrwOk (ys.zip xs) = true) := Lib.hid (by
           have := HOK.out
           rwa [List.take_of_length_le (by rw [List.length_zip]; omega)] at this)
         have HM := Lib.hid HO.out
         have HML := Lib.hid (mzAll_len HLE.out)
         rw [List.take_of_length_le (by have := HML.out; omega)] at HM
         obtain ⟨C, cc, rfl, hrt⟩ := HM.out.read
         have HRT := Lib.hid hrt
         have hm1 := hrt.1
         have hm2 := hrt.2.1
         clear hrt
         go_wp2_with fail
         refine bodyPost_ret (v := .tuple #[.agg #[.slice C (mzAll ys xs).length cc, .bool t], .bool true]) (by simp [results, Tryd.results46, go_sem, r1, r2, r3, r4]) rfl ⟨fun _ => ⟨C, cc, rfl, ?_, ?_⟩, fun h => absurd (HN.out.symm.trans h) (by decide)⟩
         · exact HRT.out.box ⟨r1, r2, r3, r4, r5⟩ (slice_ns _ _ _) (bool_ns _) _ _
         · exact below_box (P3.b HJ) (by omega) _ _
  · exfalso; omega
  · exfalso; omega

theorem rmeet_any (A B : Option Addr) (c d : Nat) (xs ys : List ByteArray) (r t : Bool) (w : World) (h : RT w A c xs) (k : RT w B d ys)
    (hsx : ∀ x ∈ xs, x.size ≤ 9223372036854775807) (hsy : ∀ x ∈ ys, x.size ≤ 9223372036854775807) :
    Calls Tryd.prog 46 #[.agg #[.slice A xs.length c, .bool r], .agg #[.slice B ys.length d, .bool t]] w (RetMO w (meetL xs ys) (r && t) (meetOk xs ys r t)) := by
  unfold meetOk meetL
  cases hb : ((checkP xs r == 0) && (checkP ys t == 0)) with
  | false =>
    rw [Bool.false_and, Bool.false_and]
    exact (rmeet_chk A B c d xs ys r t w h k hsx hsy hb).mono fun _ _ h => ⟨fun e => (by cases e), fun _ => h⟩
  | true =>
    rw [Bool.true_and]
    rw [Bool.and_eq_true, beq_iff_eq, beq_iff_eq] at hb
    cases hc : compatB xs.length r ys.length t with
    | false =>
      rw [Bool.false_and]
      exact (rmeet_len A B c d xs ys r t w h k hsx hsy hb.1 hb.2 hc).mono fun _ _ h => ⟨fun e => (by cases e), fun _ => h⟩
    | true =>
      rw [Bool.true_and]
      by_cases hl : xs.length < ys.length
      · rw [if_pos hl, if_pos hl]
        exact rmeet_swap A B c d xs ys r t w h k hsx hsy hb.1 hb.2 hc hl
      · rw [if_neg hl, if_neg hl]
        exact rmeet_noswap A B c d xs ys r t w h k hsx hsy hb.1 hb.2 hc (by omega)
end Go.Proofs.YtidjmbmnfnnleaaDoor

