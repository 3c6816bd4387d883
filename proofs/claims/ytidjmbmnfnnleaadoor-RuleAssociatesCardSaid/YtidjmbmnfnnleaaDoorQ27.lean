/-
  The walk of the reference's Bind.
-/
import Derived.Test.YtidjmbmnfnnleaaDoorQ26
import Derived.Test.YtidjmbmnfnnleaaDoorQ18
namespace Go.Proofs.YtidjmbmnfnnleaaDoor
set_option linter.unusedSimpArgs false
set_option linter.unusedVariables false
open Go.RowKit
open Pm

theorem ins_suf {x y : ByteArray} (hs : stB x = true) (h : insB y x = true) : Lib.hasSuffix y.data.toList (tlB x).data.toList = true := by
  have key : (tlB x).data.toList <:+ y.data.toList := by
    unfold insB at h
    by_cases he : y = x
    · rw [he, tlB_data]; exact List.drop_suffix _ _
    rw [if_neg he, hs, if_neg (by decide)] at h
    cases hy : stB y with
    | true =>
      rw [hy, if_pos rfl, suf_iff] at h
      refine h.trans ?_
      rw [tlB_data]
      exact List.drop_suffix _ _
    | false =>
      rw [hy, if_neg (by decide)] at h
      obtain ⟨a, _, e⟩ := (mp_star hs).1 h
      exact ⟨a, e.symm⟩
  exact suf_iff.2 key
theorem cut_eq {x y : ByteArray} (h : Lib.hasSuffix y.data.toList (tlB x).data.toList = true) : (tlB x).size ≤ y.size ∧ y.extract 0 (y.size - (tlB x).size) = trB x y := by
  have k := suf_iff.1 h
  have hl := k.length_le
  rw [← Lib.size_eq, ← Lib.size_eq] at hl
  refine ⟨hl, ?_⟩
  unfold trB Lib.trimSuffix
  rw [if_pos h, ← mkB_back (y.extract 0 _), Lib.extract_data]
  rw [List.drop_zero, Nat.sub_zero, Lib.size_eq, Lib.size_eq]

theorem RT.away {w w' : World} {C : Option Addr} {c : Nat} {xs : List ByteArray} {row : Option Nat} (h : RT w C c xs) (hg : w.grownBy w' row) (hne : ∀ b o, C = some ⟨b, o, none⟩ → row ≠ some b) : RT w' C c xs :=
  ⟨h.1, h.2.1, fun h0 => by
    obtain ⟨b, o, e, hlt, hc⟩ := h.2.2 h0
    exact ⟨b, o, e, Nat.lt_of_lt_of_le hlt hg.size, fun j x hx => hg.cell (hc j x hx) (fun e2 => hne b o e e2.symm)⟩⟩
/-- the bindings' parts lie apart from the row -/
def BR (w : World) (v : Value) (bv : List (Option Addr × Nat × Nat × Bool)) (bs : List (List ByteArray × Bool)) : Prop :=
  bv.length = bs.length ∧ ∀ (j : Nat) (p : Option Addr × Nat × Nat × Bool) (q : List ByteArray × Bool), bv[j]? = some p → bs[j]? = some q →
    p.2.1 = q.1.length ∧ p.2.2.2 = q.2 ∧ RT w p.1 p.2.2.1 q.1 ∧ ∀ b o, p.1 = some ⟨b, o, none⟩ → v.ownBlock ≠ some b ∧ b < w.heap.size
theorem BR.nil (w : World) (v : Value) : BR w v [] [] := ⟨rfl, fun j p q h => by cases h⟩
theorem BR.below {w w' : World} {v : Value} {bv : List (Option Addr × Nat × Nat × Bool)} {bs : List (List ByteArray × Bool)} (h : BR w v bv bs) (hb : Below w.heap.size w w') : BR w' v bv bs :=
  ⟨h.1, fun j p q hp hq => by
    obtain ⟨h1, h2, h3, h4⟩ := h.2 j p q hp hq
    exact ⟨h1, h2, h3.below hb, fun b o e => ⟨(h4 b o e).1, Nat.lt_of_lt_of_le (h4 b o e).2 hb.size⟩⟩⟩
theorem BR.grown {w w' : World} {v v' : Value} {bv : List (Option Addr × Nat × Nat × Bool)} {bs : List (List ByteArray × Bool)} (h : BR w v bv bs) (hg : w.grownBy w' v.ownBlock) (ho : v'.ownBlock = v.ownBlock ∨ v'.ownBlock = some w.heap.size) : BR w' v' bv bs :=
  ⟨h.1, fun j p q hp hq => by
    obtain ⟨h1, h2, h3, h4⟩ := h.2 j p q hp hq
    refine ⟨h1, h2, h3.away hg (fun b o e => (h4 b o e).1), fun b o e => ⟨?_, Nat.lt_of_lt_of_le (h4 b o e).2 hg.size⟩⟩
    rcases ho with e2 | e2 <;> rw [e2]
    · exact (h4 b o e).1
    · intro e3
      have := (h4 b o e).2
      have := Option.some.inj e3
      omega⟩
theorem BR.add {w : World} {v : Value} {bv : List (Option Addr × Nat × Nat × Bool)} {bs : List (List ByteArray × Bool)} (h : BR w v bv bs) {p : Option Addr × Nat × Nat × Bool} {q : List ByteArray × Bool}
    (h1 : p.2.1 = q.1.length) (h2 : p.2.2.2 = q.2) (h3 : RT w p.1 p.2.2.1 q.1) (h4 : ∀ b o, p.1 = some ⟨b, o, none⟩ → v.ownBlock ≠ some b ∧ b < w.heap.size) : BR w v (bv ++ [p]) (bs ++ [q]) :=
  ⟨by rw [List.length_append, List.length_append, h.1]; rfl, fun j p' q' hp hq => by
    rcases Nat.lt_or_ge j bv.length with hj | hj
    · rw [List.getElem?_append_left hj] at hp
      rw [List.getElem?_append_left (by rw [← h.1]; exact hj)] at hq
      exact h.2 j p' q' hp hq
    · rw [List.getElem?_append_right hj] at hp
      rw [List.getElem?_append_right (by rw [← h.1]; exact hj), ← h.1] at hq
      generalize j - bv.length = i at hp hq
      rcases i with _ | i
      · simp at hp hq
        subst hp
        subst hq
        exact ⟨h1, h2, h3, h4⟩
      · simp at hp⟩
theorem BR.done {w : World} {base : Nat} {v : Value} {bv : List (Option Addr × Nat × Nat × Bool)} {bs : List (List ByteArray × Bool)} (h : BR w v bv bs) (hv : OB w base v bv) : ∃ A c, v = .slice A bs.length c ∧ BT w A c bs :=
  BT.of hv h.1 (fun j p q hp hq => by
    obtain ⟨h1, h2, h3, _⟩ := h.2 j p q hp hq
    exact ⟨h1, h2, h3⟩)

set_option maxHeartbeats 1000000 in
theorem rbind_no (A B : Option Addr) (c d : Nat) (xs ys : List ByteArray) (r t : Bool) (w : World) (h : RT w A c xs) (k : RT w B d ys) (hm : ML w)
    (hsx : ∀ x ∈ xs, x.size ≤ 9223372036854775807) (hsy : ∀ x ∈ ys, x.size ≤ 9223372036854775807) (hw : withinOk insB ys xs t r = false) :
    Calls Tryd.prog 47 #[.agg #[.slice A xs.length c, .bool r], .agg #[.slice B ys.length d, .bool t]] w (RetBT w [] false) := by
  have HI := P2.enter h k hm r t 24
  have HW := Lib.hid (fun w h k => rwithin_any B A d c ys xs t r w h k hsy hsx)
  rw [← within_agree, hw] at HW
  clear h k hm hsx hsy hw
  go_enter Tryd.func47, Tryd.ntmps47
  go_wp2_with (go_at_call 71; refine (HW.out _ (P2.y (HI.go (by repeat (first | exact Below.refl _ _ | apply Below.drew | apply below_drewN | apply below_al)))) (P2.x (HI.go (by repeat (first | exact Below.refl _ _ | apply Below.drew | apply below_drewN | apply below_al))))).mono ?_; rintro e w1 ⟨rfl, hb⟩; replace HI := HI.go2 (by repeat (first | exact Below.refl _ _ | apply Below.drew | apply below_drewN | apply below_al)) hb; clear hb)
  go_ret2
  exact ⟨none, 0, rfl, BT.nil _, P2.b HI⟩

theorem bindI_step (xs ys : List ByteArray) {k : Nat} {x y : ByteArray} (hx : xs[k]? = some x) (hy : ys[k]? = some y) : bindI xs ys (k + 1) = bindI xs ys k ++ (if stB x = true then [([trB x y], false)] else []) := by
  unfold bindI
  rw [starI_step xs hx, List.map_append]
  refine congrArg _ ?_
  have ex : xs.getD k eB = x := by rw [List.getD, hx]; rfl
  have ey : ys.getD k eB = y := by rw [List.getD, hy]; rfl
  by_cases hs : stB x = true
  · rw [if_pos hs, if_pos hs, List.map_cons, ex, ey]; rfl
  · rw [if_neg hs, if_neg hs]; rfl

theorem below_two {w v w' : World} (h1 : Below w.heap.size w v) (h2 : Below v.heap.size v w') : Below w.heap.size w w' := h1.trans (h2.mono h1.size)
theorem step_append_textsN {w : World} {ops : Array Oper} {o : Oper} {a : Act} {K : Act → World → Prop} {Q : Exit → Act → World → Prop} {E : Prop} (hgd : o.guard = none) (s x : Operand)
    (ho : o.op = .call { callee := .builtin .append, args := #[s, x], argTypes := #[22, 22] })
    (base : Nat) (v : Value) (xs ys : List ByteArray) (A : Option Addr) (c n : Nat) (hn : ys.length = n) (hs : a.eval s = v) (hx : a.eval x = .slice A n c) (hown : OT w base v xs) (hr : RT w A c ys)
    (hlen : xs.length + n ≤ 1000000) (hbase : base ≤ w.heap.size)
    (h : ∀ v' w', OT w' base v' (xs ++ ys) → w.grownBy w' v.ownBlock → (v'.ownBlock = v.ownBlock ∨ v'.ownBlock = some w.heap.size) → K (a.put o.dst v') w') :
    if Region.wanted o (yielded ops a.tmps) = true then Oper.wp Tryd.prog o a w K Q else E := by
  subst hn
  exact step_append_texts hgd s x ho base v xs ys A c hs hx hown hr hlen hbase h
theorem bind_whole {w : World} {v : Value} {bv : List (Option Addr × Nat × Nat × Bool)} {xs ys : List ByteArray} {t : Bool} {p : Option Addr × Nat × Nat × Bool} (h : BR w v bv (bindI xs ys xs.length))
    (h1 : p.2.1 = ys.length - xs.length) (h2 : p.2.2.2 = t) (h3 : RT w p.1 p.2.2.1 (ys.drop xs.length)) (h4 : ∀ b o, p.1 = some ⟨b, o, none⟩ → v.ownBlock ≠ some b ∧ b < w.heap.size) : BR w v (bv ++ [p]) (bindB xs ys true t) := by
  unfold bindB
  rw [if_pos rfl]
  exact h.add (by rw [List.length_drop]; exact h1) h2 h3 h4

set_option maxHeartbeats 4000000 in
set_option maxRecDepth 100000 in
theorem rbind_plain (A B : Option Addr) (c d : Nat) (xs ys : List ByteArray) (t : Bool) (w : World) (h : RT w A c xs) (k : RT w B d ys) (hm : ML w)
    (hsx : ∀ x ∈ xs, x.size ≤ 9223372036854775807) (hsy : ∀ x ∈ ys, x.size ≤ 9223372036854775807) (hw : withinOk insB ys xs t false = true) :
    Calls Tryd.prog 47 #[.agg #[.slice A xs.length c, .bool false], .agg #[.slice B ys.length d, .bool t]] w (RetBT w (bindB xs ys false t) true) := by
  have hwi := hw
  unfold withinOk insideOk at hwi
  rw [Bool.and_eq_true, Bool.and_eq_true, Bool.and_eq_true, beq_iff_eq, beq_iff_eq] at hwi
  have hle := lensIn_le hwi.2.2.1
  have hx12 := (check_zero hwi.2.1).2.1
  have hy12 := (check_zero hwi.1).2.1
  have hx0 := (check_zero hwi.2.1).1
  have HPA := Lib.hid (parts_all (check_zero hwi.2.1).2.2)
  have HIN := Lib.hid (fun k y x => ok_iff.1 hwi.2.2.2 k y x)
  have HI := P2.enter h k hm false t 24
  have HW := Lib.hid (fun w h k => rwithin_any B A d c ys xs t false w h k hsy hsx)
  rw [← within_agree, hw] at HW
  have HSX := Lib.hid hsx
  have HSY := Lib.hid hsy
  have hx1 := h.1
  have hx2 := h.2.1
  have hy1 := k.1
  have hy2 := k.2.1
  clear h k hm hsx hsy hw hwi
  go_enter Tryd.func47, Tryd.ntmps47
  go_wp2_with (go_at_call 71; refine (HW.out _ (P2.y (HI.go (by repeat (first | exact Below.refl _ _ | apply Below.drew | apply below_drewN | apply below_al)))) (P2.x (HI.go (by repeat (first | exact Below.refl _ _ | apply Below.drew | apply below_drewN | apply below_al))))).mono ?_; rintro e w1 ⟨rfl, hb⟩; replace HI := HI.go2 (by repeat (first | exact Below.refl _ _ | apply Below.drew | apply below_drewN | apply below_al)) hb; clear hb; obtain ⟨p1, p2, q1, q2⟩ := P2.cells HI)
  go_loopw [6, 19] (fun bvv i wr => ∃ (k : Nat) (bv : List (Option Addr × Nat × Nat × Bool)), k ≤ xs.length ∧ i = .int .i64 k ∧ Hid (OB wr w1.heap.size bvv bv) ∧ Hid (BR wr bvv bv (bindI xs ys k)) ∧ Hid (Below w1.heap.size w1 wr)) (fun _ i _ => xs.length - (intOf i).toNat)
  case atStart => exact ⟨0, [], Nat.zero_le _, rfl, Lib.hid (OB.nil _ _), Lib.hid (BR.nil _ _), Lib.hid (Below.refl _ _)⟩
  case round =>
    obtain ⟨k, bv, hk, rfl, HV, HR, HBL⟩ := hrel
    have HJ := HI.go HBL.out
    have hsz := HBL.out.size
    obtain ⟨p1, p2, q1, q2⟩ := P2.cells HJ
    have HBN : Hid (bv.length ≤ 100) := Lib.hid (by have := HR.out.1; rw [bindI_len] at this; have := starI_len xs k; omega)
    by_cases hlt : k < xs.length
    · obtain ⟨x, hx⟩ : ∃ x, xs[k]? = some x := ⟨_, List.getElem?_eq_getElem hlt⟩
      obtain ⟨y, hy⟩ : ∃ y, ys[k]? = some y := ⟨_, List.getElem?_eq_getElem (by omega)⟩
      have hky : k < ys.length := by omega
      obtain ⟨b1, o1, rfl, hb1, hc1⟩ := (P2.x HJ).2.2 (by omega)
      obtain ⟨b2, o2, rfl, hb2, hc2⟩ := (P2.y HJ).2.2 (by omega)
      have hcx := hc1 k x hx
      have hcy := hc2 k y hy
      have hyz := HSY.out y (List.mem_of_getElem? hy)
      have hxz := HSX.out x (List.mem_of_getElem? hx)
      have HBS := Lib.hid (bindI_step xs ys hx hy)
      have HAG := Lib.hid (star_agree (HPA.out x (List.mem_of_getElem? hx)))
      have HINS := Lib.hid (HIN.out k y x hy hx)
      clear hc1 hc2 hx hy hb1 hb2
      cases hs : starOk x with
      | false =>
        have hs2 : stB x = false := by rw [← HAG.out]; exact hs
        rw [hs2] at HBS
        simp only [Bool.false_eq_true, if_false, List.append_nil] at HBS
        clear hs2
        go_wp2_with (go_at_call 51; refine (rstar_any x _ hxz).mono ?_; rintro e w' ⟨rfl, rfl⟩)
        go_roundw
        case rel => exact ⟨k + 1, bv, by omega, by go_num, HV, Lib.hid (by rw [HBS.out]; exact HR.out), HBL⟩
        case measure => simp [intOf]; omega
      | true =>
        have hs2 : stB x = true := by rw [← HAG.out]; exact hs
        have hct := cut_eq (ins_suf hs2 HINS.out)
        rw [hs2] at HBS
        simp only [if_true] at HBS
        have HSU : Hid (sufB x = tlB x) := Lib.hid (by unfold sufB; rw [if_pos hs])
        have hsu : (tlB x).size ≤ y.size := hct.1
        have HEX := Lib.hid hct.2
        have HST : Hid (∀ W, Calls Tryd.prog 51 #[.string x] W fun e w' => e = .returned (.tuple #[.string (tlB x), .bool true]) ∧ W = w') := Lib.hid (fun W => by
          have := rstar_any x W hxz
          rw [HSU.out, hs] at this
          exact this)
        clear hct hs2 hs
        generalize tlB x = sx at *
        have hsI : (sx.size : Int) ≤ (y.size : Int) := by omega
        have hnI : (0 : Int) ≤ (y.size : Int) - (sx.size : Int) := by omega
        have hown := HV.out.own
        have HOWN := Lib.hid hown
        clear hown
        go_wp2_with (first
          | (go_at_call 51; refine (HST.out _).mono ?_; rintro e w' ⟨rfl, rfl⟩)
          | (at_builtin; refine wpList_append_bind rfl _ _ rfl w1.heap.size _ bv (wr.heap.size + 1) 1 (some ⟨wr.heap.size, 0, none⟩, 1, 1, false) rfl rfl (HV.out.below (by repeat (first | exact Below.refl _ _ | apply Below.drew | apply below_drewN | apply below_al))) (by simp) (by simp) (by have := HBN.out; omega) (by simp; omega) ?_; intro v1 w3 hov hg hor; have hwz := hg.size; (try simp at hwz); have HVW := Lib.hid hov; have HRW := Lib.hid (((HR.out.below (by repeat (first | exact Below.refl _ _ | apply Below.drew | apply below_al))).grown hg hor).add (p := (some ⟨wr.heap.size, 0, none⟩, 1, 1, false)) (q := ([trB x y], false)) rfl rfl (by rw [← HEX.out]; exact ((RT.one wr (y.extract 0 (y.size - sx.size)) 9).below (by repeat (first | exact Below.refl _ _ | apply Below.drew | apply below_al))).away hg (fun b o e e2 => by cases e; have := (HOWN.out _ e2).2; omega)) (fun b o e => by cases e; exact ⟨by rcases hor with e2 | e2 <;> rw [e2]; exact fun e3 => (by have := (HOWN.out _ e3).2; omega); exact fun e3 => (by simp at e3; omega), by omega⟩)); have HBW := Lib.hid (((HBL.out.alloc hsz _).alloc (by simp; omega) _).grown hg (by simp; omega) (fun k' hk' => (HOWN.out k' hk').1)); clear hov hg hor hwz))
        go_roundw
        case rel => exact ⟨k + 1, bv ++ [(some ⟨wr.heap.size, 0, none⟩, 1, 1, false)], by omega, by go_num, HVW, Lib.hid (by rw [HBS.out]; exact HRW.out), HBW⟩
        case measure => simp [intOf]; omega
    · obtain rfl : k = xs.length := by omega
      obtain ⟨C, cc, rfl, hbt⟩ := HR.out.done HV.out; have HBT := Lib.hid hbt; have HBB : Hid (bindB xs ys false t = bindI xs ys xs.length) := Lib.hid (by unfold bindB; rw [if_neg (by decide), List.append_nil]); have ht1 := hbt.1; have ht2 := hbt.2.1; clear hbt; go_wp2_with fail; go_ret2; exact ⟨C, cc, (by rw [HBB.out]; rfl), (by rw [HBB.out]; exact HBT.out), P2.b HJ⟩

set_option maxHeartbeats 4000000 in
set_option maxRecDepth 100000 in
theorem rbind_rest (A B : Option Addr) (c d : Nat) (xs ys : List ByteArray) (t : Bool) (w : World) (h : RT w A c xs) (k : RT w B d ys) (hm : ML w)
    (hsx : ∀ x ∈ xs, x.size ≤ 9223372036854775807) (hsy : ∀ x ∈ ys, x.size ≤ 9223372036854775807) (hw : withinOk insB ys xs t true = true) :
    Calls Tryd.prog 47 #[.agg #[.slice A xs.length c, .bool true], .agg #[.slice B ys.length d, .bool t]] w (RetBT w (bindB xs ys true t) true) := by
  have hwi := hw
  unfold withinOk insideOk at hwi
  rw [Bool.and_eq_true, Bool.and_eq_true, Bool.and_eq_true, beq_iff_eq, beq_iff_eq] at hwi
  have hle := lensIn_le hwi.2.2.1
  have hx12 := (check_zero hwi.2.1).2.1
  have hy12 := (check_zero hwi.1).2.1
  have hx0 := (check_zero hwi.2.1).1
  have HPA := Lib.hid (parts_all (check_zero hwi.2.1).2.2)
  have HIN := Lib.hid (fun k y x => ok_iff.1 hwi.2.2.2 k y x)
  have HI := P2.enter h k hm true t 24
  have HW := Lib.hid (fun w h k => rwithin_any B A d c ys xs t true w h k hsy hsx)
  rw [← within_agree, hw] at HW
  have HSX := Lib.hid hsx
  have HSY := Lib.hid hsy
  have hx1 := h.1
  have hx2 := h.2.1
  have hy1 := k.1
  have hy2 := k.2.1
  clear h k hm hsx hsy hw hwi
  go_enter Tryd.func47, Tryd.ntmps47
  go_wp2_with (go_at_call 71; refine (HW.out _ (P2.y (HI.go (by repeat (first | exact Below.refl _ _ | apply Below.drew | apply below_drewN | apply below_al)))) (P2.x (HI.go (by repeat (first | exact Below.refl _ _ | apply Below.drew | apply below_drewN | apply below_al))))).mono ?_; rintro e w1 ⟨rfl, hb⟩; replace HI := HI.go2 (by repeat (first | exact Below.refl _ _ | apply Below.drew | apply below_drewN | apply below_al)) hb; clear hb; obtain ⟨p1, p2, q1, q2⟩ := P2.cells HI)
  go_loopw [6, 19] (fun bvv i wr => ∃ (k : Nat) (bv : List (Option Addr × Nat × Nat × Bool)), k ≤ xs.length ∧ i = .int .i64 k ∧ Hid (OB wr w1.heap.size bvv bv) ∧ Hid (BR wr bvv bv (bindI xs ys k)) ∧ Hid (Below w1.heap.size w1 wr)) (fun _ i _ => xs.length - (intOf i).toNat)
  case atStart => exact ⟨0, [], Nat.zero_le _, rfl, Lib.hid (OB.nil _ _), Lib.hid (BR.nil _ _), Lib.hid (Below.refl _ _)⟩
  case round =>
    obtain ⟨k, bv, hk, rfl, HV, HR, HBL⟩ := hrel
    have HJ := HI.go HBL.out
    have hsz := HBL.out.size
    obtain ⟨p1, p2, q1, q2⟩ := P2.cells HJ
    have HBN : Hid (bv.length ≤ 100) := Lib.hid (by have := HR.out.1; rw [bindI_len] at this; have := starI_len xs k; omega)
    by_cases hlt : k < xs.length
    · obtain ⟨x, hx⟩ : ∃ x, xs[k]? = some x := ⟨_, List.getElem?_eq_getElem hlt⟩
      obtain ⟨y, hy⟩ : ∃ y, ys[k]? = some y := ⟨_, List.getElem?_eq_getElem (by omega)⟩
      have hky : k < ys.length := by omega
      obtain ⟨b1, o1, rfl, hb1, hc1⟩ := (P2.x HJ).2.2 (by omega)
      obtain ⟨b2, o2, rfl, hb2, hc2⟩ := (P2.y HJ).2.2 (by omega)
      have hcx := hc1 k x hx
      have hcy := hc2 k y hy
      have hyz := HSY.out y (List.mem_of_getElem? hy)
      have hxz := HSX.out x (List.mem_of_getElem? hx)
      have HBS := Lib.hid (bindI_step xs ys hx hy)
      have HAG := Lib.hid (star_agree (HPA.out x (List.mem_of_getElem? hx)))
      have HINS := Lib.hid (HIN.out k y x hy hx)
      clear hc1 hc2 hx hy hb1 hb2
      cases hs : starOk x with
      | false =>
        have hs2 : stB x = false := by rw [← HAG.out]; exact hs
        rw [hs2] at HBS
        simp only [Bool.false_eq_true, if_false, List.append_nil] at HBS
        clear hs2
        go_wp2_with (go_at_call 51; refine (rstar_any x _ hxz).mono ?_; rintro e w' ⟨rfl, rfl⟩)
        go_roundw
        case rel => exact ⟨k + 1, bv, by omega, by go_num, HV, Lib.hid (by rw [HBS.out]; exact HR.out), HBL⟩
        case measure => simp [intOf]; omega
      | true =>
        have hs2 : stB x = true := by rw [← HAG.out]; exact hs
        have hct := cut_eq (ins_suf hs2 HINS.out)
        rw [hs2] at HBS
        simp only [if_true] at HBS
        have HSU : Hid (sufB x = tlB x) := Lib.hid (by unfold sufB; rw [if_pos hs])
        have hsu : (tlB x).size ≤ y.size := hct.1
        have HEX := Lib.hid hct.2
        have HST : Hid (∀ W, Calls Tryd.prog 51 #[.string x] W fun e w' => e = .returned (.tuple #[.string (tlB x), .bool true]) ∧ W = w') := Lib.hid (fun W => by
          have := rstar_any x W hxz
          rw [HSU.out, hs] at this
          exact this)
        clear hct hs2 hs
        generalize tlB x = sx at *
        have hsI : (sx.size : Int) ≤ (y.size : Int) := by omega
        have hnI : (0 : Int) ≤ (y.size : Int) - (sx.size : Int) := by omega
        have hown := HV.out.own
        have HOWN := Lib.hid hown
        clear hown
        go_wp2_with (first
          | (go_at_call 51; refine (HST.out _).mono ?_; rintro e w' ⟨rfl, rfl⟩)
          | (at_builtin; refine wpList_append_bind rfl _ _ rfl w1.heap.size _ bv (wr.heap.size + 1) 1 (some ⟨wr.heap.size, 0, none⟩, 1, 1, false) rfl rfl (HV.out.below (by repeat (first | exact Below.refl _ _ | apply Below.drew | apply below_drewN | apply below_al))) (by simp) (by simp) (by have := HBN.out; omega) (by simp; omega) ?_; intro v1 w3 hov hg hor; have hwz := hg.size; (try simp at hwz); have HVW := Lib.hid hov; have HRW := Lib.hid (((HR.out.below (by repeat (first | exact Below.refl _ _ | apply Below.drew | apply below_al))).grown hg hor).add (p := (some ⟨wr.heap.size, 0, none⟩, 1, 1, false)) (q := ([trB x y], false)) rfl rfl (by rw [← HEX.out]; exact ((RT.one wr (y.extract 0 (y.size - sx.size)) 9).below (by repeat (first | exact Below.refl _ _ | apply Below.drew | apply below_al))).away hg (fun b o e e2 => by cases e; have := (HOWN.out _ e2).2; omega)) (fun b o e => by cases e; exact ⟨by rcases hor with e2 | e2 <;> rw [e2]; exact fun e3 => (by have := (HOWN.out _ e3).2; omega); exact fun e3 => (by simp at e3; omega), by omega⟩)); have HBW := Lib.hid (((HBL.out.alloc hsz _).alloc (by simp; omega) _).grown hg (by simp; omega) (fun k' hk' => (HOWN.out k' hk').1)); clear hov hg hor hwz))
        go_roundw
        case rel => exact ⟨k + 1, bv ++ [(some ⟨wr.heap.size, 0, none⟩, 1, 1, false)], by omega, by go_num, HVW, Lib.hid (by rw [HBS.out]; exact HRW.out), HBW⟩
        case measure => simp [intOf]; omega
    · obtain rfl : k = xs.length := by omega
      obtain ⟨b2, o2, rfl, hb2, -⟩ := (P2.y HJ).2.2 (by omega)
      have hlI : (xs.length : Int) ≤ (ys.length : Int) := by omega
      rcases Nat.lt_or_ge xs.length d with hnd | hnd
      · have hne3 : ¬ d = xs.length := by omega
        have HRD : Hid (RT wr (some ⟨b2, o2 + xs.length, none⟩) (d - xs.length) (ys.drop xs.length)) := Lib.hid ((P2.y HJ).drop xs.length hle)
        go_wp2_with fail
        go_region_law (first
          | (refine step_append_textsN rfl _ _ rfl w1.heap.size (.slice none 0 0) [] (ys.drop xs.length) (some ⟨b2, o2 + xs.length, none⟩) (d - xs.length) (ys.length - xs.length) (List.length_drop) rfl rfl (OT.nil _ _) (HRD.out.below (by repeat (first | exact Below.refl _ _ | apply Below.drew | apply below_drewN | apply below_al))) (by simp; omega) (by first | omega | (simp; omega)) ?_; intro v2 w2 hown2 hg2 hor2; have hb2 := Below.grown (Below.refl _ _) hg2 (Nat.le_refl _) (fun k h => by cases h); rw [List.nil_append] at hown2; obtain ⟨C, n', hv2, hrt⟩ := hown2.read; rw [List.length_drop] at hv2; subst hv2; have hbw := below_two (w := wr) (by repeat (first | exact Below.refl _ _ | apply Below.drew | apply below_al)) hb2; have hgz := hbw.size; have HJ2 := HJ.go hbw; have HV2 := Lib.hid (HV.out.below hbw); have HR2 := Lib.hid (HR.out.below hbw); have HC2 : Hid (∀ b o, C = some ⟨b, o, none⟩ → b = wr.heap.size) := Lib.hid (fun b o e => by subst e; rcases hor2 with e2 | e2; exact absurd e2 (by simp [Value.ownBlock]); have e3 := Option.some.inj e2; simpa using e3); have HRT := Lib.hid hrt; have hr1 := hrt.1; rw [List.length_drop] at hr1; have hr2 := hrt.2.1; have HBL2 := Lib.hid (HBL.out.trans (hbw.mono HBL.out.size)); obtain ⟨p1, p2, q1, q2⟩ := P2.cells HJ2; clear hown2 hg2 hor2 hb2 hrt hbw)
          | (refine step_append_bind rfl _ _ rfl w1.heap.size _ bv w2.heap.size 1 (C, ys.length - xs.length, n', t) rfl rfl (HV2.out.below (by repeat (first | exact Below.refl _ _ | apply Below.drew | apply below_drewN | apply below_al))) (by simp) (by simp) (by have := HBN.out; omega) (by simp; omega) ?_; intro v3 w3 hov hg hor; have hwz := hg.size; (try simp at hwz); have HVW := Lib.hid hov; have HRW := Lib.hid (bind_whole ((HR2.out.below (by repeat (first | exact Below.refl _ _ | apply Below.drew | apply below_al))).grown hg hor) (p := (C, ys.length - xs.length, n', t)) rfl rfl ((HRT.out.below (by repeat (first | exact Below.refl _ _ | apply Below.drew | apply below_al))).away hg (fun b o e e2 => by have h1 := HC2.out b o e; have h2 := (HV.out.own _ e2).2; omega)) (fun b o e => by have h1 := HC2.out b o e; exact ⟨by rcases hor with e2 | e2 <;> rw [e2]; exact fun e3 => (by have := (HV.out.own _ e3).2; omega); exact fun e3 => (by simp at e3; omega), by omega⟩)); have HBW := Lib.hid (Below.grown (w := _) (by exact (HBL2.out.alloc (by omega) _)) hg (by simp; omega) (fun k' hk' => (HV.out.own k' hk').1)); obtain ⟨D, cc, rfl, hbt⟩ := HRW.out.done HVW.out; have HBT := Lib.hid hbt; have ht1 := hbt.1; have ht2 := hbt.2.1; clear hov hg hor hbt hwz))
        all_goals (go_wp2_with fail)
        all_goals go_ret2
        all_goals exact ⟨D, cc, rfl, HBT.out, P2.b (HI.go HBW.out)⟩
      · have HRD : Hid (RT wr (if d = xs.length then some ⟨b2, o2, none⟩ else some ⟨b2, o2 + xs.length, none⟩) 0 (ys.drop xs.length)) := Lib.hid (by
          rw [List.drop_eq_nil_of_le (by omega)]
          exact RT.nil _ _ _ (by omega))
        go_wp2_with fail
        go_region_law (first
          | (refine step_append_textsN rfl _ _ rfl w1.heap.size (.slice none 0 0) [] (ys.drop xs.length) (if d = xs.length then some ⟨b2, o2, none⟩ else some ⟨b2, o2 + xs.length, none⟩) (0) (ys.length - xs.length) (List.length_drop) rfl rfl (OT.nil _ _) (HRD.out.below (by repeat (first | exact Below.refl _ _ | apply Below.drew | apply below_drewN | apply below_al))) (by simp; omega) (by first | omega | (simp; omega)) ?_; intro v2 w2 hown2 hg2 hor2; have hb2 := Below.grown (Below.refl _ _) hg2 (Nat.le_refl _) (fun k h => by cases h); rw [List.nil_append] at hown2; obtain ⟨C, n', hv2, hrt⟩ := hown2.read; rw [List.length_drop] at hv2; subst hv2; have hbw := below_two (w := wr) (by repeat (first | exact Below.refl _ _ | apply Below.drew | apply below_al)) hb2; have hgz := hbw.size; have HJ2 := HJ.go hbw; have HV2 := Lib.hid (HV.out.below hbw); have HR2 := Lib.hid (HR.out.below hbw); have HC2 : Hid (∀ b o, C = some ⟨b, o, none⟩ → b = wr.heap.size) := Lib.hid (fun b o e => by subst e; rcases hor2 with e2 | e2; exact absurd e2 (by simp [Value.ownBlock]); have e3 := Option.some.inj e2; simpa using e3); have HRT := Lib.hid hrt; have hr1 := hrt.1; rw [List.length_drop] at hr1; have hr2 := hrt.2.1; have HBL2 := Lib.hid (HBL.out.trans (hbw.mono HBL.out.size)); obtain ⟨p1, p2, q1, q2⟩ := P2.cells HJ2; clear hown2 hg2 hor2 hb2 hrt hbw)
          | (refine step_append_bind rfl _ _ rfl w1.heap.size _ bv w2.heap.size 1 (C, ys.length - xs.length, n', t) rfl rfl (HV2.out.below (by repeat (first | exact Below.refl _ _ | apply Below.drew | apply below_drewN | apply below_al))) (by simp) (by simp) (by have := HBN.out; omega) (by simp; omega) ?_; intro v3 w3 hov hg hor; have hwz := hg.size; (try simp at hwz); have HVW := Lib.hid hov; have HRW := Lib.hid (bind_whole ((HR2.out.below (by repeat (first | exact Below.refl _ _ | apply Below.drew | apply below_al))).grown hg hor) (p := (C, ys.length - xs.length, n', t)) rfl rfl ((HRT.out.below (by repeat (first | exact Below.refl _ _ | apply Below.drew | apply below_al))).away hg (fun b o e e2 => by have h1 := HC2.out b o e; have h2 := (HV.out.own _ e2).2; omega)) (fun b o e => by have h1 := HC2.out b o e; exact ⟨by rcases hor with e2 | e2 <;> rw [e2]; exact fun e3 => (by have := (HV.out.own _ e3).2; omega); exact fun e3 => (by simp at e3; omega), by omega⟩)); have HBW := Lib.hid (Below.grown (w := _) (by exact (HBL2.out.alloc (by omega) _)) hg (by simp; omega) (fun k' hk' => (HV.out.own k' hk').1)); obtain ⟨D, cc, rfl, hbt⟩ := HRW.out.done HVW.out; have HBT := Lib.hid hbt; have ht1 := hbt.1; have ht2 := hbt.2.1; clear hov hg hor hbt hwz))
        all_goals (go_wp2_with fail)
        all_goals go_ret2
        all_goals exact ⟨D, cc, rfl, HBT.out, P2.b (HI.go HBW.out)⟩

theorem bind_any (A B : Option Addr) (c d : Nat) (xs ys : List ByteArray) (r t : Bool) (w : World) (h : RT w A c xs) (k : RT w B d ys) (hm : ML w)
    (hsx : ∀ x ∈ xs, x.size ≤ 9223372036854775807) (hsy : ∀ x ∈ ys, x.size ≤ 9223372036854775807) :
    Calls Tryd.prog 68 #[.agg #[.slice A xs.length c, .bool r], .agg #[.slice B ys.length d, .bool t]] w (RetBT w (if withinOk insB ys xs t r = true then bindB xs ys r t else []) (withinOk insB ys xs t r)) := by
  cases hw : withinOk insB ys xs t r with
  | false => exact bind_no A B c d xs ys r t w h k hm hsx hsy hw
  | true =>
    cases r with
    | true => exact bind_rest A B c d xs ys t w h k hm hsx hsy hw
    | false => exact bind_plain A B c d xs ys t w h k hm hsx hsy hw
theorem rbind_any (A B : Option Addr) (c d : Nat) (xs ys : List ByteArray) (r t : Bool) (w : World) (h : RT w A c xs) (k : RT w B d ys) (hm : ML w)
    (hsx : ∀ x ∈ xs, x.size ≤ 9223372036854775807) (hsy : ∀ x ∈ ys, x.size ≤ 9223372036854775807) :
    Calls Tryd.prog 47 #[.agg #[.slice A xs.length c, .bool r], .agg #[.slice B ys.length d, .bool t]] w (RetBT w (if withinOk insB ys xs t r = true then bindB xs ys r t else []) (withinOk insB ys xs t r)) := by
  cases hw : withinOk insB ys xs t r with
  | false => exact rbind_no A B c d xs ys r t w h k hm hsx hsy hw
  | true =>
    cases r with
    | true => exact rbind_rest A B c d xs ys t w h k hm hsx hsy hw
    | false => exact rbind_plain A B c d xs ys t w h k hm hsx hsy hw
end Go.Proofs.YtidjmbmnfnnleaaDoor

