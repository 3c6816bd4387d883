/-
  MergePieces returns true.
-/
import Derived.Test.YtfhkmmicdbblnaaL14
import Derived.Test.YtfhkmmicdbblnaaE1
import Derived.Test.YtfhkmmicdbblnaaE8
import Derived.Test.YtfhkmmicdbblnaaMergeExchange
import Derived.Test.YtfhkmmicdbblnaaMergeUnchanged
namespace Go.Proofs.Ytfhkmmicdbblnaa
set_option linter.unusedSimpArgs false
set_option linter.unusedVariables false
open Go.RowKit

theorem fm_step {f : Pc ByteArray → List ByteArray} {ps : List (Pc ByteArray)} {k : Nat} {p : Pc ByteArray} (hx : ps[k]? = some p) :
    catB ((ps.take k).flatMap f) ++ catB (f p) = catB ((ps.take (k + 1)).flatMap f) := by
  rw [catB_app2, List.take_add_one, hx, List.flatMap_append]
  simp
theorem fm_part {f : Pc ByteArray → List ByteArray} {ps : List (Pc ByteArray)} {k : Nat} {p : Pc ByteArray} (hx : ps[k]? = some p) :
    (catB ((ps.take k).flatMap f)).size + (catB (f p)).size ≤ (catB (ps.flatMap f)).size := by
  have e : ps.flatMap f = (ps.take k).flatMap f ++ (f p ++ (ps.drop (k + 1)).flatMap f) := by
    conv => lhs; rw [← List.take_append_drop k ps, List.drop_eq_getElem_cons (List.getElem?_eq_some_iff.1 hx).1, (List.getElem?_eq_some_iff.1 hx).2]
    rw [List.flatMap_append, List.flatMap_cons]
  rw [e, cat_size, cat_size]
  omega
theorem apart_prev : ∀ {ps : List (Pc ByteArray)} {k : Nat} {p q : Pc ByteArray}, apartP ps → ps[k]? = some p → ps[k + 1]? = some q → p.kind = 1 ∨ q.kind = 1
  | [], k, p, q, _, h, _ => by simp at h
  | [a], k, p, q, _, _, h => by simp at h
  | a :: b :: l, 0, p, q, h, h1, h2 => by
    simp only [List.getElem?_cons_zero, List.getElem?_cons_succ, Option.some.injEq, Nat.zero_add] at h1 h2
    subst h1 h2
    exact h.1
  | a :: b :: l, k + 1, p, q, h, h1, h2 => by
    rw [List.getElem?_cons_succ] at h1 h2
    exact apart_prev h.2 h1 h2
theorem pc_cases {p : Pc ByteArray} (h : pcOk p) : (p.kind = 1 ∧ p.o = p.a ∧ p.o = p.b ∧ p.a = p.b ∧ 0 < p.o.length) ∨ (p.kind = 2 ∧ p.o ≠ p.a ∧ p.o = p.b ∧ p.a ≠ p.b) ∨ (p.kind = 3 ∧ p.o = p.a ∧ p.o ≠ p.b ∧ p.a ≠ p.b) ∨ (p.kind = 4 ∧ p.o ≠ p.a ∧ p.o ≠ p.b ∧ p.a = p.b) ∨ (p.kind = 5 ∧ p.o ≠ p.a ∧ p.o ≠ p.b ∧ p.a ≠ p.b) := by
  rcases h with ⟨h1, h2, h3, h4⟩ | ⟨h1, h2⟩
  · exact .inl ⟨h1, h2, h3, h2.symm.trans h3, (Nat.pos_of_ne_zero fun e => h4 (List.eq_nil_of_length_eq_zero e))⟩
  · unfold kindOf at h1
    by_cases e1 : p.b = p.o
    · rw [if_pos e1] at h1
      exact .inr (.inl ⟨h1, fun e => h2 ⟨e, e1.symm⟩, e1.symm, fun e => h2 ⟨(e.trans e1).symm, e1.symm⟩⟩)
    · rw [if_neg e1] at h1
      by_cases e2 : p.a = p.o
      · rw [if_pos e2] at h1
        exact .inr (.inr (.inl ⟨h1, e2.symm, fun e => e1 e.symm, fun e => e1 (e.symm.trans e2)⟩))
      · rw [if_neg e2] at h1
        by_cases e3 : p.a = p.b
        · rw [if_pos e3] at h1
          exact .inr (.inr (.inr (.inl ⟨h1, fun e => e2 e.symm, fun e => e1 e.symm, e3⟩)))
        · rw [if_neg e3] at h1
          exact .inr (.inr (.inr (.inr ⟨h1, fun e => e2 e.symm, fun e => e1 e.symm, e3⟩)))
theorem eqT_dec {A B : Option Addr} {c d : Nat} {xs ys : List ByteArray} {q : Bool} (hq : decide (xs = ys) = q) (w : World) (h : RT w A c xs) (k : RT w B d ys) :
    Calls Try.prog 14 #[.slice A xs.length c, .slice B ys.length d] w fun e w' => e = .returned (.bool q) ∧ ∃ n, w' = w.drewN n :=
  (eqT_any A B c d xs ys w h k).mono fun e w' ⟨he, hw⟩ => ⟨he.trans (ret_bool hq), hw⟩
theorem bx_below {w w' : World} {g : Nat} {cs : List Value} (h : BX w g cs) (hb : Below w.heap.size w w') : (∀ (j : Nat) u, cs[j]? = some u → w'.cell? ⟨g, j, none⟩ = some u) := (h.below hb).1

set_option maxHeartbeats 8000000 in
set_option maxRecDepth 100000 in
theorem mergePieces_any (o a b : ByteArray) (w : World) (ho : o.size ≤ maxLen) (ha : a.size ≤ maxLen) (hb : b.size ≤ maxLen) (hsh : w.ShapedOpen Try.prog) :
    Calls Try.prog 8 #[.string o, .string a, .string b] w fun e w' => e = .returned (.bool true) ∧ Below w.heap.size w w' := by
  clear hsh
  cases hq : longB [o, a, b] with
  | true =>
    have HLG := longQ hq
    clear hq ho ha hb
    go_enter Try.func8, Try.ntmps8
    go_wp2_with (first
      | (go_at_call 10; refine (HLG.out _ _ _ (RT.three rfl)).mono ?_; rintro e w' ⟨rfl, rfl⟩)
      | (go_at_call 11; refine (awake_any _).mono ?_; rintro e w' ⟨rfl, hbl⟩))
    go_ret
    exact ⟨rfl, go3 (below_alloc _ _) hbl⟩
  | false =>
    have HLG := longQ hq
    obtain ⟨so, sa, sb⟩ := long_three hq
    have HM1 := Lib.hid (fun W => merge_any o a b W (by omega) (by omega) (by omega))
    unfold RetP at HM1
    cases hf : fewB [o, a, b] with
    | false =>
      rw [(dv_bad hf).2, mergeT_bad hf] at HM1
      clear hq ho ha hb hf so sa sb
      go_enter Try.func8, Try.ntmps8
      go_wp2_with (go_at_call 10; refine (HLG.out _ _ _ (RT.three rfl)).mono ?_; rintro e w' ⟨rfl, rfl⟩)
      go_at_call 12
      refine (HM1.out _).mono ?_
      rintro e w1 ⟨A1, c1, rfl, rf, hb⟩
      have HB1 := Lib.hid (go3 (below_alloc _ _) hb)
      clear rf hb HM1 HLG
      go_wp2_with (go_at_call 11; refine (awake_any _).mono ?_; rintro e w' ⟨rfl, hbl⟩)
      go_ret
      exact ⟨rfl, go3 HB1.out hbl⟩
    | true =>
      have hok := mrg_ok (lB o) (lB a) (lB b)
      rw [← mergeT_good hf] at hok
      obtain ⟨f1, f2, f3⟩ := few3 hf
      have HO := Lib.hid hok.1.1
      have HA := Lib.hid hok.1.2.1
      have HB0 := Lib.hid hok.1.2.2
      have HOK := Lib.hid hok.2.1
      have HAP := Lib.hid hok.2.2
      have HF := Lib.hid (And.intro f1 (And.intro f2 f3))
      have HSZ := Lib.hid (And.intro so (And.intro sa sb))
      rw [(dv_good hf).2] at HM1
      have hE1 := str_self o
      have hE2 := str_self a
      have hE3 := str_self b
      have HC2 := Lib.hid (fun (S T : ByteArray) (h : S.size + T.size ≤ 1000) (w : World) => run_string_add_sum (P := Try.prog) w S T (by omega))
      clear hq ho ha hb hf so sa sb hok f1 f2 f3
      generalize mergeT o a b = ps at *
      go_enter Try.func8, Try.ntmps8
      go_wp2_with (go_at_call 10; refine (HLG.out _ _ _ (RT.three rfl)).mono ?_; rintro e w' ⟨rfl, rfl⟩)
      go_at_call 12
      refine (HM1.out _).mono ?_
      rintro e w1 ⟨A1, c1, rfl, rf, hb⟩
      have HB1 := Lib.hid (go3 (below_alloc _ _) hb)
      have HR1 := Lib.hid rf
      have k1 : ps.length ≤ c1 := by have := rf.1; rwa [List.length_map] at this
      have k2 := rf.2.1
      clear rf hb HM1 HLG
      go_wp2_with fail
      go_loopw [9, 10, 11, 41] (fun s9 s10 s11 i wr => ∃ (k : Nat) (S T U : ByteArray), k ≤ ps.length ∧ i = .int .i64 k ∧ s9 = .string S ∧ s10 = .string T ∧ s11 = .string U ∧ Hid (S = catB ((ps.take k).flatMap (·.o))) ∧ Hid (T = catB ((ps.take k).flatMap (·.a))) ∧ Hid (U = catB ((ps.take k).flatMap (·.b))) ∧ Hid (Below w1.heap.size w1 wr)) (fun _ _ _ i _ => ps.length - (intOf i).toNat)
      case atStart => exact ⟨0, _, _, _, Nat.zero_le _, rfl, rfl, rfl, rfl, Lib.hid rfl, Lib.hid rfl, Lib.hid rfl, Lib.hid (Below.refl _ _)⟩
      case round =>
        obtain ⟨k, S, T, U, hk, rfl, rfl, rfl, rfl, HS, HT, HU, HB⟩ := hrel
        have hbs := HB.out.size
        by_cases hlt : k < ps.length
        · obtain ⟨⟨kd, O, P, Q⟩, hx⟩ : ∃ x, ps[k]? = some x := ⟨_, List.getElem?_eq_getElem hlt⟩
          have HX := Lib.hid hx
          obtain ⟨g, og, C1, n1, C2, n2, C3, n3, rfl, hb1, x0, x1, x2, x3, r1, r2, r3⟩ := (HR1.out.below HB.out).piece hx
          simp only at x0 x1 x2 x3 r1 r2 r3
          have HRO := Lib.hid (r1.below (below_alloc wr (.cells #[.int .i64 kd, .slice C1 O.length n1, .slice C2 P.length n2, .slice C3 Q.length n3] 30)))
          have HRP := Lib.hid (r2.below (below_alloc wr (.cells #[.int .i64 kd, .slice C1 O.length n1, .slice C2 P.length n2, .slice C3 Q.length n3] 30)))
          have HRQ := Lib.hid (r3.below (below_alloc wr (.cells #[.int .i64 kd, .slice C1 O.length n1, .slice C2 P.length n2, .slice C3 Q.length n3] 30)))
          have HBX := Lib.hid (BX.new wr [.int .i64 kd, .slice C1 O.length n1, .slice C2 P.length n2, .slice C3 Q.length n3] 30 rfl)
          have HBA := Lib.hid (HB.out.alloc hbs (.cells #[.int .i64 kd, .slice C1 O.length n1, .slice C2 P.length n2, .slice C3 Q.length n3] 30))
          have HSN : Hid (S ++ catB O = catB ((ps.take (k + 1)).flatMap (·.o))) := Lib.hid (by rw [HS.out, ← fm_step hx])
          have HTN : Hid (T ++ catB P = catB ((ps.take (k + 1)).flatMap (·.a))) := Lib.hid (by rw [HT.out, ← fm_step hx])
          have HUN : Hid (U ++ catB Q = catB ((ps.take (k + 1)).flatMap (·.b))) := Lib.hid (by rw [HU.out, ← fm_step hx])
          have hz1 : S.size + (catB O).size ≤ 1000 := by
            have := fm_part (f := (·.o)) hx
            rw [← HS.out, HO.out, cat_lB] at this
            have := HSZ.out.1
            simp only at *
            omega
          have hz2 : T.size + (catB P).size ≤ 1000 := by
            have := fm_part (f := (·.a)) hx
            rw [← HT.out, HA.out, cat_lB] at this
            have := HSZ.out.2.1
            simp only at *
            omega
          have hz3 : U.size + (catB Q).size ≤ 1000 := by
            have := fm_part (f := (·.b)) hx
            rw [← HU.out, HB0.out, cat_lB] at this
            have := HSZ.out.2.2
            simp only at *
            omega
          have hadd1 := HC2.out _ _ hz1
          have hadd2 := HC2.out _ _ hz2
          have hadd3 := HC2.out _ _ hz3
          have hl1 : O.length ≤ 400 := by
            have := mem_len (f := (·.o)) (List.mem_of_getElem? hx)
            rw [HO.out] at this
            exact Nat.le_trans this HF.out.1
          have hl2 : P.length ≤ 400 := by
            have := mem_len (f := (·.a)) (List.mem_of_getElem? hx)
            rw [HA.out] at this
            exact Nat.le_trans this HF.out.2.1
          have hl3 : Q.length ≤ 400 := by
            have := mem_len (f := (·.b)) (List.mem_of_getElem? hx)
            rw [HB0.out] at this
            exact Nat.le_trans this HF.out.2.2
          have HJ1 := Lib.hid (fun W h => join0_any C1 n1 O W h (by omega) (by omega))
          have HJ2 := Lib.hid (fun W h => join0_any C2 n2 P W h (by omega) (by omega))
          have HJ3 := Lib.hid (fun W h => join0_any C3 n3 Q W h (by omega) (by omega))
          have HLS := Lib.hid (And.intro hl1 (And.intro hl2 hl3))
          clear hx r1 r2 r3 hl1 hl2 hl3 hz1 hz2 hz3
          have HCO : Hid (catB O = catB O) := Lib.hid rfl
          generalize catB O = SO at *
          generalize catB P = SP at *
          generalize catB Q = SQ at *
          clear HCO
          go_upto_region 10 with fail
          go_cut [9, 10, 11] (fun s9 s10 s11 wx => s9 = .string (S ++ SO) ∧ s10 = .string (T ++ SP) ∧ s11 = .string (U ++ SQ) ∧ Hid (Below (wr.alloc (.cells #[.int .i64 kd, .slice C1 O.length n1, .slice C2 P.length n2, .slice C3 Q.length n3] 30)).heap.size (wr.alloc (.cells #[.int .i64 kd, .slice C1 O.length n1, .slice C2 P.length n2, .slice C3 Q.length n3] 30)) wx))
          case first =>
            have HIX : At (fun w' => BX w' wr.heap.size [.int .i64 kd, .slice C1 O.length n1, .slice C2 P.length n2, .slice C3 Q.length n3] ∧ Below (wr.alloc (.cells #[.int .i64 kd, .slice C1 O.length n1, .slice C2 P.length n2, .slice C3 Q.length n3] 30)).heap.size (wr.alloc (.cells #[.int .i64 kd, .slice C1 O.length n1, .slice C2 P.length n2, .slice C3 Q.length n3] 30)) w') (wr.alloc (.cells #[.int .i64 kd, .slice C1 O.length n1, .slice C2 P.length n2, .slice C3 Q.length n3] 30)) := ⟨fun X Y h hb => ⟨h.1.below hb, go3 h.2 hb⟩, HBX.out, Below.refl _ _⟩
            go_region_held3 (fun w' => w'.cell? ⟨wr.heap.size, 1, none⟩ = some (.slice C1 O.length n1) ∧ w'.cell? ⟨wr.heap.size, 2, none⟩ = some (.slice C2 P.length n2) ∧ w'.cell? ⟨wr.heap.size, 3, none⟩ = some (.slice C3 Q.length n3))
              (first | exact ⟨(HIX.go (by repeat (first | exact Below.refl _ _ | apply Below.drew | apply below_drewN | apply below_al))).out.1.1 1 _ rfl, (HIX.go (by repeat (first | exact Below.refl _ _ | apply Below.drew | apply below_drewN | apply below_al))).out.1.1 2 _ rfl, (HIX.go (by repeat (first | exact Below.refl _ _ | apply Below.drew | apply below_drewN | apply below_al))).out.1.1 3 _ rfl⟩)
              (first
                | (go_at_call_of 20 (Value.slice C1 O.length n1); refine (HJ1.out _ (HRO.out.below (HIX.go (by repeat (first | exact Below.refl _ _ | apply Below.drew | apply below_drewN | apply below_al))).out.2)).mono ?_; rintro e w5 ⟨rfl, hb⟩; replace HIX := HIX.go2 (by repeat (first | exact Below.refl _ _ | apply Below.drew | apply below_drewN | apply below_al)) hb; clear hb)
                | (go_at_call_of 20 (Value.slice C2 P.length n2); refine (HJ2.out _ (HRP.out.below (HIX.go (by repeat (first | exact Below.refl _ _ | apply Below.drew | apply below_drewN | apply below_al))).out.2)).mono ?_; rintro e w6 ⟨rfl, hb⟩; replace HIX := HIX.go2 (by repeat (first | exact Below.refl _ _ | apply Below.drew | apply below_drewN | apply below_al)) hb; clear hb)
                | (go_at_call_of 20 (Value.slice C3 Q.length n3); refine (HJ3.out _ (HRQ.out.below (HIX.go (by repeat (first | exact Below.refl _ _ | apply Below.drew | apply below_drewN | apply below_al))).out.2)).mono ?_; rintro e w7 ⟨rfl, hb⟩; replace HIX := HIX.go2 (by repeat (first | exact Below.refl _ _ | apply Below.drew | apply below_drewN | apply below_al)) hb; clear hb))
            all_goals
              go_wp2_with fail
              go_meet
              exact ⟨rfl, rfl, rfl, Lib.hid (HIX.go (by repeat (first | exact Below.refl _ _ | apply Below.drew | apply below_drewN | apply below_al))).out.2⟩
          case rest =>
            obtain ⟨rfl, rfl, rfl, HBC⟩ := hcut
            have HB2 := Lib.hid (go3 HBA.out HBC.out)
            have z0 := (HBX.out.below HBC.out).1 0 _ rfl
            have z1 := (HBX.out.below HBC.out).1 1 _ rfl
            have z2 := (HBX.out.below HBC.out).1 2 _ rfl
            have z3 := (HBX.out.below HBC.out).1 3 _ rfl
            clear HJ1 HJ2 HJ3 hadd1 hadd2 hadd3 HC2 x0 x1 x2 x3 HLS HBX
            rcases pc_cases (HOK.out _ (List.mem_of_getElem? HX.out)) with ⟨hkd, e1, e2, e3, h0⟩ | ⟨hkd, e1, e2, e3⟩ | ⟨hkd, e1, e2, e3⟩ | ⟨hkd, e1, e2, e3⟩ | ⟨hkd, e1, e2, e3⟩
            · simp only at hkd e1 e2 e3 h0
              have h0I : (0 : Int) < (O.length : Int) := by omega
              subst hkd
              have HE1 := Lib.hid (fun W (h : Below wc.heap.size wc W) => eqT_dec (q := true) (by simpa using e1) W (HRO.out.below (go3 HBC.out h)) (HRP.out.below (go3 HBC.out h)))
              have HE2 := Lib.hid (fun W (h : Below wc.heap.size wc W) => eqT_dec (q := true) (by simpa using e2) W (HRO.out.below (go3 HBC.out h)) (HRQ.out.below (go3 HBC.out h)))
              have HE3 := Lib.hid (fun W (h : Below wc.heap.size wc W) => eqT_dec (q := true) (by simpa using e3) W (HRP.out.below (go3 HBC.out h)) (HRQ.out.below (go3 HBC.out h)))
              clear e1 e2 e3
              by_cases k0 : 0 < k
              · have hkI : (0 : Int) < (k : Int) := by omega
                have k00 := k0
                go_wp2_with fail
                go_quiet ((go_at_call 14; first | with_reducible exact Calls.quiet_of (HE1.out _ (below_drewN' _ _)) | with_reducible exact Calls.quiet_of (HE2.out _ (below_drewN' _ _)) | with_reducible exact Calls.quiet_of (HE3.out _ (below_drewN' _ _))))
                go_wp2_with fail
                go_roundw
                case rel => exact ⟨k + 1, _, _, _, by omega, by go_num, rfl, rfl, rfl, HSN, HTN, HUN, Lib.hid (go3 HB2.out (below_drewN' _ _))⟩
                case measure => simp [intOf]; omega
              · have hkI : ¬ (0 : Int) < (k : Int) := by omega
                go_wp2_with fail
                go_quiet ((go_at_call 14; first | with_reducible exact Calls.quiet_of (HE1.out _ (below_drewN' _ _)) | with_reducible exact Calls.quiet_of (HE2.out _ (below_drewN' _ _)) | with_reducible exact Calls.quiet_of (HE3.out _ (below_drewN' _ _))))
                go_wp2_with fail
                go_roundw
                case rel => exact ⟨k + 1, _, _, _, by omega, by go_num, rfl, rfl, rfl, HSN, HTN, HUN, Lib.hid (go3 HB2.out (below_drewN' _ _))⟩
                case measure => simp [intOf]; omega
            · simp only at hkd e1 e2 e3
              subst hkd
              have HE1 := Lib.hid (fun W (h : Below wc.heap.size wc W) => eqT_dec (q := false) (by simpa using e1) W (HRO.out.below (go3 HBC.out h)) (HRP.out.below (go3 HBC.out h)))
              have HE2 := Lib.hid (fun W (h : Below wc.heap.size wc W) => eqT_dec (q := true) (by simpa using e2) W (HRO.out.below (go3 HBC.out h)) (HRQ.out.below (go3 HBC.out h)))
              have HE3 := Lib.hid (fun W (h : Below wc.heap.size wc W) => eqT_dec (q := false) (by simpa using e3) W (HRP.out.below (go3 HBC.out h)) (HRQ.out.below (go3 HBC.out h)))
              clear e1 e2 e3
              by_cases k0 : 0 < k
              · have hkI : (0 : Int) < (k : Int) := by omega
                obtain ⟨⟨kq, Oq, Pq, Qq⟩, hxq⟩ : ∃ x, ps[k - 1]? = some x := ⟨_, List.getElem?_eq_getElem (by omega)⟩
                have hq1 : kq = 1 := by
                  rcases apart_prev HAP.out hxq (by rw [Nat.sub_add_cancel k0]; exact HX.out) with h | h
                  · exact h
                  · exact absurd (show ((2 : Int) = 1) from h) (by decide)
                subst hq1
                obtain ⟨gq, ogq, _, _, _, _, _, _, eq, hbq, xq, _⟩ := (HR1.out.below (go3 HB.out (go3 (below_alloc wr (.cells #[.int .i64 2, .slice C1 O.length n1, .slice C2 P.length n2, .slice C3 Q.length n3] 30)) HBC.out))).piece hxq
                cases eq
                simp only at xq
                clear hxq hbq
                go_wp2_with fail
                go_quiet ((go_at_call 14; first | with_reducible exact Calls.quiet_of (HE1.out _ (below_drewN' _ _)) | with_reducible exact Calls.quiet_of (HE2.out _ (below_drewN' _ _)) | with_reducible exact Calls.quiet_of (HE3.out _ (below_drewN' _ _))))
                go_wp2_with fail
                go_roundw
                case rel => exact ⟨k + 1, _, _, _, by omega, by go_num, rfl, rfl, rfl, HSN, HTN, HUN, Lib.hid (go3 HB2.out (below_drewN' _ _))⟩
                case measure => simp [intOf]; omega
              · have hkI : ¬ (0 : Int) < (k : Int) := by omega
                go_wp2_with fail
                go_quiet ((go_at_call 14; first | with_reducible exact Calls.quiet_of (HE1.out _ (below_drewN' _ _)) | with_reducible exact Calls.quiet_of (HE2.out _ (below_drewN' _ _)) | with_reducible exact Calls.quiet_of (HE3.out _ (below_drewN' _ _))))
                go_wp2_with fail
                go_roundw
                case rel => exact ⟨k + 1, _, _, _, by omega, by go_num, rfl, rfl, rfl, HSN, HTN, HUN, Lib.hid (go3 HB2.out (below_drewN' _ _))⟩
                case measure => simp [intOf]; omega
            · simp only at hkd e1 e2 e3
              subst hkd
              have HE1 := Lib.hid (fun W (h : Below wc.heap.size wc W) => eqT_dec (q := true) (by simpa using e1) W (HRO.out.below (go3 HBC.out h)) (HRP.out.below (go3 HBC.out h)))
              have HE2 := Lib.hid (fun W (h : Below wc.heap.size wc W) => eqT_dec (q := false) (by simpa using e2) W (HRO.out.below (go3 HBC.out h)) (HRQ.out.below (go3 HBC.out h)))
              have HE3 := Lib.hid (fun W (h : Below wc.heap.size wc W) => eqT_dec (q := false) (by simpa using e3) W (HRP.out.below (go3 HBC.out h)) (HRQ.out.below (go3 HBC.out h)))
              clear e1 e2 e3
              by_cases k0 : 0 < k
              · have hkI : (0 : Int) < (k : Int) := by omega
                obtain ⟨⟨kq, Oq, Pq, Qq⟩, hxq⟩ : ∃ x, ps[k - 1]? = some x := ⟨_, List.getElem?_eq_getElem (by omega)⟩
                have hq1 : kq = 1 := by
                  rcases apart_prev HAP.out hxq (by rw [Nat.sub_add_cancel k0]; exact HX.out) with h | h
                  · exact h
                  · exact absurd (show ((3 : Int) = 1) from h) (by decide)
                subst hq1
                obtain ⟨gq, ogq, _, _, _, _, _, _, eq, hbq, xq, _⟩ := (HR1.out.below (go3 HB.out (go3 (below_alloc wr (.cells #[.int .i64 3, .slice C1 O.length n1, .slice C2 P.length n2, .slice C3 Q.length n3] 30)) HBC.out))).piece hxq
                cases eq
                simp only at xq
                clear hxq hbq
                go_wp2_with fail
                go_quiet ((go_at_call 14; first | with_reducible exact Calls.quiet_of (HE1.out _ (below_drewN' _ _)) | with_reducible exact Calls.quiet_of (HE2.out _ (below_drewN' _ _)) | with_reducible exact Calls.quiet_of (HE3.out _ (below_drewN' _ _))))
                go_wp2_with fail
                go_roundw
                case rel => exact ⟨k + 1, _, _, _, by omega, by go_num, rfl, rfl, rfl, HSN, HTN, HUN, Lib.hid (go3 HB2.out (below_drewN' _ _))⟩
                case measure => simp [intOf]; omega
              · have hkI : ¬ (0 : Int) < (k : Int) := by omega
                go_wp2_with fail
                go_quiet ((go_at_call 14; first | with_reducible exact Calls.quiet_of (HE1.out _ (below_drewN' _ _)) | with_reducible exact Calls.quiet_of (HE2.out _ (below_drewN' _ _)) | with_reducible exact Calls.quiet_of (HE3.out _ (below_drewN' _ _))))
                go_wp2_with fail
                go_roundw
                case rel => exact ⟨k + 1, _, _, _, by omega, by go_num, rfl, rfl, rfl, HSN, HTN, HUN, Lib.hid (go3 HB2.out (below_drewN' _ _))⟩
                case measure => simp [intOf]; omega
            · simp only at hkd e1 e2 e3
              subst hkd
              have HE1 := Lib.hid (fun W (h : Below wc.heap.size wc W) => eqT_dec (q := false) (by simpa using e1) W (HRO.out.below (go3 HBC.out h)) (HRP.out.below (go3 HBC.out h)))
              have HE2 := Lib.hid (fun W (h : Below wc.heap.size wc W) => eqT_dec (q := false) (by simpa using e2) W (HRO.out.below (go3 HBC.out h)) (HRQ.out.below (go3 HBC.out h)))
              have HE3 := Lib.hid (fun W (h : Below wc.heap.size wc W) => eqT_dec (q := true) (by simpa using e3) W (HRP.out.below (go3 HBC.out h)) (HRQ.out.below (go3 HBC.out h)))
              clear e1 e2 e3
              by_cases k0 : 0 < k
              · have hkI : (0 : Int) < (k : Int) := by omega
                obtain ⟨⟨kq, Oq, Pq, Qq⟩, hxq⟩ : ∃ x, ps[k - 1]? = some x := ⟨_, List.getElem?_eq_getElem (by omega)⟩
                have hq1 : kq = 1 := by
                  rcases apart_prev HAP.out hxq (by rw [Nat.sub_add_cancel k0]; exact HX.out) with h | h
                  · exact h
                  · exact absurd (show ((4 : Int) = 1) from h) (by decide)
                subst hq1
                obtain ⟨gq, ogq, _, _, _, _, _, _, eq, hbq, xq, _⟩ := (HR1.out.below (go3 HB.out (go3 (below_alloc wr (.cells #[.int .i64 4, .slice C1 O.length n1, .slice C2 P.length n2, .slice C3 Q.length n3] 30)) HBC.out))).piece hxq
                cases eq
                simp only at xq
                clear hxq hbq
                go_wp2_with fail
                go_quiet ((go_at_call 14; first | with_reducible exact Calls.quiet_of (HE1.out _ (below_drewN' _ _)) | with_reducible exact Calls.quiet_of (HE2.out _ (below_drewN' _ _)) | with_reducible exact Calls.quiet_of (HE3.out _ (below_drewN' _ _))))
                go_wp2_with fail
                go_roundw
                case rel => exact ⟨k + 1, _, _, _, by omega, by go_num, rfl, rfl, rfl, HSN, HTN, HUN, Lib.hid (go3 HB2.out (below_drewN' _ _))⟩
                case measure => simp [intOf]; omega
              · have hkI : ¬ (0 : Int) < (k : Int) := by omega
                go_wp2_with fail
                go_quiet ((go_at_call 14; first | with_reducible exact Calls.quiet_of (HE1.out _ (below_drewN' _ _)) | with_reducible exact Calls.quiet_of (HE2.out _ (below_drewN' _ _)) | with_reducible exact Calls.quiet_of (HE3.out _ (below_drewN' _ _))))
                go_wp2_with fail
                go_roundw
                case rel => exact ⟨k + 1, _, _, _, by omega, by go_num, rfl, rfl, rfl, HSN, HTN, HUN, Lib.hid (go3 HB2.out (below_drewN' _ _))⟩
                case measure => simp [intOf]; omega
            · simp only at hkd e1 e2 e3
              subst hkd
              have HE1 := Lib.hid (fun W (h : Below wc.heap.size wc W) => eqT_dec (q := false) (by simpa using e1) W (HRO.out.below (go3 HBC.out h)) (HRP.out.below (go3 HBC.out h)))
              have HE2 := Lib.hid (fun W (h : Below wc.heap.size wc W) => eqT_dec (q := false) (by simpa using e2) W (HRO.out.below (go3 HBC.out h)) (HRQ.out.below (go3 HBC.out h)))
              have HE3 := Lib.hid (fun W (h : Below wc.heap.size wc W) => eqT_dec (q := false) (by simpa using e3) W (HRP.out.below (go3 HBC.out h)) (HRQ.out.below (go3 HBC.out h)))
              clear e1 e2 e3
              by_cases k0 : 0 < k
              · have hkI : (0 : Int) < (k : Int) := by omega
                obtain ⟨⟨kq, Oq, Pq, Qq⟩, hxq⟩ : ∃ x, ps[k - 1]? = some x := ⟨_, List.getElem?_eq_getElem (by omega)⟩
                have hq1 : kq = 1 := by
                  rcases apart_prev HAP.out hxq (by rw [Nat.sub_add_cancel k0]; exact HX.out) with h | h
                  · exact h
                  · exact absurd (show ((5 : Int) = 1) from h) (by decide)
                subst hq1
                obtain ⟨gq, ogq, _, _, _, _, _, _, eq, hbq, xq, _⟩ := (HR1.out.below (go3 HB.out (go3 (below_alloc wr (.cells #[.int .i64 5, .slice C1 O.length n1, .slice C2 P.length n2, .slice C3 Q.length n3] 30)) HBC.out))).piece hxq
                cases eq
                simp only at xq
                clear hxq hbq
                go_wp2_with fail
                go_quiet ((go_at_call 14; first | with_reducible exact Calls.quiet_of (HE1.out _ (below_drewN' _ _)) | with_reducible exact Calls.quiet_of (HE2.out _ (below_drewN' _ _)) | with_reducible exact Calls.quiet_of (HE3.out _ (below_drewN' _ _))))
                go_wp2_with fail
                go_roundw
                case rel => exact ⟨k + 1, _, _, _, by omega, by go_num, rfl, rfl, rfl, HSN, HTN, HUN, Lib.hid (go3 HB2.out (below_drewN' _ _))⟩
                case measure => simp [intOf]; omega
              · have hkI : ¬ (0 : Int) < (k : Int) := by omega
                go_wp2_with fail
                go_quiet ((go_at_call 14; first | with_reducible exact Calls.quiet_of (HE1.out _ (below_drewN' _ _)) | with_reducible exact Calls.quiet_of (HE2.out _ (below_drewN' _ _)) | with_reducible exact Calls.quiet_of (HE3.out _ (below_drewN' _ _))))
                go_wp2_with fail
                go_roundw
                case rel => exact ⟨k + 1, _, _, _, by omega, by go_num, rfl, rfl, rfl, HSN, HTN, HUN, Lib.hid (go3 HB2.out (below_drewN' _ _))⟩
                case measure => simp [intOf]; omega
        · obtain rfl : k = ps.length := by omega
          have e1 : S = o := by rw [HS.out, List.take_length, HO.out, cat_lB]
          have e2 : T = a := by rw [HT.out, List.take_length, HA.out, cat_lB]
          have e3 : U = b := by rw [HU.out, List.take_length, HB0.out, cat_lB]
          subst e1 e2 e3
          go_wp2_with (go_at_call 11; refine (awake_any _).mono ?_; rintro e w' ⟨rfl, hbl⟩)
          go_ret
          exact ⟨rfl, go3 (go3 HB1.out HB.out) hbl⟩
end Go.Proofs.Ytfhkmmicdbblnaa

