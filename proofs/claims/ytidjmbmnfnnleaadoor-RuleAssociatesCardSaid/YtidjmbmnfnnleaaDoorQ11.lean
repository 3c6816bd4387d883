/-
  Within: the walks of PartWithin, Inside, Within, and of the reference's Inside.
-/
import Derived.Test.YtidjmbmnfnnleaaDoorQ8
import Derived.BigQuiet
namespace Go.Proofs.YtidjmbmnfnnleaaDoor
set_option linter.unusedSimpArgs false
set_option linter.unusedVariables false
open Go.RowKit
open Pm

/-- a part within a part -/
def insB (a b : ByteArray) : Bool := if a = b then true else if stB b = false then false else if stB a = true then Lib.hasSuffix (tlB a).data.toList (tlB b).data.toList else mpOk b a
def rinsB (x y : ByteArray) : Bool := if starOk y = false then decide (x = y) else if starOk x = true then Lib.hasSuffix (sufB x).data.toList (sufB y).data.toList else cpOk y x

theorem suffix_self (l : List UInt8) : Lib.hasSuffix l l = true := by
  unfold Lib.hasSuffix
  rw [List.isSuffixOf_iff_suffix]
  exact ⟨[], rfl⟩
theorem ins_agree {x y : ByteArray} (hx : partB x = true) (hy : partB y = true) : insB x y = rinsB x y := by
  have ax := star_agree hx
  have ay := star_agree hy
  unfold insB rinsB
  cases hsy : stB y with
  | false =>
    rw [hsy] at ay
    rw [ay]
    by_cases e : x = y
    · rw [if_pos e, if_pos rfl, decide_eq_true e]
    · rw [if_neg e, if_pos rfl, if_pos rfl, decide_eq_false e]
  | true =>
    rw [hsy] at ay
    rw [ay]
    have hsu : sufB y = tlB y := by unfold sufB; rw [if_pos ay]
    cases hsx : stB x with
    | true =>
      rw [hsx] at ax
      have hsv : sufB x = tlB x := by unfold sufB; rw [if_pos ax]
      rw [ax, hsu, hsv]
      by_cases e : x = y
      · subst e
        rw [if_pos rfl, if_neg (by decide), if_pos rfl, suffix_self]
      · rw [if_neg e, if_neg (by decide), if_pos rfl, if_neg (by decide), if_pos rfl]
    | false =>
      rw [hsx] at ax
      rw [ax]
      have hne : ¬ x = y := fun e => by
        rw [e, hsy] at hsx
        cases hsx
      have hcx : comp x.data.toList = true := by
        unfold partB at hx
        rw [ax, Bool.false_or] at hx
        exact hx
      rw [if_neg hne, if_neg (by decide), if_neg (by decide), if_neg (by decide), if_neg (by decide)]
      exact (part_agree hy hcx).1

set_option maxHeartbeats 1000000 in
theorem partWithin_any (a b : ByteArray) (w : World) (ha : a.size ≤ 9223372036854775807) (hb : b.size ≤ 9223372036854775807) :
    Calls Tryd.prog 86 #[.string a, .string b] w fun e w' => e = .returned (.bool (insB a b)) ∧ Below w.heap.size w w' := by
  have HI : Hid (insB a b = if a = b then true else if stB b = false then false else if stB a = true then Lib.hasSuffix (tlB a).data.toList (tlB b).data.toList else mpOk b a) := Lib.hid rfl
  by_cases he : a = b
  · have heB : (a.toList == b.toList) = true := by rw [text_eqB, decide_eq_true he]
    rw [if_pos he] at HI
    rw [HI.out]
    clear he
    go_enter Tryd.func86, Tryd.ntmps86
    go_wp2_with fail
    go_ret
    exact ⟨rfl, Below.refl _ _⟩
  · have heB : (a.toList == b.toList) = false := by rw [text_eqB, decide_eq_false he]
    rw [if_neg he] at HI
    clear he
    cases hsb : stB b with
    | false =>
      rw [hsb, if_pos rfl] at HI
      rw [HI.out]
      go_enter Tryd.func86, Tryd.ntmps86
      go_wp2_with (go_at_call_of 63 (Value.string b); refine (isStar_any b _).mono ?_; rintro e w' ⟨rfl, rfl⟩)
      go_ret
      exact ⟨rfl, Below.refl _ _⟩
    | true =>
      rw [hsb, if_neg (by decide)] at HI
      have hpb := stB_pos hsb
      cases hsa : stB a with
      | false =>
        rw [hsa, if_neg (by decide)] at HI
        rw [HI.out]
        go_enter Tryd.func86, Tryd.ntmps86
        go_wp2_with (first
          | (go_at_call_of 63 (Value.string b); refine (isStar_any b _).mono ?_; rintro e w' ⟨rfl, rfl⟩)
          | (go_at_call_of 63 (Value.string a); refine (isStar_any a _).mono ?_; rintro e w' ⟨rfl, rfl⟩)
          | (go_at_call 78; refine (matchPart_any b a _ ha).mono ?_; rintro e w' ⟨rfl, rfl⟩))
        go_ret
        exact ⟨rfl, Below.refl _ _⟩
      | true =>
        rw [hsa, if_pos rfl] at HI
        rw [HI.out]
        have hpa := stB_pos hsa
        have htz := tlB_size a
        have HS : Hid (∀ W, Calls Tryd.prog 76 #[.string (a.extract 1 a.size), .string (b.extract 1 b.size)] W fun e w' => e = .returned (.bool (Lib.hasSuffix (tlB a).data.toList (tlB b).data.toList)) ∧ W = w') := Lib.hid (fun W => hasSuffix_any (tlB a) (tlB b) W (by omega))
        go_enter Tryd.func86, Tryd.ntmps86
        go_wp2_with (first
          | (go_at_call_of 63 (Value.string b); refine (isStar_any b _).mono ?_; rintro e w' ⟨rfl, rfl⟩)
          | (go_at_call_of 63 (Value.string a); refine (isStar_any a _).mono ?_; rintro e w' ⟨rfl, rfl⟩))
        go_quiet ((go_at_call 76; exact quiet_left (HS.out _)))
        go_wp2_with fail
        go_ret
        exact ⟨rfl, by repeat (first | exact Below.refl _ _ | apply Below.drew | apply below_drewN)⟩

set_option maxHeartbeats 1000000 in
theorem rinside_any (x y : ByteArray) (w : World) (hx : x.size ≤ 9223372036854775807) (hy : y.size ≤ 9223372036854775807) :
    Calls Tryd.prog 70 #[.string x, .string y] w fun e w' => e = .returned (.bool (rinsB x y)) ∧ w = w' := by
  have HI : Hid (rinsB x y = if starOk y = false then decide (x = y) else if starOk x = true then Lib.hasSuffix (sufB x).data.toList (sufB y).data.toList else cpOk y x) := Lib.hid rfl
  have HE := Lib.hid (text_eqB x y)
  have hsz : (sufB x).size ≤ 9223372036854775807 := by
    unfold sufB
    split
    · have := tlB_size x; omega
    · decide
  cases hsy : starOk y with
  | false =>
    rw [hsy, if_pos rfl] at HI
    rw [HI.out]
    cases hsx : starOk x <;>
    · go_enter Tryd.func70, Tryd.ntmps70
      go_wp2_with (first
        | (go_at_call_of 51 (Value.string x); refine (rstar_any x _ hx).mono ?_; rintro e w' ⟨rfl, rfl⟩)
        | (go_at_call_of 51 (Value.string y); refine (rstar_any y _ hy).mono ?_; rintro e w' ⟨rfl, rfl⟩))
      go_ret
      exact ⟨ret_bool HE.out, rfl⟩
  | true =>
    rw [hsy, if_neg (by decide)] at HI
    cases hsx : starOk x with
    | true =>
      rw [hsx, if_pos rfl] at HI
      rw [HI.out]
      go_enter Tryd.func70, Tryd.ntmps70
      go_wp2_with (first
        | (go_at_call_of 51 (Value.string x); refine (rstar_any x _ hx).mono ?_; rintro e w' ⟨rfl, rfl⟩)
        | (go_at_call_of 51 (Value.string y); refine (rstar_any y _ hy).mono ?_; rintro e w' ⟨rfl, rfl⟩)
        | (go_at_call 76; refine (hasSuffix_any _ _ _ hsz).mono ?_; rintro e w' ⟨rfl, rfl⟩))
      go_ret
      exact ⟨rfl, rfl⟩
    | false =>
      rw [hsx, if_neg (by decide)] at HI
      rw [HI.out]
      go_enter Tryd.func70, Tryd.ntmps70
      go_wp2_with (first
        | (go_at_call_of 51 (Value.string x); refine (rstar_any x _ hx).mono ?_; rintro e w' ⟨rfl, rfl⟩)
        | (go_at_call_of 51 (Value.string y); refine (rstar_any y _ hy).mono ?_; rintro e w' ⟨rfl, rfl⟩)
        | (go_at_call 52; refine (rcapture_any y x _ hy hx).mono ?_; rintro e w' ⟨rfl, rfl⟩))
      go_ret
      exact ⟨rfl, rfl⟩
end Go.Proofs.YtidjmbmnfnnleaaDoor

