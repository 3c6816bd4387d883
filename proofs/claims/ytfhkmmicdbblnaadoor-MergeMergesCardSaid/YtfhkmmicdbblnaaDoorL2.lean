/-
  The walk of the program's divide.
-/
import Derived.Test.YtfhkmmicdbblnaaDoorL1
namespace Go.Proofs.YtfhkmmicdbblnaaDoor
set_option linter.unusedSimpArgs false
set_option linter.unusedVariables false
open Go.RowKit

theorem textsInfo : (Tryd.prog.info? 30).map (fun i => (i.zero, i.size, i.bytes)) = some (some (.slice none 0 0), 1, 24) := by kernel_rfl
theorem wpList_append_list {w : World} {ops : Array Oper} {rest : List Oper} {o : Oper} {a : Act} {Q : Exit → Act → World → Prop} (hgd : o.guard = none) (s x : Operand)
    (ho : o.op = .call { callee := .builtin .append, args := #[s, x], argTypes := #[48, 48] })
    (base : Nat) (v : Value) (fs : List (List Fld)) (f : List Fld) (u : Value) (b c : Nat) (hs' : a.eval s = v) (hx : a.eval x = .slice (some ⟨b, 0, none⟩) 1 c) (hown : OF w base 30 1 v fs) (hcell : w.cell? ⟨b, 0, none⟩ = some u) (h1 : u.oneCell' = true) (hf : Rel2 (Fld.is w v.ownBlock) f [u])
    (hlen : fs.length + 1 ≤ 1000000) (hbase : base ≤ w.heap.size)
    (h : ∀ v' w', OF w' base 30 1 v' (fs ++ [f]) → w.grownBy w' v.ownBlock → (v'.ownBlock = v.ownBlock ∨ v'.ownBlock = some w.heap.size) → wpList Tryd.prog ops Q rest (a.put o.dst v') w') : wpList Tryd.prog ops Q (o :: rest) a w := by
  obtain ⟨i, hi, hz0, hz1, hz2⟩ := info_parts textsInfo
  exact wpList_append_fld Tryd.underlying48 hi hz0 hz1 hz2 rfl (by decide) (by decide) hgd s x ho base v fs f [u] b c hs' hx hown rfl (fun k x hx => by
    cases k with
    | zero => have : u = x := by simpa using hx
              rw [← this]; exact hcell
    | succ k => simp at hx) (fun x hx => by rw [List.mem_singleton.1 hx]; exact h1) hf hlen hbase h
/-- no text has too many lines -/
def fewB (ts : List ByteArray) : Bool := ts.all fun t => decide ((lB t).length ≤ 400)
def dvL (ts : List ByteArray) : List (List ByteArray) := if fewB ts = true then ts.map lB else []
def dvE (ts : List ByteArray) : Int := if fewB ts = true then 0 else 160
/-- a list of texts as a struct of one field -/
def lnF (xs : List ByteArray) : List Fld := [Fld.row (xs.map Value.string)]
/-- lists of texts and an error come back -/
def RetD (w : World) (ls : List (List ByteArray)) (n : Int) (e : Ending) (w' : World) : Prop :=
  ∃ A c, e = .returned (.tuple #[.slice A ls.length c, .int .i64 n]) ∧ RF w' A c 1 (ls.map lnF) ∧ Below w.heap.size w w'
theorem dv_good {ts : List ByteArray} (h : fewB ts = true) : dvL ts = ts.map lB ∧ dvE ts = 0 := by
  unfold dvL dvE
  rw [if_pos h, if_pos h]
  exact ⟨rfl, rfl⟩
theorem dv_bad {ts : List ByteArray} (h : fewB ts = false) : dvL ts = [] ∧ dvE ts = 160 := by
  unfold dvL dvE
  rw [h]
  exact ⟨rfl, rfl⟩
theorem RetD.of {w : World} {ls : List (List ByteArray)} {n : Int} {ls' : List (List ByteArray)} {n' : Int} {e : Ending} {w' : World} (h : RetD w ls n e w') (h1 : ls' = ls) (h2 : n' = n) : RetD w ls' n' e w' := by
  subst h1 h2
  exact h

set_option maxHeartbeats 1000000 in
theorem divide_any (A : Option Addr) (c : Nat) (ts : List ByteArray) (w : World) (h : RT w A c ts) (hn : ts.length ≤ 100000) (hz : ∀ t ∈ ts, t.size ≤ 100000) :
    Calls Tryd.prog 24 #[.slice A ts.length c] w (RetD w (dvL ts) (dvE ts)) := by
  have HR := Lib.hid h
  have HZ := Lib.hid hz
  have h1 := h.1
  have h2 := h.2.1
  clear h hz
  go_enter Tryd.func24, Tryd.ntmps24
  go_wp2_with fail
  go_loopw [4, 10] (fun v i wr => ∃ k : Nat, k ≤ ts.length ∧ i = .int .i64 k ∧ Hid (fewB (ts.take k) = true) ∧ Hid (OF wr w.heap.size 30 1 v (((ts.take k).map lB).map lnF)) ∧ Hid (Below w.heap.size w wr)) (fun _ i _ => ts.length - (intOf i).toNat)
  case atStart => exact ⟨0, Nat.zero_le _, rfl, Lib.hid rfl, Lib.hid (OF.nil _ _ _ _), Lib.hid (Below.refl _ _)⟩
  case round =>
    obtain ⟨k, hk, rfl, HF, HO, HB⟩ := hrel
    have hbs := HB.out.size
    by_cases hlt : k < ts.length
    · obtain ⟨x, hx⟩ : ∃ x, ts[k]? = some x := ⟨_, List.getElem?_eq_getElem hlt⟩
      obtain ⟨b1, o1, rfl, hb1, hc1⟩ := (HR.out.below HB.out).2.2 (by omega)
      have hcx := hc1 k x hx
      have HLN := Lib.hid (fun W => lines_any x W (HZ.out x (List.mem_of_getElem? hx)))
      have HT : Hid (ts.take (k + 1) = ts.take k ++ [x]) := Lib.hid (by rw [List.take_add_one, hx]; rfl)
      have HX := Lib.hid hx
      have HLL := Lib.hid (lB_len x)
      have HXZ := Lib.hid (HZ.out x (List.mem_of_getElem? hx))
      clear hc1 hx hb1
      by_cases hq : (lB x).length ≤ 400
      · have hqI : ((lB x).length : Int) ≤ 400 := by omega
        have HF2 : Hid (fewB (ts.take (k + 1)) = true) := Lib.hid (by
          rw [HT.out]
          unfold fewB at HF ⊢
          rw [List.all_append, HF.out]
          simp [hq])
        have HN : Hid (((ts.take (k + 1)).map lB).map lnF = ((ts.take k).map lB).map lnF ++ [lnF (lB x)]) := Lib.hid (by rw [HT.out, List.map_append, List.map_append]; rfl)
        have HTL : Hid ((((ts.take k).map lB).map lnF).length ≤ 100000) := Lib.hid (by rw [List.length_map, List.length_map, List.length_take]; omega)
        generalize ((ts.take k).map lB).map lnF = fs at HN HO HTL
        unfold RetO at HLN
        generalize lB x = L at *
        go_wp2_with (first
          | (go_at_call 12; refine (HLN.out _).mono ?_; rintro e w1 ⟨C, m, rfl, hot, hb⟩; have HOT := Lib.hid hot; have HB1 := Lib.hid hb; have hr1 := hot.rt.2.1; have hr2 := hot.rt.2.2.1; have hs1 := hb.size; clear hot hb)
          | (at_builtin; refine wpList_append_list rfl _ _ rfl w.heap.size _ fs (lnF L) (.slice C L.length m) w1.heap.size 1 rfl rfl ((HO.out.below HB1.out).below (below_alloc _ _)) (cells_new _ [_] _ rfl 0 _ rfl) rfl (Rel2.cons (Fld.txt (HOT.out.rt.2.below (below_alloc _ _)) (Off.new HO.out HOT.out.newA)) Rel2.nil) (by have := HTL.out; omega) (by simp; omega) ?_; intro v1 w3 hown hg _; have HB3 := Lib.hid (((go3 HB.out HB1.out).alloc (by omega) _).grown hg (by simp; omega) (fun k hk => (HO.out.own k hk).1)); have HOW := Lib.hid hown; clear hown hg))
        go_roundw
        case rel => exact ⟨k + 1, by omega, by go_num, HF2, Lib.hid (by rw [HN.out]; exact HOW.out), HB3⟩
        case measure => simp [intOf]; omega
      · have hqI : ¬ ((lB x).length : Int) ≤ 400 := by omega
        have HBAD : Hid (fewB ts = false) := Lib.hid (by
          unfold fewB
          rw [Bool.eq_false_iff]
          intro hh
          have := List.all_eq_true.1 hh x (List.mem_of_getElem? HX.out)
          exact hq (of_decide_eq_true this))
        unfold RetO at HLN
        clear HX HT
        generalize lB x = L at *
        go_wp2_with (go_at_call 12; refine (HLN.out _).mono ?_; rintro e w1 ⟨C, m, rfl, hot, hb⟩; have HB1 := Lib.hid hb; have hr1 := hot.rt.2.1; have hr2 := hot.rt.2.2.1; clear hot hb)
        go_ret2
        exact RetD.of ⟨none, 0, rfl, RF.nil _ _ _ _ (by omega), go3 HB.out HB1.out⟩ (dv_bad HBAD.out).1 (dv_bad HBAD.out).2
    · obtain rfl : k = ts.length := by omega
      have HF2 : Hid (fewB ts = true) := Lib.hid (by have := HF.out; rw [List.take_length] at this; exact this)
      obtain ⟨A', c', hv, hrf⟩ := HO.out.read
      rw [List.take_length] at hv hrf
      rw [List.length_map] at hv
      have HRF := Lib.hid hrf
      subst hv
      clear hrf HF HO
      generalize hls : ts.map lB = ls at *
      have HLS := Lib.hid hls
      clear hls
      go_wp2_with fail
      go_ret2
      exact RetD.of ⟨A', c', rfl, HRF.out, HB.out⟩ ((dv_good HF2.out).1.trans HLS.out) (dv_good HF2.out).2
end Go.Proofs.YtfhkmmicdbblnaaDoor

