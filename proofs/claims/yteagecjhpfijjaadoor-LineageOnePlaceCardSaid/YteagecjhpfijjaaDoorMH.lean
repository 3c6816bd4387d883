/-
  Several texts in one: Fr, Fg.
-/
import Derived.Test.YteagecjhpfijjaaDoorRows
import Derived.WalkKit
import Derived.ProofKit
import Derived.OpenShut
import Derived.ShutString
import Derived.ChangeOld
import Derived.Below
import Derived.Lay
import Derived.LaidMore
import Derived.SevenTiedAt
import Derived.SliceStrings
import Derived.Deep.DeepHandedRow
import Derived.Test.YteagecjhpfijjaaDoorV23
import Derived.Deep.Slices
import Derived.Deep.Strs
import Derived.Lib.SmallJoins
import Derived.SizedLaws

/-
  The base of the frames: closed facts of the program, the witness at a world that lays the listed variables.
-/
namespace Go.Proofs.YteagecjhpfijjaaDoor
set_option linter.unusedSimpArgs false
set_option linter.unusedVariables false
open Go.ChangeShapes Go.WideShapes Go.ChangeAt Go.RowKit

theorem own : ownKnob Tryd.prog.godebug = none := by kernel_rfl
theorem laidOut : laidOutB Tryd.prog = true := by kernel_rfl

theorem witness_row_shaped {H : Type} {enc : TypeId × Value → H} {C : Checked} {os : Os} {f : FuncId} {fn : Func} {s : OpenSpec} {conds : List PathCond} {apart : Bool} {laid : List (String × DataW Unit)} (modest : Bool) (w0 : World) (args : Array Value) (hos : w0.os = os)
    (hsh : (w0.forCall (fun _ _ => 0) ⟨#[], args, []⟩).Shaped C.prog)
    (hok : Input.okWideB C.prog (w0.forCall (fun _ _ => 0) ⟨#[], args, []⟩) f ⟨#[], args, []⟩ = true)
    (hrow : s.preRow enc C.prog fn conds apart laid (w0.forCall (fun _ _ => 0) ⟨#[], args, []⟩).memory args) :
    ∃ (w : World) (tape : Tape) (i : Input), w.os = os ∧ (w.forCall tape i).Shaped C.prog ∧ i.vars = [] ∧ Input.okWide C.prog (w.forCall tape i) .any w.heap.size f i ∧
      s.preRow enc C.prog fn conds apart laid (w.forCall tape i).memory i.args ∧ ({ modest := modest } : Assume).holds C.prog (lone (Frame.enter C.prog f i.args .normal) [] (w.forCall tape i)) :=
  ⟨w0, fun _ _ => 0, ⟨#[], args, []⟩, hos, hsh, (Input.okWide_of_okWideB (base := 0) hok).1, (Input.okWide_of_okWideB hok).2, hrow, by
    simp only [Assume.holds]
    exact ⟨by simp, by simp, fun _ => Modest.zero, by simp, by simp⟩⟩
end Go.Proofs.YteagecjhpfijjaaDoor

/-
  Parameters that are changes, or names of revisions, opened, with their reach.
-/
namespace Go.Proofs.YteagecjhpfijjaaDoor
set_option linter.unusedSimpArgs false
set_option linter.unusedVariables false
open Go.ChangeShapes Go.WideShapes Go.ChangeAt Go.RowKit

theorem list_of {α : Type} (n : Nat) (Q : Nat → α → Prop) (h : ∀ i, i < n → ∃ x, Q i x) : ∃ xs : List α, xs.length = n ∧ ∀ i x, xs[i]? = some x → Q i x := by
  induction n with
  | zero => exact ⟨[], rfl, fun i x hx => by simp at hx⟩
  | succ n ih =>
    obtain ⟨xs, hl, hx⟩ := ih (fun i hi => h i (by omega))
    obtain ⟨x, hq⟩ := h n (by omega)
    refine ⟨xs ++ [x], by simp [hl], fun i y hy => ?_⟩
    rcases Nat.lt_or_ge i xs.length with hi | hi
    · rw [List.getElem?_append_left hi] at hy
      exact hx i y hy
    · rw [List.getElem?_append_right hi] at hy
      have : i - xs.length = 0 := by
        have := (List.getElem?_eq_some_iff.1 hy).1
        simp at this
        omega
      rw [this] at hy
      obtain rfl : x = y := by simpa using hy
      have : i = n := by omega
      subst this
      exact hq
theorem weights_of_mem {H : Type} {P : Program} {e : TypeId} {ds : List (DataW H)} (h : (DataW.weightsAll P e ds).all (· ≤ reachBytes) = true) {d : DataW H} (hd : d ∈ ds) : (d.weights P e).all (· ≤ reachBytes) = true := by
  induction ds with
  | nil => cases hd
  | cons a ds ih =>
    simp only [DataW.weightsAll] at h
    rw [List.all_append, Bool.and_eq_true] at h
    rcases List.mem_cons.1 hd with rfl | hd
    · exact h.1
    · exact ih h.2 hd
/-- a list comes in, each element of which is an α -/
theorem open_slice_gen {α H : Type} {enc : TypeId × Value → H} {P : Program} {W : World} {base : Nat} {t e : TypeId} {u : Value} {fuel : Nat} {x : DataW H × List MemPlace} {size bytes : Nat} (rel : List Value → α → Prop) (Qw : α → Prop)
    (ht : P.underlying t = some (.slice e)) (ce : P.cellsOf e = size) (be : P.bytesOf e = bytes) (hsz : 0 < size)
    (hf : DataW.trod enc P W base (fun _ => true) true fuel t [u] = some x) (hlt : ∀ y ∈ x.2, y.block < W.heap.size)
    (one : ∀ (n : Nat) (cs : List Value) (y : DataW H × List MemPlace), DataW.trod enc P W base (fun _ => true) true n e cs = some y → cs.length = size → (∀ z ∈ y.2, z.block < W.heap.size) →
      ∃ a : α, rel cs a ∧ ((y.1.weights P e).all (· ≤ reachBytes) = true → Qw a)) :
    ∃ (ms : List α) (A : Option Addr) (c : Nat), u = .slice A ms.length c ∧ ms.length ≤ c ∧ c ≤ 9223372036854775807 ∧ NilC A c ∧
      (0 < ms.length → ∃ b o, A = some ⟨b, o, none⟩ ∧ b < W.heap.size ∧ ∀ (j : Nat) (a : α), ms[j]? = some a → ∃ cs, rel cs a ∧ ∀ (i : Nat) (v : Value), cs[i]? = some v → W.cell? ⟨b, o + j * size + i, none⟩ = some v) ∧
      ((x.1.weights P t).all (· ≤ reachBytes) = true → ms.length * bytes ≤ reachBytes ∧ ∀ a ∈ ms, Qw a) := by
  rcases Go.Deep.open_slice ht hf with ⟨hcs, _⟩ | ⟨a, l, c, m, n, D, Pl, hcs, hba, hl, hm, hmm, hx, hi⟩
  · obtain rfl : u = .slice none 0 0 := by simpa using hcs
    exact ⟨[], none, 0, rfl, Nat.le_refl _, by omega, fun _ => rfl, fun h => absurd h (Nat.lt_irrefl 0), fun _ => ⟨by simp, fun a ha => by cases ha⟩⟩
  · obtain rfl : u = .slice (some a) l c := by simpa using hcs
    have hlm : l ≤ m := by rw [hmm]; simp; omega
    obtain ⟨b, off, spot⟩ := a
    rw [ce] at hi
    have one' : ∀ i, i < l → ∃ q : α, spot = none ∧ MemPlace.cell b (off + i * size) ∈ x.2 ∧ (∃ cs, rel cs q ∧ ∀ (j : Nat) (v : Value), cs[j]? = some v → W.cell? ⟨b, off + i * size + j, none⟩ = some v) ∧ (((D i).weights P e).all (· ≤ reachBytes) = true → Qw q) := by
      intro i hil
      have hspot : spot = none := by
        obtain ⟨cs', hc, _⟩ := hi 0 (by omega)
        obtain ⟨_, hcl, hat⟩ := World.cells?_some hc
        simpa [Addr.add] using World.cell?_spot ((hat 0 (by omega)).trans (List.getElem?_eq_getElem (by omega)))
      subst hspot
      obtain ⟨cs', hc, ht'⟩ := hi i (by omega)
      obtain ⟨_, hcl, hat⟩ := World.cells?_some hc
      have hin : ∀ y ∈ Pl i, y ∈ x.2 := fun y hy => by
        rw [hx]
        exact List.mem_append_right _ (List.mem_flatMap.2 ⟨i, List.mem_range.2 (by omega), hy⟩)
      obtain ⟨q, hq, hQ⟩ := one _ cs' (D i, Pl i) ht' (by rw [hcl]) (fun z hz => hlt z (hin z hz))
      refine ⟨q, rfl, ?_, ⟨cs', hq, fun j v hj => ?_⟩, hQ⟩
      · rw [hx, ce]
        refine List.mem_append_left _ (MemPlace.mem_row.2 ⟨i * size, ?_, by simp [Addr.add]⟩)
        exact Nat.mul_lt_mul_of_pos_right (by omega) hsz
      · have hjl : j < cs'.length := (List.getElem?_eq_some_iff.1 hj).1
        have k0 := hat j (by omega)
        rw [add_plain, add_plain] at k0
        exact k0.trans hj
    obtain ⟨ms, hal, has⟩ := list_of l _ one'
    refine ⟨ms, some ⟨b, off, spot⟩, c, by rw [hal], by omega, by simpa [maxLen] using hm, (fun h => by cases h), fun hn => ?_, fun hwt => ?_⟩
    · obtain ⟨q, hq⟩ : ∃ q, ms[0]? = some q := ⟨_, List.getElem?_eq_getElem hn⟩
      obtain ⟨rfl, hin, _⟩ := has 0 q hq
      exact ⟨b, off, rfl, hlt _ hin, fun j a hj => (has j a hj).2.2.1⟩
    · rw [hx] at hwt
      simp only [DataW.weights, ht, be] at hwt
      rw [List.all_cons, Bool.and_eq_true, decide_eq_true_eq, List.all_append, Bool.and_eq_true] at hwt
      refine ⟨?_, fun q hq => ?_⟩
      · have := hwt.1
        simp only [List.length_map, List.length_range] at this
        rw [hal]
        exact Nat.le_trans (Nat.mul_le_mul_right _ (Nat.le_add_right _ _)) this
      · obtain ⟨i, hq⟩ := List.getElem?_of_mem hq
        have hil := (List.getElem?_eq_some_iff.1 hq).1
        exact (has i q hq).2.2.2 (weights_of_mem (ds := (List.range l).map D) hwt.2.1 (List.mem_map.2 ⟨i, List.mem_range.2 (by omega), rfl⟩))
theorem fcInt : Tryd.prog.cellsOf 3 = 1 := by kernel_rfl
theorem fcStr : Tryd.prog.cellsOf 9 = 1 := by kernel_rfl
theorem fcBool : Tryd.prog.cellsOf 4 = 1 := by kernel_rfl
theorem fcU : Tryd.prog.cellsOf 36 = 1 := by kernel_rfl
theorem fcTy : Tryd.prog.cellsOf 35 = 4 := by kernel_rfl
theorem fcCid : Tryd.prog.cellsOf 38 = 2 := by kernel_rfl
theorem fcEs : Tryd.prog.cellsOf 50 = 1 := by kernel_rfl
theorem fcRs : Tryd.prog.cellsOf 26 = 1 := by kernel_rfl
section
variable {H : Type} {enc : TypeId × Value → H} {W : World} {base : Nat}
set_option maxRecDepth 100000 in
theorem open_rec {m : Nat} {cs : List Value} {y : DataW H × List MemPlace} (h : DataW.trod enc Tryd.prog W base (fun _ => true) true m 71 cs = some y) (hl : cs.length = 6) :
    ∃ a : Rc, cs = recV a ∧ ((y.1.weights Tryd.prog 71).all (· ≤ reachBytes) = true → a.frm.size ≤ 140737488355328 ∧ a.dst.size ≤ 140737488355328) := by
  obtain ⟨xs, n, _, hx, _, hlen, hf⟩ := DataW.trod_struct Tryd.underlying71 h
  have hlen : xs.length = 6 := hlen
  match xs, hlen, cs, hl with
  | [y0, y1, y2, y3, y4, y5], _, [u0, u1, u2, u3, u4, u5], _ =>
    have g0 := hf 0 _ rfl
    change DataW.trod enc Tryd.prog W base (fun _ => true) true n 9 (List.take (Tryd.prog.cellsOf 9) _) = _ at g0
    rw [fcStr] at g0
    have g0 : DataW.trod enc Tryd.prog W base (fun _ => true) true n 9 [u0] = some y0 := g0
    obtain ⟨p, hs0, hy0, _⟩ := DataW.trod_string Tryd.underlying9 g0
    obtain rfl : u0 = .string p := by simpa using hs0
    have g1 := hf 1 _ rfl
    change DataW.trod enc Tryd.prog W base (fun _ => true) true n 3 (List.take (Tryd.prog.cellsOf 3) _) = _ at g1
    rw [fcInt] at g1
    have g1 : DataW.trod enc Tryd.prog W base (fun _ => true) true n 3 [u1] = some y1 := g1
    obtain ⟨a, hs1, hy1, _⟩ := DataW.trod_int Tryd.underlying3 g1
    obtain rfl : u1 = .int .i64 a := by simpa using hs1
    have g2 := hf 2 _ rfl
    change DataW.trod enc Tryd.prog W base (fun _ => true) true n 3 (List.take (Tryd.prog.cellsOf 3) _) = _ at g2
    rw [fcInt] at g2
    have g2 : DataW.trod enc Tryd.prog W base (fun _ => true) true n 3 [u2] = some y2 := g2
    obtain ⟨b, hs2, hy2, _⟩ := DataW.trod_int Tryd.underlying3 g2
    obtain rfl : u2 = .int .i64 b := by simpa using hs2
    have g3 := hf 3 _ rfl
    change DataW.trod enc Tryd.prog W base (fun _ => true) true n 9 (List.take (Tryd.prog.cellsOf 9) _) = _ at g3
    rw [fcStr] at g3
    have g3 : DataW.trod enc Tryd.prog W base (fun _ => true) true n 9 [u3] = some y3 := g3
    obtain ⟨q, hs3, hy3, _⟩ := DataW.trod_string Tryd.underlying9 g3
    obtain rfl : u3 = .string q := by simpa using hs3
    have g4 := hf 4 _ rfl
    change DataW.trod enc Tryd.prog W base (fun _ => true) true n 3 (List.take (Tryd.prog.cellsOf 3) _) = _ at g4
    rw [fcInt] at g4
    have g4 : DataW.trod enc Tryd.prog W base (fun _ => true) true n 3 [u4] = some y4 := g4
    obtain ⟨c, hs4, hy4, _⟩ := DataW.trod_int Tryd.underlying3 g4
    obtain rfl : u4 = .int .i64 c := by simpa using hs4
    have g5 := hf 5 _ rfl
    change DataW.trod enc Tryd.prog W base (fun _ => true) true n 3 (List.take (Tryd.prog.cellsOf 3) _) = _ at g5
    rw [fcInt] at g5
    have g5 : DataW.trod enc Tryd.prog W base (fun _ => true) true n 3 [u5] = some y5 := g5
    obtain ⟨d, hs5, hy5, _⟩ := DataW.trod_int Tryd.underlying3 g5
    obtain rfl : u5 = .int .i64 d := by simpa using hs5
    refine ⟨⟨p, a, b, q, c, d⟩, rfl, fun hwt => ?_⟩
    rw [hx, hy0, hy3] at hwt
    simp only [DataW.weights, Tryd.underlying71, List.map_cons, DataW.weightsEach, List.all_append, List.all_cons, Bool.and_eq_true, decide_eq_true_eq] at hwt
    have e1 := hwt.1.1
    have e2 := hwt.2.2.2.1.1
    rw [Array.length_toList] at e1 e2
    exact ⟨Nat.le_trans e1 (by decide), Nat.le_trans e2 (by decide)⟩
set_option maxRecDepth 100000 in
theorem open_ty {m : Nat} {cs : List Value} {y : DataW H × List MemPlace} (h : DataW.trod enc Tryd.prog W base (fun _ => true) true m 35 cs = some y) (hl : cs.length = 4) :
    ∃ a : Int × Bool × Bool × Bool, cs = [.int .i64 a.1, .bool a.2.1, .bool a.2.2.1, .bool a.2.2.2] := by
  obtain ⟨xs, n, _, hx, _, hlen, hf⟩ := DataW.trod_struct Tryd.underlying35 h
  have hlen : xs.length = 4 := hlen
  match xs, hlen, cs, hl with
  | [y0, y1, y2, y3], _, [u0, u1, u2, u3], _ =>
    have g0 := hf 0 _ rfl
    change DataW.trod enc Tryd.prog W base (fun _ => true) true n 3 (List.take (Tryd.prog.cellsOf 3) _) = _ at g0
    rw [fcInt] at g0
    have g0 : DataW.trod enc Tryd.prog W base (fun _ => true) true n 3 [u0] = some y0 := g0
    obtain ⟨a, hs0, hy0, _⟩ := DataW.trod_int Tryd.underlying3 g0
    obtain rfl : u0 = .int .i64 a := by simpa using hs0
    have g1 := hf 1 _ rfl
    change DataW.trod enc Tryd.prog W base (fun _ => true) true n 4 (List.take (Tryd.prog.cellsOf 4) _) = _ at g1
    rw [fcBool] at g1
    have g1 : DataW.trod enc Tryd.prog W base (fun _ => true) true n 4 [u1] = some y1 := g1
    obtain ⟨b, hs1, hy1⟩ := DataW.trod_bool Tryd.underlying4 g1
    obtain rfl : u1 = .bool b := by simpa using hs1
    have g2 := hf 2 _ rfl
    change DataW.trod enc Tryd.prog W base (fun _ => true) true n 4 (List.take (Tryd.prog.cellsOf 4) _) = _ at g2
    rw [fcBool] at g2
    have g2 : DataW.trod enc Tryd.prog W base (fun _ => true) true n 4 [u2] = some y2 := g2
    obtain ⟨c, hs2, hy2⟩ := DataW.trod_bool Tryd.underlying4 g2
    obtain rfl : u2 = .bool c := by simpa using hs2
    have g3 := hf 3 _ rfl
    change DataW.trod enc Tryd.prog W base (fun _ => true) true n 4 (List.take (Tryd.prog.cellsOf 4) _) = _ at g3
    rw [fcBool] at g3
    have g3 : DataW.trod enc Tryd.prog W base (fun _ => true) true n 4 [u3] = some y3 := g3
    obtain ⟨d, hs3, hy3⟩ := DataW.trod_bool Tryd.underlying4 g3
    obtain rfl : u3 = .bool d := by simpa using hs3
    exact ⟨(a, b, c, d), rfl⟩
set_option maxRecDepth 100000 in
theorem open_cid {m : Nat} {cs : List Value} {y : DataW H × List MemPlace} (h : DataW.trod enc Tryd.prog W base (fun _ => true) true m 38 cs = some y) (hl : cs.length = 2) :
    ∃ a : Int × Int, cs = [.int .u64 a.1, .int .i64 a.2] := by
  obtain ⟨xs, n, _, hx, _, hlen, hf⟩ := DataW.trod_struct Tryd.underlying38 h
  have hlen : xs.length = 2 := hlen
  match xs, hlen, cs, hl with
  | [y0, y1], _, [u0, u1], _ =>
    have g0 := hf 0 _ rfl
    change DataW.trod enc Tryd.prog W base (fun _ => true) true n 36 (List.take (Tryd.prog.cellsOf 36) _) = _ at g0
    rw [fcU] at g0
    have g0 : DataW.trod enc Tryd.prog W base (fun _ => true) true n 36 [u0] = some y0 := g0
    obtain ⟨a, hs0, hy0, _⟩ := DataW.trod_int Tryd.underlying36 g0
    obtain rfl : u0 = .int .u64 a := by simpa using hs0
    have g1 := hf 1 _ rfl
    change DataW.trod enc Tryd.prog W base (fun _ => true) true n 3 (List.take (Tryd.prog.cellsOf 3) _) = _ at g1
    rw [fcInt] at g1
    have g1 : DataW.trod enc Tryd.prog W base (fun _ => true) true n 3 [u1] = some y1 := g1
    obtain ⟨b, hs1, hy1, _⟩ := DataW.trod_int Tryd.underlying3 g1
    obtain rfl : u1 = .int .i64 b := by simpa using hs1
    exact ⟨(a, b), rfl⟩
set_option maxRecDepth 100000 in
theorem open_ed {m : Nat} {cs : List Value} {y : DataW H × List MemPlace} (h : DataW.trod enc Tryd.prog W base (fun _ => true) true m 63 cs = some y) (hl : cs.length = 12) :
    ∃ a : Ed, cs = edV a ∧ ((y.1.weights Tryd.prog 63).all (· ≤ reachBytes) = true → a.path.size ≤ 140737488355328 ∧ a.frm.size ≤ 140737488355328) := by
  obtain ⟨xs, n, _, hx, _, hlen, hf⟩ := DataW.trod_struct Tryd.underlying63 h
  have hlen : xs.length = 8 := hlen
  match xs, hlen, cs, hl with
  | [y0, y1, y2, y3, y4, y5, y6, y7], _, [u0, u1, u2, u3, u4, u5, u6, u7, u8, u9, u10, u11], _ =>
    have g0 := hf 0 _ rfl
    change DataW.trod enc Tryd.prog W base (fun _ => true) true n 9 (List.take (Tryd.prog.cellsOf 9) _) = _ at g0
    rw [fcStr] at g0
    have g0 : DataW.trod enc Tryd.prog W base (fun _ => true) true n 9 [u0] = some y0 := g0
    obtain ⟨p, hs0, hy0, _⟩ := DataW.trod_string Tryd.underlying9 g0
    obtain rfl : u0 = .string p := by simpa using hs0
    have g1 := hf 1 _ rfl
    change DataW.trod enc Tryd.prog W base (fun _ => true) true n 3 (List.take (Tryd.prog.cellsOf 3) _) = _ at g1
    rw [fcInt] at g1
    have g1 : DataW.trod enc Tryd.prog W base (fun _ => true) true n 3 [u1] = some y1 := g1
    obtain ⟨a, hs1, hy1, _⟩ := DataW.trod_int Tryd.underlying3 g1
    obtain rfl : u1 = .int .i64 a := by simpa using hs1
    have g2 := hf 2 _ rfl
    change DataW.trod enc Tryd.prog W base (fun _ => true) true n 35 (List.take (Tryd.prog.cellsOf 35) _) = _ at g2
    rw [fcTy] at g2
    have g2 : DataW.trod enc Tryd.prog W base (fun _ => true) true n 35 [u2, u3, u4, u5] = some y2 := g2
    obtain ⟨ty, ht2⟩ := open_ty g2 rfl
    obtain ⟨rfl, rfl, rfl, rfl⟩ : u2 = .int .i64 ty.1 ∧ u3 = .bool ty.2.1 ∧ u4 = .bool ty.2.2.1 ∧ u5 = .bool ty.2.2.2 := by simpa using ht2
    have g3 := hf 3 _ rfl
    change DataW.trod enc Tryd.prog W base (fun _ => true) true n 38 (List.take (Tryd.prog.cellsOf 38) _) = _ at g3
    rw [fcCid] at g3
    have g3 : DataW.trod enc Tryd.prog W base (fun _ => true) true n 38 [u6, u7] = some y3 := g3
    obtain ⟨ci, ht3⟩ := open_cid g3 rfl
    obtain ⟨rfl, rfl⟩ : u6 = .int .u64 ci.1 ∧ u7 = .int .i64 ci.2 := by simpa using ht3
    have g4 := hf 4 _ rfl
    change DataW.trod enc Tryd.prog W base (fun _ => true) true n 3 (List.take (Tryd.prog.cellsOf 3) _) = _ at g4
    rw [fcInt] at g4
    have g4 : DataW.trod enc Tryd.prog W base (fun _ => true) true n 3 [u8] = some y4 := g4
    obtain ⟨b, hs4, hy4, _⟩ := DataW.trod_int Tryd.underlying3 g4
    obtain rfl : u8 = .int .i64 b := by simpa using hs4
    have g5 := hf 5 _ rfl
    change DataW.trod enc Tryd.prog W base (fun _ => true) true n 9 (List.take (Tryd.prog.cellsOf 9) _) = _ at g5
    rw [fcStr] at g5
    have g5 : DataW.trod enc Tryd.prog W base (fun _ => true) true n 9 [u9] = some y5 := g5
    obtain ⟨q, hs5, hy5, _⟩ := DataW.trod_string Tryd.underlying9 g5
    obtain rfl : u9 = .string q := by simpa using hs5
    have g6 := hf 6 _ rfl
    change DataW.trod enc Tryd.prog W base (fun _ => true) true n 3 (List.take (Tryd.prog.cellsOf 3) _) = _ at g6
    rw [fcInt] at g6
    have g6 : DataW.trod enc Tryd.prog W base (fun _ => true) true n 3 [u10] = some y6 := g6
    obtain ⟨c, hs6, hy6, _⟩ := DataW.trod_int Tryd.underlying3 g6
    obtain rfl : u10 = .int .i64 c := by simpa using hs6
    have g7 := hf 7 _ rfl
    change DataW.trod enc Tryd.prog W base (fun _ => true) true n 3 (List.take (Tryd.prog.cellsOf 3) _) = _ at g7
    rw [fcInt] at g7
    have g7 : DataW.trod enc Tryd.prog W base (fun _ => true) true n 3 [u11] = some y7 := g7
    obtain ⟨d, hs7, hy7, _⟩ := DataW.trod_int Tryd.underlying3 g7
    obtain rfl : u11 = .int .i64 d := by simpa using hs7
    refine ⟨⟨p, a, ty, ci, b, q, c, d⟩, rfl, fun hwt => ?_⟩
    rw [hx, hy0, hy5] at hwt
    simp only [DataW.weights, Tryd.underlying63, List.map_cons, DataW.weightsEach, List.all_append, List.all_cons, Bool.and_eq_true, decide_eq_true_eq] at hwt
    have e1 := hwt.1.1
    have e2 := hwt.2.2.2.2.2.1.1
    rw [Array.length_toList] at e1 e2
    exact ⟨Nat.le_trans e1 (by decide), Nat.le_trans e2 (by decide)⟩
/-- what the cells of a change are -/
def relG (W : World) (cs : List Value) (x : Cg) : Prop := ∃ C ce D dr, cs = [.int .i64 x.n, .string x.s, .string x.t, .slice C x.es.length ce, .slice D x.rcs.length dr] ∧ EV W C ce x.es ∧ NilC C ce ∧ RC W D dr x.rcs ∧ NilC D dr
/-- what the reach says of a change -/
def reachG (c : Cg) : Prop := (c.es.length ≤ 3000000000000 ∧ c.rcs.length ≤ 3000000000000) ∧ (∀ x ∈ c.es, x.path.size ≤ 140737488355328 ∧ x.frm.size ≤ 140737488355328) ∧ ∀ x ∈ c.rcs, x.frm.size ≤ 140737488355328 ∧ x.dst.size ≤ 140737488355328
theorem rows_of {α : Type} {W : World} {A : Option Addr} {c size : Nat} {ms : List α} (f : α → List Value) (h1 : ms.length ≤ c) (h2 : c ≤ 9223372036854775807) (h3 : 0 < ms.length → ∃ b o, A = some ⟨b, o, none⟩ ∧ b < W.heap.size ∧ ∀ (j : Nat) (a : α), ms[j]? = some a → ∃ cs, cs = f a ∧ ∀ (i : Nat) (v : Value), cs[i]? = some v → W.cell? ⟨b, o + j * size + i, none⟩ = some v) :
    RR W A c size (ms.map f) := by
  refine ⟨by rw [List.length_map]; exact h1, h2, fun h0 => ?_⟩
  rw [List.length_map] at h0
  obtain ⟨b, o, e, hb, hc⟩ := h3 h0
  refine ⟨b, o, e, hb, fun j r hj i u hu => ?_⟩
  rw [List.getElem?_map] at hj
  obtain ⟨a, ha, rfl⟩ := Option.map_eq_some_iff.1 hj
  obtain ⟨cs, rfl, hcc⟩ := hc j a ha
  exact hcc i u hu
set_option maxRecDepth 100000 in
theorem open_change {m : Nat} {cs : List Value} {y : DataW H × List MemPlace} (h : DataW.trod enc Tryd.prog W base (fun _ => true) true m 52 cs = some y) (hl : cs.length = 5) (hlt : ∀ z ∈ y.2, z.block < W.heap.size) :
    ∃ a : Cg, relG W cs a ∧ ((y.1.weights Tryd.prog 52).all (· ≤ reachBytes) = true → reachG a) := by
  obtain ⟨xs, n, _, hx, _, hlen, hf⟩ := DataW.trod_struct Tryd.underlying52 h
  have hlen : xs.length = 5 := hlen
  match xs, hlen, cs, hl with
  | [y0, y1, y2, y3, y4], _, [u0, u1, u2, u3, u4], _ =>
    have g0 := hf 0 _ rfl
    change DataW.trod enc Tryd.prog W base (fun _ => true) true n 3 (List.take (Tryd.prog.cellsOf 3) _) = _ at g0
    rw [fcInt] at g0
    have g0 : DataW.trod enc Tryd.prog W base (fun _ => true) true n 3 [u0] = some y0 := g0
    obtain ⟨a, hs0, hy0, _⟩ := DataW.trod_int Tryd.underlying3 g0
    obtain rfl : u0 = .int .i64 a := by simpa using hs0
    have g1 := hf 1 _ rfl
    change DataW.trod enc Tryd.prog W base (fun _ => true) true n 9 (List.take (Tryd.prog.cellsOf 9) _) = _ at g1
    rw [fcStr] at g1
    have g1 : DataW.trod enc Tryd.prog W base (fun _ => true) true n 9 [u1] = some y1 := g1
    obtain ⟨p, hs1, hy1, _⟩ := DataW.trod_string Tryd.underlying9 g1
    obtain rfl : u1 = .string p := by simpa using hs1
    have g2 := hf 2 _ rfl
    change DataW.trod enc Tryd.prog W base (fun _ => true) true n 9 (List.take (Tryd.prog.cellsOf 9) _) = _ at g2
    rw [fcStr] at g2
    have g2 : DataW.trod enc Tryd.prog W base (fun _ => true) true n 9 [u2] = some y2 := g2
    obtain ⟨q, hs2, hy2, _⟩ := DataW.trod_string Tryd.underlying9 g2
    obtain rfl : u2 = .string q := by simpa using hs2
    have g3 := hf 3 _ rfl
    change DataW.trod enc Tryd.prog W base (fun _ => true) true n 50 (List.take (Tryd.prog.cellsOf 50) _) = _ at g3
    rw [fcEs] at g3
    have g3 : DataW.trod enc Tryd.prog W base (fun _ => true) true n 50 [u3] = some y3 := g3
    have g4 := hf 4 _ rfl
    change DataW.trod enc Tryd.prog W base (fun _ => true) true n 26 (List.take (Tryd.prog.cellsOf 26) _) = _ at g4
    rw [fcRs] at g4
    have g4 : DataW.trod enc Tryd.prog W base (fun _ => true) true n 26 [u4] = some y4 := g4
    obtain ⟨es, C, ce, rfl, e1, e2, e3, e4, e5⟩ := open_slice_gen (size := 12) (bytes := 96) (fun cs x => cs = edV x) (fun x => x.path.size ≤ 140737488355328 ∧ x.frm.size ≤ 140737488355328) Tryd.underlying50 (by kernel_rfl) (by kernel_rfl) (by decide) g3
      (fun z hz => hlt z (by rw [hx]; exact List.mem_flatMap.2 ⟨y3, by simp, hz⟩)) (fun k cs y hy hl _ => open_ed hy hl)
    obtain ⟨rs, D, dr, rfl, r1, r2, r3, r4, r5⟩ := open_slice_gen (size := 6) (bytes := 64) (fun cs x => cs = recV x) (fun x => x.frm.size ≤ 140737488355328 ∧ x.dst.size ≤ 140737488355328) Tryd.underlying26 (by kernel_rfl) (by kernel_rfl) (by decide) g4
      (fun z hz => hlt z (by rw [hx]; exact List.mem_flatMap.2 ⟨y4, by simp, hz⟩)) (fun k cs y hy hl _ => open_rec hy hl)
    refine ⟨⟨a, p, q, es, rs⟩, ⟨C, ce, D, dr, rfl, rows_of edV e1 e2 e4, e3, rows_of recV r1 r2 r4, r3⟩, fun hwt => ?_⟩
    rw [hx] at hwt
    simp only [DataW.weights, Tryd.underlying52, List.map_cons, DataW.weightsEach, List.all_append, Bool.and_eq_true] at hwt
    obtain ⟨k1, k2⟩ := e5 hwt.2.2.2.1
    obtain ⟨k3, k4⟩ := r5 hwt.2.2.2.2.1
    simp only [reachBytes] at k1 k3
    refine ⟨⟨?_, ?_⟩, k2, k4⟩
    · show es.length ≤ _
      omega
    · show rs.length ≤ _
      omega
set_option maxRecDepth 100000 in
theorem open_changes {v : Value} {d : DataW H} {p : List MemPlace} {r : Reach} {b0 : Nat} (hv : Value.okWide Tryd.prog W r b0 22 v)
    (h : DataW.Trod enc Tryd.prog W base (fun _ => true) true 22 v d p) (hlt : ∀ x ∈ p, x.block < W.heap.size) :
    ∃ ls : List Cg, ∃ A c, v = .slice A ls.length c ∧ CV W A c ls ∧ NilC A c ∧ ((d.weights Tryd.prog 22).all (· ≤ reachBytes) = true → CgR ls ∧ ls.length ≤ 1599289640354) := by
  obtain ⟨a0, len, cap, rfl⟩ := okWide_slice Tryd.underlying22 hv
  obtain ⟨fuel, hf⟩ := h
  obtain ⟨ls, A, c, hu, e1, e2, e3, e4, e5⟩ := open_slice_gen (u := .slice a0 len cap) (size := 5) (bytes := 88) (relG W) reachG Tryd.underlying22 (by kernel_rfl) (by kernel_rfl) (by decide) hf hlt (fun k cs y hy hl hz => open_change hy hl hz)
  refine ⟨ls, A, c, hu, ⟨e1, e2, fun h0 => ?_⟩, e3, fun hwt => ?_⟩
  · obtain ⟨b, o, e, hb, hc⟩ := e4 h0
    refine ⟨b, o, e, hb, fun j x hj => ?_⟩
    obtain ⟨cs, ⟨C, ce, D, dr, rfl, h1, h2, h3, h4⟩, hcc⟩ := hc j x hj
    exact ⟨C, ce, D, dr, hcc 0 _ rfl, hcc 1 _ rfl, hcc 2 _ rfl, hcc 3 _ rfl, hcc 4 _ rfl, h1, h2, h3, h4⟩
  · obtain ⟨k1, k2⟩ := e5 hwt
    simp only [reachBytes] at k1
    exact ⟨k2, by omega⟩
set_option maxRecDepth 100000 in
theorem open_one {v : Value} {d : DataW H} {p : List MemPlace} {r : Reach} {b0 : Nat} (hv : Value.okWide Tryd.prog W r b0 52 v)
    (h : DataW.Trod enc Tryd.prog W base (fun _ => true) true 52 v d p) (hlt : ∀ x ∈ p, x.block < W.heap.size) :
    ∃ (x : Cg) (C : Option Addr) (ce : Nat) (D : Option Addr) (dr : Nat), v = .agg #[.int .i64 x.n, .string x.s, .string x.t, .slice C x.es.length ce, .slice D x.rcs.length dr] ∧ EV W C ce x.es ∧ NilC C ce ∧ RC W D dr x.rcs ∧ NilC D dr ∧ ((d.weights Tryd.prog 52).all (· ≤ reachBytes) = true → CgR [x]) := by
  obtain ⟨cs, rfl, hcs⟩ := okWide_struct Tryd.underlying52 hv
  have hc5 : Tryd.prog.cellsOf 52 = 5 := by kernel_rfl
  rw [hc5] at hcs
  obtain ⟨fuel, hf⟩ := h
  obtain ⟨l⟩ := cs
  obtain ⟨x, ⟨C, ce, D, dr, hl, h1, h2, h3, h4⟩, hw⟩ := open_change (cs := l) hf hcs hlt
  subst hl
  refine ⟨x, C, ce, D, dr, rfl, h1, h2, h3, h4, fun hwt => ?_⟩
  intro c hc
  obtain rfl : c = x := by simpa using hc
  exact hw hwt
set_option maxRecDepth 100000 in
theorem open_file {v : Value} {d : DataW H} {p : List MemPlace} {r : Reach} {b0 : Nat} (hv : Value.okWide Tryd.prog W r b0 31 v)
    (h : DataW.Trod enc Tryd.prog W base (fun _ => true) true 31 v d p) :
    ∃ (s : ByteArray) (k : Int), v = .agg #[.string s, .int .i64 k] ∧ s.size ≤ maxLen ∧ (Lit.int .i64 k).wf = true := by
  obtain ⟨cs, rfl, hcs⟩ := okWide_struct Tryd.underlying31 hv
  have hc2 : Tryd.prog.cellsOf 31 = 2 := by kernel_rfl
  rw [hc2] at hcs
  obtain ⟨fuel, hf⟩ := h
  obtain ⟨l⟩ := cs
  obtain ⟨xs, n, _, hx, _, hlen, hf⟩ := DataW.trod_struct Tryd.underlying31 hf
  have hlen : xs.length = 2 := hlen
  match xs, hlen, l, hcs with
  | [y0, y1], _, [u0, u1], _ =>
    have g0 := hf 0 _ rfl
    change DataW.trod enc Tryd.prog W base (fun _ => true) true n 9 (List.take (Tryd.prog.cellsOf 9) _) = _ at g0
    rw [fcStr] at g0
    have g0 : DataW.trod enc Tryd.prog W base (fun _ => true) true n 9 [u0] = some y0 := g0
    obtain ⟨s, hs0, _, hz⟩ := DataW.trod_string Tryd.underlying9 g0
    obtain rfl : u0 = .string s := by simpa using hs0
    have g1 := hf 1 _ rfl
    change DataW.trod enc Tryd.prog W base (fun _ => true) true n 3 (List.take (Tryd.prog.cellsOf 3) _) = _ at g1
    rw [fcInt] at g1
    have g1 : DataW.trod enc Tryd.prog W base (fun _ => true) true n 3 [u1] = some y1 := g1
    obtain ⟨k, hs1, _, hk⟩ := DataW.trod_int Tryd.underlying3 g1
    obtain rfl : u1 = .int .i64 k := by simpa using hs1
    exact ⟨s, k, rfl, hz, hk⟩
end
end Go.Proofs.YteagecjhpfijjaaDoor
