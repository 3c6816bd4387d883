/-
  A line of the law's own text.
-/
import Derived.Test.YtfhkmmicdbblnaaM13
import Derived.Test.YtfhkmmicdbblnaaRp
import Derived.Laws.Concat
namespace Go.Proofs.Ytfhkmmicdbblnaa
set_option linter.unusedSimpArgs false
set_option linter.unusedVariables false
open Go.RowKit

def repT (i : Nat) : ByteArray := ⟨(Lib.repeatL (⟨#[120]⟩ : ByteArray).data.toList i).toArray⟩
def lineT (i : Nat) : ByteArray := (⟨#[60]⟩ : ByteArray) ++ repT i ++ (⟨#[62, 10]⟩ : ByteArray)
theorem rep_list : ∀ i : Nat, Lib.repeatL [(120 : UInt8)] i = List.replicate i 120
  | 0 => rfl
  | i + 1 => by
    have := rep_list i
    simp [Lib.repeatL, List.replicate_succ] at this ⊢
    try exact this
theorem rep_size (i : Nat) : (repT i).size = i ∧ nlC (repT i) = 0 := by
  unfold repT nlC
  rw [show (⟨#[120]⟩ : ByteArray).data.toList = [(120 : UInt8)] from rfl, rep_list]
  refine ⟨by simp [ByteArray.size], by simp [List.count_replicate]⟩
theorem line_size (i : Nat) : (lineT i).size = i + 3 ∧ nlC (lineT i) = 1 := by
  have h := rep_size i
  refine ⟨?_, ?_⟩
  · unfold lineT
    rw [ByteArray.size_append, ByteArray.size_append, h.1]
    show 1 + i + 2 = i + 3
    omega
  · unfold lineT
    rw [nlC_app, nlC_app, h.2]
    rfl

set_option maxHeartbeats 400000 in
theorem line_any (i : Nat) (w : World) (hi : i ≤ 1000) :
    Calls Try.prog 22 #[.int .i64 i] w fun e w' => e = .returned (.string (lineT i)) ∧ Below w.heap.size w w' := by
  have HR := Lib.hid (fun W => Try.strings_Repeat ⟨#[120]⟩ i W (by omega) (by show 1 * i ≤ _; omega))
  have h1 := rep_size i
  have hs : ((⟨#[60]⟩ : ByteArray) ++ repT i).size = 1 + i := by rw [ByteArray.size_append, h1.1]; rfl
  have HL : Hid (lineT i = (⟨#[60]⟩ : ByteArray) ++ repT i ++ (⟨#[62, 10]⟩ : ByteArray)) := Lib.hid rfl
  have HA1 := Lib.hid (fun W => run_string_add_sum (P := Try.prog) W ⟨#[60]⟩ (repT i) (by rw [h1.1]; show 1 + i ≤ _; omega))
  have HA2 := Lib.hid (fun W => run_string_add_sum (P := Try.prog) W ((⟨#[60]⟩ : ByteArray) ++ repT i) ⟨#[62, 10]⟩ (by rw [hs]; show 1 + i + 2 ≤ _; omega))
  replace HR : Hid (∀ W, Calls Try.prog 37 #[.string ⟨#[120]⟩, .int .i64 i] W fun e w' => e = .returned (.string (repT i)) ∧ Below W.heap.size W w') := Lib.hid HR.out
  clear h1 hs
  generalize repT i = R at *
  go_enter Try.func22, Try.ntmps22
  go_wp2_with (go_at_call 37; refine (HR.out _).mono ?_; rintro e w1 ⟨rfl, hb⟩; have HB := Lib.hid hb; have a1 := HA1.out; have a2 := HA2.out; clear hb)
  go_ret
  exact ⟨by rw [HL.out]; rfl, HB.out⟩
end Go.Proofs.Ytfhkmmicdbblnaa

