/- Formatted lines: the program and the reference read the same task off them: all of the few, by computation. No condition. -/
import Derived.Test.YtkgloicnfphmoaaDoorPSpecParseTask
import Derived.Test.YtkgloicnfphmoaaDoorEv
import Derived.Test.YtkgloicnfphmoaaDoorDevParseTask
namespace Go.Proofs.YtkgloicnfphmoaaDoor.Print
open Go.RowKit Go.Proofs.YtkgloicnfphmoaaDoorW.PrintWords Go.Proofs.YtkgloicnfphmoaaDoor.Evs
set_option linter.unusedSimpArgs false
set_option linter.unusedVariables false
def okN (a b c : Nat) : Bool := decide (1 ≤ a ∧ a ≤ 8 ∧ a ≤ b ∧ b ≤ c ∧ c ≤ 12)
/-- The line of a task. -/
def fmtL (a b c : Nat) : List UInt8 := [116, 97, 115, 107] ++ 32 :: (Lib.decDigits a ++ 32 :: (Lib.decDigits b ++ 32 :: Lib.decDigits c))
/-- Both read a formatted line. -/
def bothB (a b c : Nat) : Bool :=
  decide (spec_ParseTask.f 40 ⟨(fmtL a b c).toArray⟩ = some ((a : Int), (b : Int), (c : Int), true)) && decide (impl_ParseTask.f ⟨(fmtL a b c).toArray⟩ = some ((a : Int), (b : Int), (c : Int), true))
def allB (a : Nat) : Bool := (List.range 13).all fun b => (List.range 13).all fun c => !(okN a b c) || bothB a b c
theorem all1 : allB 1 = true := by decide +kernel
theorem all2 : allB 2 = true := by decide +kernel
theorem all3 : allB 3 = true := by decide +kernel
theorem all4 : allB 4 = true := by decide +kernel
theorem all5 : allB 5 = true := by decide +kernel
theorem all6 : allB 6 = true := by decide +kernel
theorem all7 : allB 7 = true := by decide +kernel
theorem all8 : allB 8 = true := by decide +kernel
theorem both_at (a b c : Nat) (h : okN a b c = true) : spec_ParseTask.f 40 ⟨(fmtL a b c).toArray⟩ = some ((a : Int), (b : Int), (c : Int), true) ∧ impl_ParseTask.f ⟨(fmtL a b c).toArray⟩ = some ((a : Int), (b : Int), (c : Int), true) := by
  have hv := of_decide_eq_true h
  have hall : allB a = true := by
    have : a = 1 ∨ a = 2 ∨ a = 3 ∨ a = 4 ∨ a = 5 ∨ a = 6 ∨ a = 7 ∨ a = 8 := by omega
    rcases this with rfl | rfl | rfl | rfl | rfl | rfl | rfl | rfl
    · exact all1
    · exact all2
    · exact all3
    · exact all4
    · exact all5
    · exact all6
    · exact all7
    · exact all8
  have h1 := List.all_eq_true.1 hall b (List.mem_range.2 (by omega))
  have h2 := List.all_eq_true.1 h1 c (List.mem_range.2 (by omega))
  rw [h] at h2
  have h3 : bothB a b c = true := by simpa using h2
  unfold bothB at h3
  rw [Bool.and_eq_true] at h3
  exact ⟨of_decide_eq_true h3.1, of_decide_eq_true h3.2⟩
theorem of_data {s : ByteArray} {l : List UInt8} (h : s.data.toList = l) : s = ⟨l.toArray⟩ := by
  subst h
  rfl
end Go.Proofs.YtkgloicnfphmoaaDoor.Print
