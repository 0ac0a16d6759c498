/- Tasks: what the laws' own helpers and SetValid compute. No condition. -/
import Derived.Test.YtappbijjpcaocaaHelpTask
import Derived.Test.YtappbijjpcaocaaPK16
namespace Go.Proofs.Ytappbijjpcaocaa.Print
open Go.RowKit Go.Proofs.YtappbijjpcaocaaW.PrintWords Go.Proofs.Ytappbijjpcaocaa.Evs Go.Proofs.Ytappbijjpcaocaa.Opens
set_option linter.unusedSimpArgs false
set_option linter.unusedVariables false
theorem spec_l1In_f (a b c : Int) : spec_l1In.f a b c = some (decide (b ≤ a ∧ a ≤ c)) := by
  unfold spec_l1In.f
  by_cases h : a ≥ b
  · have h' : b ≤ a := h
    simp [h, h']
  · have h' : ¬ b ≤ a := h
    simp [h, h']
theorem spec_TaskValid_f (x : Task) : spec_TaskValid.f x.f0 x.f1 x.f2 = some (okTask x) := by
  unfold spec_TaskValid.f okTask
  simp only [spec_l1In_f, Option.bind_some, decide_eq_true_eq]
  split
  · split
    · congr 1; rw [Bool.eq_iff_iff]; simp only [decide_eq_true_eq, Bool.false_eq_true, false_iff]; omega
    · congr 1; rw [Bool.eq_iff_iff]; simp only [decide_eq_true_eq, Bool.false_eq_true, false_iff]; omega
  · congr 1; rw [Bool.eq_iff_iff]; simp only [decide_eq_true_eq, Bool.false_eq_true, false_iff]; omega
/-- A valid set. -/
def okSet (l : List Task) : Bool := decide (l.length ≤ 5) && l.all okTask
theorem impl_SetValid_f (l : List Task) : impl_SetValid.f l = some (okSet l) := rfl
theorem impl_SetValid_ev (l : List Task) (_ : l.length ≤ 1048576) : Tl (fun _ => impl_SetValid.f l) (okSet l) := Tl.of_eq fun _ => impl_SetValid_f l
theorem spec_SetValid_ev (l : List Task) (hl : l.length ≤ 1048576) : Tl (fun k => spec_SetValid.f k l) (okSet l) := by
  have key := Tl.all (F := fun k i => spec_SetValid.l0 k l i) (n := l.length) (P := fun j => okTask (l.getD j z54)) (fin := decide (l.length ≤ 5)) ?_ ?_ ?_
  · rw [all_range] at key
    unfold okSet
    rw [Bool.and_comm]
    exact key
  · intro j hj hp r h
    refine Tl.step ?_
    have c3 := eq_true (show (j : Int) < (l.length : Int) by omega)
    have c4 := eq_true (show 0 ≤ (j : Int) by omega)
    have c5 : spec_TaskValid.f (rd_T54 l (j : Int)).f0 (rd_T54 l (j : Int)).f1 (rd_T54 l (j : Int)).f2 = some true := by rw [spec_TaskValid_f]; exact congrArg some hp
    simp only [spec_SetValid.l0, c3, c4, c5, if_true, Option.bind_some]
    rw [wrap_succ hj (by omega)]
    exact h
  · intro j hj hp
    refine Tl.step ?_
    have c3 := eq_true (show (j : Int) < (l.length : Int) by omega)
    have c4 := eq_true (show 0 ≤ (j : Int) by omega)
    have c5 : spec_TaskValid.f (rd_T54 l (j : Int)).f0 (rd_T54 l (j : Int)).f1 (rd_T54 l (j : Int)).f2 = some false := by rw [spec_TaskValid_f]; exact congrArg some hp
    simp only [spec_SetValid.l0, c3, c4, c5, if_true, Option.bind_some, Bool.false_eq_true, if_false]
    exact Tl.ret _
  · refine Tl.step ?_
    have c3 := eq_false (show ¬ ((l.length : Int) < (l.length : Int)) by omega)
    simp only [spec_SetValid.l0, c3, if_false]
    have : decide ((l.length : Int) ≤ 5) = decide (l.length ≤ 5) := by rw [decide_eq_decide]; omega
    rw [this]
    exact Tl.ret _
end Go.Proofs.Ytappbijjpcaocaa.Print
