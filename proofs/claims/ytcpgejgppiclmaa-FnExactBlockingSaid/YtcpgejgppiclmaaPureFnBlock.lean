/- Blocking, as the program and as the reference compute it. No condition. -/
import Derived.Test.YtcpgejgppiclmaaPureBlock
import Derived.Test.YtcpgejgppiclmaaPK4
namespace Go.Proofs.Ytcpgejgppiclmaa.Print
open Go.RowKit Go.Proofs.YtcpgejgppiclmaaW.PrintWords Go.Proofs.Ytcpgejgppiclmaa.Evs Go.Proofs.Ytcpgejgppiclmaa.Opens Go.Proofs.YtcpgejgppiclmaaW.PrintMore
set_option linter.unusedSimpArgs false
set_option linter.unusedVariables false
def Blocking_D (s : List Task) (l : List Section) (t : Int) : Int := if okSecs s l = true ∧ 0 ≤ t ∧ t ≤ 120 then block s l t else -1
theorem spec_Blocking_ev (s : List Task) (l : List Section) (t : Int) (hs : s.length ≤ 1048576) (hl : l.length ≤ 1048576) (_ : wfI t) : Tl (fun k => spec_Blocking.f k s l t) (Blocking_D s l t) := by
  unfold spec_Blocking.f Blocking_D
  refine Tl.bind (spec_SectionsValid_ev s l hs hl) ?_
  by_cases h : okSecs s l = true
  · refine Tl.iteT h (Tl.bind (Tl.of_eq fun _ => spec_l1In_f _ _ _) ?_)
    by_cases h2 : 0 ≤ t ∧ t ≤ 120
    · rw [if_pos ⟨h, h2⟩]; exact Tl.iteT (decide_eq_true h2) (Tl.bind (spec_block_ev h t) (Tl.ret _))
    · rw [if_neg (fun h3 => h2 h3.2)]; exact Tl.iteF (by rw [decide_eq_true_eq]; exact h2) (Tl.ret _)
  · rw [if_neg (fun h3 => h h3.1)]; exact Tl.iteF h (Tl.ret _)
theorem impl_Blocking_ev (s : List Task) (l : List Section) (t : Int) (hs : s.length ≤ 1048576) (hl : l.length ≤ 1048576) (_ : wfI t) : Tl (fun k => impl_Blocking.f k s l t) (Blocking_D s l t) := by
  unfold impl_Blocking.f Blocking_D
  refine Tl.bind (impl_SectionsValid_ev s l hs hl) ?_
  by_cases h : okSecs s l = true
  · refine Tl.iteT h (Tl.bind (Tl.of_eq fun _ => impl_in_f _ _ _) ?_)
    by_cases h2 : 0 ≤ t ∧ t ≤ 120
    · rw [if_pos ⟨h, h2⟩]; exact Tl.iteT (decide_eq_true h2) (Tl.bind (impl_block_ev h t) (Tl.ret _))
    · rw [if_neg (fun h3 => h2 h3.2)]; exact Tl.iteF (by rw [decide_eq_true_eq]; exact h2) (Tl.ret _)
  · rw [if_neg (fun h3 => h h3.1)]; exact Tl.iteF h (Tl.ret _)
end Go.Proofs.Ytcpgejgppiclmaa.Print
