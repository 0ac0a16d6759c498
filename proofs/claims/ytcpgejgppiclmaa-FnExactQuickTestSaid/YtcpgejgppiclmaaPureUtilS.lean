/- Utilization, as the reference computes it. No condition. -/
import Derived.Test.YtcpgejgppiclmaaPureRedS
import Derived.Test.YtcpgejgppiclmaaPK80
namespace Go.Proofs.Ytcpgejgppiclmaa.Print
open Go.RowKit Go.Proofs.YtcpgejgppiclmaaW.PrintWords Go.Proofs.Ytcpgejgppiclmaa.Evs Go.Proofs.Ytcpgejgppiclmaa.Opens
set_option linter.unusedSimpArgs false
set_option linter.unusedVariables false
def Utilization_D (l : List Task) : Int × Int := if okSet l = true then red (loadS l) (hyp l) else (0, 0)
theorem spec_Utilization_ev (l : List Task) (hl : l.length ≤ 1048576) : Tl (fun k => spec_Utilization.f k l) (Utilization_D l) := by
  unfold spec_Utilization.f Utilization_D
  refine Tl.bind (spec_SetValid_ev l hl) ?_
  by_cases h : okSet l = true
  · have h1 := hyp_le h
    have h2 := load_le h
    have hl5 := okSet_len h
    rw [if_pos h]
    refine Tl.iteT h (Tl.bind (spec_hyper_ev h) ?_)
    refine down (Q := fun j => Tl (fun k => spec_Utilization.l0 k l (hyp l) (loadN l j) (j : Int)) (red (loadS l) (hyp l))) l.length ?_ ?_
    · refine Tl.step ?_
      simp only [spec_Utilization.l0]
      refine Tl.iteF (by omega) (Tl.bind (spec_l1Gcd_ev _ _ (by omega) (by show 0 ≤ loadS l; omega)) ?_)
      have hg := gcd_pos' (p := loadS l) h1.1
      refine Tl.iteF (by show ¬ ((Int.gcd (hyp l) (loadS l) : Nat) : Int) = 0; omega) ?_
      show Tl (fun _ => some (wrap64 (Int.tdiv (loadS l) ((Int.gcd (hyp l) (loadS l) : Nat) : Int)), wrap64 (Int.tdiv (hyp l) ((Int.gcd (hyp l) (loadS l) : Nat) : Int)))) _
      unfold red
      rw [Int.gcd_comm (loadS l)]
      have e1 : 0 ≤ loadS l / (Int.gcd (hyp l) (loadS l) : Int) := Int.ediv_nonneg (by omega) (by omega)
      have e2 : loadS l / (Int.gcd (hyp l) (loadS l) : Int) ≤ loadS l := Int.ediv_le_self _ (by omega)
      have e3 : 0 ≤ hyp l / (Int.gcd (hyp l) (loadS l) : Int) := Int.ediv_nonneg (by omega) (by omega)
      have e4 : hyp l / (Int.gcd (hyp l) (loadS l) : Int) ≤ hyp l := Int.ediv_le_self _ (by omega)
      rw [tdiv_pos h2.1, tdiv_pos (by omega), wrap_id (by omega) (by omega), wrap_id (by omega) (by omega)]
      exact Tl.ret _
    · intro j hj hh
      have h3 := okSet_tk h hj
      refine Tl.step ?_
      simp only [spec_Utilization.l0, rd_tk]
      refine Tl.iteT (by omega) (Tl.iteT (by omega) (Tl.iteF (by omega) ?_))
      rw [Int.mul_comm ((tk l j).f0), load_step h hj, wrap_succ hj (by omega)]
      exact hh
  · rw [if_neg h]
    exact Tl.iteF h (Tl.ret _)
end Go.Proofs.Ytcpgejgppiclmaa.Print
