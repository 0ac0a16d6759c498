/- Fractions in lowest terms. No condition. -/
import Derived.Test.YtmpanaefdohjkaaPureDemand
import Derived.Test.YtmpanaefdohjkaaPK440
namespace Go.Proofs.Ytmpanaefdohjkaa.Print
open Go.RowKit Go.Proofs.YtmpanaefdohjkaaW.PrintWords Go.Proofs.Ytmpanaefdohjkaa.Evs Go.Proofs.Ytmpanaefdohjkaa.Opens
set_option linter.unusedSimpArgs false
set_option linter.unusedVariables false
theorem eqFraction_self (a b : Int) : laws_eqFraction.f a b a b = some true := by simp [laws_eqFraction.f]
/-- A fraction in lowest terms. -/
def red (n d : Int) : Int × Int := (n / (Int.gcd n d : Int), d / (Int.gcd n d : Int))
theorem gcd_pos2 {a p : Int} (h : 1 ≤ p) : 1 ≤ ((Int.gcd a p : Nat) : Int) := by rw [Int.gcd_comm]; exact gcd_pos' h
theorem impl_reduced_ev {n d : Int} (h0 : 0 ≤ n) (h1 : n ≤ 1000000000000) (h2 : 1 ≤ d) (h3 : d ≤ 1000000000000) : Tl (fun k => impl_reduced.f k n d) (red n d) := by
  unfold impl_reduced.f
  refine Tl.bind (impl_gcd_ev _ _ h0 (by omega)) ?_
  have hg := gcd_pos2 (a := n) h2
  refine Tl.iteF (by omega) ?_
  have e1 : 0 ≤ n / (Int.gcd n d : Int) := Int.ediv_nonneg (by omega) (by omega)
  have e2 : n / (Int.gcd n d : Int) ≤ n := Int.ediv_le_self _ (by omega)
  have e3 : 0 ≤ d / (Int.gcd n d : Int) := Int.ediv_nonneg (by omega) (by omega)
  have e4 : d / (Int.gcd n d : Int) ≤ d := Int.ediv_le_self _ (by omega)
  rw [tdiv_pos h0, tdiv_pos (by omega), wrap_id (by omega) (by omega), wrap_id (by omega) (by omega)]
  exact Tl.ret _
end Go.Proofs.Ytmpanaefdohjkaa.Print
