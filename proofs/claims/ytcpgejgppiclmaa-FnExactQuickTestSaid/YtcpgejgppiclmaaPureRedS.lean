/- Fractions in lowest terms, with no program in sight. No condition. -/
import Derived.Test.YtcpgejgppiclmaaPureDemand
namespace Go.Proofs.Ytcpgejgppiclmaa.Print
open Go.RowKit Go.Proofs.YtcpgejgppiclmaaW.PrintWords Go.Proofs.Ytcpgejgppiclmaa.Evs Go.Proofs.Ytcpgejgppiclmaa.Opens
/-- A fraction in lowest terms. -/
def red (n d : Int) : Int × Int := (n / (Int.gcd n d : Int), d / (Int.gcd n d : Int))
theorem gcd_pos2 {a p : Int} (h : 1 ≤ p) : 1 ≤ ((Int.gcd a p : Nat) : Int) := by rw [Int.gcd_comm]; exact gcd_pos' h
end Go.Proofs.Ytcpgejgppiclmaa.Print
