/- The last deadline before a time, as the program and as the reference compute it. No condition. -/
import Derived.Test.YtcpgejgppiclmaaPureDemand
import Derived.Test.YtcpgejgppiclmaaPK80
namespace Go.Proofs.Ytcpgejgppiclmaa.Print
open Go.RowKit Go.Proofs.YtcpgejgppiclmaaW.PrintWords Go.Proofs.Ytcpgejgppiclmaa.Evs Go.Proofs.Ytcpgejgppiclmaa.Opens Go.Proofs.YtcpgejgppiclmaaW.PrintMore
set_option linter.unusedSimpArgs false
set_option linter.unusedVariables false
/-- The largest deadline before t among the first j tasks. -/
def lastN (l : List Task) (t : Int) : Nat → Int
  | 0 => 0
  | j + 1 => if (tk l j).f1 < t then mx (lastN l t j) ((t - 1 - (tk l j).f1) / (tk l j).f2 * (tk l j).f2 + (tk l j).f1) else lastN l t j
def lastD (l : List Task) (t : Int) : Int := lastN l t l.length
theorem last_step {l : List Task} (h : okSet l = true) {t : Int} (h0 : 0 ≤ t) (h1 : t ≤ 1000000) {j : Nat} (hj : j < l.length) (ht : (tk l j).f1 < t) :
    mx (lastN l t j) (wrap64 ((wrap64 ((wrap64 (Int.tdiv (wrap64 ((wrap64 (t - 1)) - (tk l j).f1)) (tk l j).f2)) * (tk l j).f2)) + (tk l j).f1)) = lastN l t (j + 1) := by
  have h2 := okSet_tk h hj
  have e : lastN l t (j + 1) = mx (lastN l t j) ((t - 1 - (tk l j).f1) / (tk l j).f2 * (tk l j).f2 + (tk l j).f1) := by
    show (if (tk l j).f1 < t then _ else _) = _
    rw [if_pos ht]
  rw [e, wrap_id (n := t - 1) (by omega) (by omega), wrap_id (n := t - 1 - (tk l j).f1) (by omega) (by omega), tdiv_pos (by omega)]
  have h6 : 0 ≤ (t - 1 - (tk l j).f1) / (tk l j).f2 := Int.ediv_nonneg (by omega) (by omega)
  have h7 : (t - 1 - (tk l j).f1) / (tk l j).f2 ≤ t - 1 - (tk l j).f1 := Int.ediv_le_self _ (by omega)
  have h8 : (t - 1 - (tk l j).f1) / (tk l j).f2 * (tk l j).f2 ≤ 1000000 * 12 := Int.mul_le_mul (by omega) (by omega) (by omega) (by omega)
  have h9 : 0 ≤ (t - 1 - (tk l j).f1) / (tk l j).f2 * (tk l j).f2 := Int.mul_nonneg h6 (by omega)
  rw [wrap_id (n := (t - 1 - (tk l j).f1) / (tk l j).f2) (by omega) (by omega), wrap_id (n := (t - 1 - (tk l j).f1) / (tk l j).f2 * (tk l j).f2) (by omega) (by omega), wrap_id (n := _ + _) (by omega) (by omega)]
theorem last_skip {l : List Task} {t : Int} {j : Nat} (ht : ¬ (tk l j).f1 < t) : lastN l t (j + 1) = lastN l t j := by
  show (if (tk l j).f1 < t then _ else _) = _
  rw [if_neg ht]
theorem spec_last_ev {l : List Task} (h : okSet l = true) {t : Int} (h0 : 0 ≤ t) (h1 : t ≤ 1000000) : Tl (fun k => spec_l11Last.f k l t) (lastD l t) := by
  unfold spec_l11Last.f
  have hl := okSet_len h
  refine down (Q := fun j => Tl (fun k => spec_l11Last.l0 k l t (lastN l t j) (j : Int)) (lastD l t)) l.length ?_ ?_
  · refine Tl.step ?_
    simp only [spec_l11Last.l0]
    exact Tl.iteF (by omega) (Tl.ret _)
  · intro j hj hh
    have h2 := okSet_tk h hj
    refine Tl.step ?_
    simp only [spec_l11Last.l0, rd_tk]
    refine Tl.iteT (by omega) (Tl.iteT (by omega) ?_)
    by_cases ht : (tk l j).f1 < t
    · refine Tl.iteT ht (Tl.iteF (by omega) ?_)
      rw [last_step h h0 h1 hj ht, wrap_succ hj (by omega)]
      exact hh
    · refine Tl.iteF ht ?_
      rw [wrap_succ hj (by omega), ← last_skip ht]
      exact hh
theorem impl_last_ev {l : List Task} (h : okSet l = true) {t : Int} (h0 : 0 ≤ t) (h1 : t ≤ 1000000) : Tl (fun k => impl_lastDeadline.f k l t) (lastD l t) := by
  unfold impl_lastDeadline.f
  have hl := okSet_len h
  refine down (Q := fun j => Tl (fun k => impl_lastDeadline.l0 k t (lastN l t j) l (l.length : Int) (j : Int)) (lastD l t)) l.length ?_ ?_
  · refine Tl.step ?_
    simp only [impl_lastDeadline.l0]
    exact Tl.iteF (by omega) (Tl.ret _)
  · intro j hj hh
    have h2 := okSet_tk h hj
    refine Tl.step ?_
    simp only [impl_lastDeadline.l0, rd_tk]
    refine Tl.iteT (by omega) (Tl.iteT (by omega) (Tl.iteT (by omega) ?_))
    by_cases ht : (tk l j).f1 < t
    · refine Tl.iteT (by omega) (Tl.iteF (by omega) ?_)
      rw [last_step h h0 h1 hj ht, wrap_succ hj (by omega)]
      exact hh
    · refine Tl.iteF (by omega) ?_
      rw [wrap_succ hj (by omega), ← last_skip ht]
      exact hh
end Go.Proofs.Ytcpgejgppiclmaa.Print
