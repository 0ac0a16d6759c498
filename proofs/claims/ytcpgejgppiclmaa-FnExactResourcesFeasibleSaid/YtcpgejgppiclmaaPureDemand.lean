/- The load and the demand of a valid set, as the program and as the reference compute them. No condition. -/
import Derived.Test.YtcpgejgppiclmaaPureHyper
import Derived.Test.YtcpgejgppiclmaaPK5e0
import Derived.Test.YtcpgejgppiclmaaPK80
namespace Go.Proofs.Ytcpgejgppiclmaa.Print
open Go.RowKit Go.Proofs.YtcpgejgppiclmaaW.PrintWords Go.Proofs.Ytcpgejgppiclmaa.Evs Go.Proofs.Ytcpgejgppiclmaa.Opens
set_option linter.unusedSimpArgs false
set_option linter.unusedVariables false
/-- One task's part of the demand. -/
def demT (x : Task) (t : Int) : Int := if t ≥ x.f1 then ((t - x.f1) / x.f2 + 1) * x.f0 else 0
def demN (l : List Task) (t : Int) : Nat → Int
  | 0 => 0
  | j + 1 => demN l t j + demT (tk l j) t
def dem (l : List Task) (t : Int) : Int := demN l t l.length
theorem demT_le {x : Task} (h : 1 ≤ x.f0 ∧ x.f0 ≤ 8 ∧ x.f0 ≤ x.f1 ∧ x.f1 ≤ x.f2 ∧ x.f2 ≤ 12) {t : Int} (h1 : t ≤ 1000000) : 0 ≤ demT x t ∧ demT x t ≤ 8000008 := by
  unfold demT
  split
  · rename_i ht
    have h2 : 0 ≤ (t - x.f1) / x.f2 := Int.ediv_nonneg (by omega) (by omega)
    have h3 : (t - x.f1) / x.f2 ≤ t - x.f1 := Int.ediv_le_self _ (by omega)
    constructor
    · exact Int.mul_nonneg (by omega) (by omega)
    · calc ((t - x.f1) / x.f2 + 1) * x.f0 ≤ 1000001 * 8 := Int.mul_le_mul (by omega) (by omega) (by omega) (by omega)
        _ ≤ _ := by omega
  · omega
theorem demN_le {l : List Task} (h : okSet l = true) {t : Int} (h1 : t ≤ 1000000) : ∀ j, j ≤ l.length → 0 ≤ demN l t j ∧ demN l t j ≤ 8000008 * j
  | 0, _ => by unfold demN; omega
  | j + 1, hj => by
    have h2 := demN_le h h1 j (by omega)
    have h3 := demT_le (okSet_tk h (show j < l.length by omega)) h1
    unfold demN
    omega
theorem dem_le {l : List Task} (h : okSet l = true) {t : Int} (h1 : t ≤ 1000000) : 0 ≤ dem l t ∧ dem l t ≤ 40000040 := by
  have h2 := demN_le h h1 l.length (Nat.le_refl _)
  have h3 := okSet_len h
  unfold dem
  omega
theorem dem_step {l : List Task} (h : okSet l = true) {t : Int} (h0 : 0 ≤ t) (h1 : t ≤ 1000000) {j : Nat} (hj : j < l.length) (ht : t ≥ (tk l j).f1) :
    wrap64 (demN l t j + wrap64 (wrap64 (wrap64 (Int.tdiv (wrap64 (t - (tk l j).f1)) (tk l j).f2) + 1) * (tk l j).f0)) = demN l t (j + 1) := by
  have h2 := okSet_tk h hj
  have h3 := demT_le h2 h1
  have h4 := demN_le h h1 (j + 1) (by omega)
  have h5 := demN_le h h1 j (by omega)
  have hl := okSet_len h
  have e1 : wrap64 (t - (tk l j).f1) = t - (tk l j).f1 := wrap_id (by omega) (by omega)
  rw [e1, tdiv_pos (by omega)]
  have h6 : 0 ≤ (t - (tk l j).f1) / (tk l j).f2 := Int.ediv_nonneg (by omega) (by omega)
  have h7 : (t - (tk l j).f1) / (tk l j).f2 ≤ t - (tk l j).f1 := Int.ediv_le_self _ (by omega)
  rw [wrap_id (n := (t - (tk l j).f1) / (tk l j).f2) (by omega) (by omega), wrap_id (n := (t - (tk l j).f1) / (tk l j).f2 + 1) (by omega) (by omega)]
  have e2 : ((t - (tk l j).f1) / (tk l j).f2 + 1) * (tk l j).f0 = demT (tk l j) t := by unfold demT; rw [if_pos ht]
  rw [e2, wrap_id (n := demT (tk l j) t) (by omega) (by omega)]
  show wrap64 (demN l t (j + 1)) = _
  exact wrap_id (by omega) (by omega)
theorem dem_skip {l : List Task} {t : Int} {j : Nat} (ht : ¬ t ≥ (tk l j).f1) : demN l t j = demN l t (j + 1) := by
  show _ = demN l t j + demT (tk l j) t
  unfold demT
  rw [if_neg ht]
  omega
theorem spec_demand_ev {l : List Task} (h : okSet l = true) {t : Int} (h0 : 0 ≤ t) (h1 : t ≤ 1000000) : Tl (fun k => spec_l2Demand.f k l t) (dem l t) := by
  unfold spec_l2Demand.f
  have hl := okSet_len h
  refine down (Q := fun j => Tl (fun k => spec_l2Demand.l0 k l t (demN l t j) (j : Int)) (dem l t)) l.length ?_ ?_
  · refine Tl.step ?_
    simp only [spec_l2Demand.l0]
    refine Tl.iteF (by omega) ?_
    exact Tl.ret _
  · intro j hj hh
    have h2 := okSet_tk h hj
    refine Tl.step ?_
    simp only [spec_l2Demand.l0, rd_tk]
    refine Tl.iteT (by omega) (Tl.iteT (by omega) ?_)
    by_cases ht : t ≥ (tk l j).f1
    · refine Tl.iteT ht (Tl.iteF (by omega) ?_)
      rw [dem_step h h0 h1 hj ht, wrap_succ hj (by omega)]
      exact hh
    · refine Tl.iteF ht ?_
      rw [wrap_succ hj (by omega), dem_skip ht]
      exact hh
theorem impl_demand_ev {l : List Task} (h : okSet l = true) {t : Int} (h0 : 0 ≤ t) (h1 : t ≤ 1000000) : Tl (fun k => impl_demand.f k l t) (dem l t) := by
  unfold impl_demand.f
  have hl := okSet_len h
  refine down (Q := fun j => Tl (fun k => impl_demand.l0 k t (demN l t j) l (l.length : Int) (j : Int)) (dem l t)) l.length ?_ ?_
  · refine Tl.step ?_
    simp only [impl_demand.l0]
    refine Tl.iteF (by omega) ?_
    exact Tl.ret _
  · intro j hj hh
    have h2 := okSet_tk h hj
    refine Tl.step ?_
    simp only [impl_demand.l0, rd_tk]
    refine Tl.iteT (by omega) (Tl.iteT (by omega) (Tl.iteT (by omega) ?_))
    by_cases ht : t ≥ (tk l j).f1
    · refine Tl.iteT ht (Tl.iteF (by omega) ?_)
      rw [dem_step h h0 h1 hj ht, wrap_succ hj (by omega)]
      exact hh
    · refine Tl.iteF ht ?_
      rw [wrap_succ hj (by omega), dem_skip ht]
      exact hh
/-- The work of the first j tasks in a hyperperiod. -/
def loadN (l : List Task) : Nat → Int
  | 0 => 0
  | j + 1 => loadN l j + hyp l / (tk l j).f2 * (tk l j).f0
def loadS (l : List Task) : Int := loadN l l.length
theorem loadT_le {l : List Task} (h : okSet l = true) {j : Nat} (hj : j < l.length) : 0 ≤ hyp l / (tk l j).f2 ∧ hyp l / (tk l j).f2 ≤ 27720 ∧ 0 ≤ hyp l / (tk l j).f2 * (tk l j).f0 ∧ hyp l / (tk l j).f2 * (tk l j).f0 ≤ 221760 := by
  have h1 := hyp_le h
  have h2 := okSet_tk h hj
  have h6 : 0 ≤ hyp l / (tk l j).f2 := Int.ediv_nonneg (by omega) (by omega)
  have h7 : hyp l / (tk l j).f2 ≤ hyp l := Int.ediv_le_self _ (by omega)
  refine ⟨h6, by omega, Int.mul_nonneg h6 (by omega), ?_⟩
  calc hyp l / (tk l j).f2 * (tk l j).f0 ≤ 27720 * 8 := Int.mul_le_mul (by omega) (by omega) (by omega) (by omega)
    _ ≤ _ := by omega
theorem loadN_le {l : List Task} (h : okSet l = true) : ∀ j, j ≤ l.length → 0 ≤ loadN l j ∧ loadN l j ≤ 221760 * j
  | 0, _ => by unfold loadN; omega
  | j + 1, hj => by
    have h2 := loadN_le h j (by omega)
    have h3 := loadT_le h (show j < l.length by omega)
    unfold loadN
    omega
theorem load_le {l : List Task} (h : okSet l = true) : 0 ≤ loadS l ∧ loadS l ≤ 1108800 := by
  have h2 := loadN_le h l.length (Nat.le_refl _)
  have h3 := okSet_len h
  unfold loadS
  omega
theorem load_step {l : List Task} (h : okSet l = true) {j : Nat} (hj : j < l.length) :
    wrap64 (loadN l j + wrap64 (wrap64 (Int.tdiv (hyp l) (tk l j).f2) * (tk l j).f0)) = loadN l (j + 1) := by
  have h1 := hyp_le h
  have h2 := okSet_tk h hj
  have h3 := loadT_le h hj
  have h4 := loadN_le h (j + 1) (by omega)
  have hl := okSet_len h
  rw [tdiv_pos (by omega), wrap_id (n := hyp l / _) (by omega) (by omega), wrap_id (n := _ * _) (by omega) (by omega)]
  show wrap64 (loadN l (j + 1)) = _
  exact wrap_id (by omega) (by omega)
theorem impl_load_ev {l : List Task} (h : okSet l = true) : Tl (fun k => impl_load.f k l) (loadS l) := by
  unfold impl_load.f
  have hl := okSet_len h
  refine Tl.bind (impl_hyper_ev h) ?_
  refine down (Q := fun j => Tl (fun k => impl_load.l0 k (hyp l) (loadN l j) l (l.length : Int) (j : Int)) (loadS l)) l.length ?_ ?_
  · refine Tl.step ?_
    simp only [impl_load.l0]
    refine Tl.iteF (by omega) ?_
    exact Tl.ret _
  · intro j hj hh
    have h2 := okSet_tk h hj
    refine Tl.step ?_
    simp only [impl_load.l0, rd_tk]
    refine Tl.iteT (by omega) (Tl.iteT (by omega) (Tl.iteT (by omega) (Tl.iteF (by omega) ?_)))
    rw [load_step h hj, wrap_succ hj (by omega)]
    exact hh
end Go.Proofs.Ytcpgejgppiclmaa.Print
