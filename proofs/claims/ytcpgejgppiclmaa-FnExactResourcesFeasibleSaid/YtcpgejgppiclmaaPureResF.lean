/- ResourcesFeasible, as the program and as the reference compute it. No condition. -/
import Derived.Test.YtcpgejgppiclmaaPureBlock
import Derived.Test.YtcpgejgppiclmaaPureDemand
import Derived.Test.YtcpgejgppiclmaaPK100
namespace Go.Proofs.Ytcpgejgppiclmaa.Print
open Go.RowKit Go.Proofs.YtcpgejgppiclmaaW.PrintWords Go.Proofs.Ytcpgejgppiclmaa.Evs Go.Proofs.Ytcpgejgppiclmaa.Opens Go.Proofs.YtcpgejgppiclmaaW.PrintMore
set_option linter.unusedSimpArgs false
set_option linter.unusedVariables false
def resN (s : List Task) (l : List Section) : Nat → Int → Bool
  | 0, _ => true
  | n + 1, t => if dem s t + block s l t > t then false else resN s l n (t + 1)
theorem res_wrap {s : List Task} {l : List Section} (h : okSecs s l = true) {t : Int} (ht : t ≤ 30000) : wrap64 (dem s t + block s l t) = dem s t + block s l t := by
  have h0 := okSecs_set h
  have h1 := dem_le h0.1 (t := t) (by omega)
  have h2 := blockN_le h (t := t) s.length (Nat.le_refl _)
  have h3 : 0 ≤ block s l t ∧ block s l t ≤ 8 := h2
  exact wrap_id (by omega) (by omega)
theorem spec_res_ev {s : List Task} {l : List Section} (h : okSecs s l = true) : ∀ (n : Nat) (t : Int), 1 ≤ t → t + n = hyp s + 1 → Tl (fun k => spec_ResourcesFeasible.l0 k s l (hyp s) t) (resN s l n t)
  | 0, t, h1, h2 => by
    refine Tl.step ?_
    simp only [spec_ResourcesFeasible.l0]
    exact Tl.iteF (by omega) (Tl.ret _)
  | n + 1, t, h1, h2 => by
    have h0 := okSecs_set h
    have hh := hyp_le h0.1
    refine Tl.step ?_
    simp only [spec_ResourcesFeasible.l0]
    refine Tl.iteT (by omega) (Tl.bind (spec_demand_ev h0.1 (by omega) (by omega)) (Tl.bind (spec_block_ev h t) ?_))
    rw [res_wrap h (by omega), wrap_id (n := t + 1) (by omega) (by omega)]
    unfold resN
    by_cases hc : dem s t + block s l t > t
    · rw [if_pos hc]; exact Tl.iteT hc (Tl.ret _)
    · rw [if_neg hc]; exact Tl.iteF hc (spec_res_ev h n (t + 1) (by omega) (by omega))
theorem impl_res_ev {s : List Task} {l : List Section} (h : okSecs s l = true) : ∀ (n : Nat) (t : Int), 1 ≤ t → t + n = hyp s + 1 → Tl (fun k => impl_ResourcesFeasible.l0 k s l t) (resN s l n t)
  | 0, t, h1, h2 => by
    have h0 := okSecs_set h
    refine Tl.step ?_
    simp only [impl_ResourcesFeasible.l0]
    exact Tl.bind (impl_hyper_ev h0.1) (Tl.iteF (by omega) (Tl.ret _))
  | n + 1, t, h1, h2 => by
    have h0 := okSecs_set h
    have hh := hyp_le h0.1
    refine Tl.step ?_
    simp only [impl_ResourcesFeasible.l0]
    refine Tl.bind (impl_hyper_ev h0.1) (Tl.iteT (by omega) (Tl.bind (impl_demand_ev h0.1 (by omega) (by omega)) (Tl.bind (impl_block_ev h t) ?_)))
    rw [res_wrap h (by omega), wrap_id (n := t + 1) (by omega) (by omega)]
    unfold resN
    by_cases hc : dem s t + block s l t > t
    · rw [if_pos hc]; exact Tl.iteT hc (Tl.ret _)
    · rw [if_neg hc]; exact Tl.iteF hc (impl_res_ev h n (t + 1) (by omega) (by omega))
def ResourcesFeasible_D (s : List Task) (l : List Section) : Bool := if okSecs s l = true then resN s l (hyp s).toNat 1 else false
theorem spec_ResourcesFeasible_ev (s : List Task) (l : List Section) (hs : s.length ≤ 1048576) (hl : l.length ≤ 1048576) : Tl (fun k => spec_ResourcesFeasible.f k s l) (ResourcesFeasible_D s l) := by
  unfold spec_ResourcesFeasible.f ResourcesFeasible_D
  refine Tl.bind (spec_SectionsValid_ev s l hs hl) ?_
  by_cases h : okSecs s l = true
  · have h0 := okSecs_set h
    have hh := hyp_le h0.1
    rw [if_pos h]; exact Tl.iteT h (Tl.bind (spec_hyper_ev h0.1) (spec_res_ev h _ _ (by omega) (by omega)))
  · rw [if_neg h]; exact Tl.iteF h (Tl.ret _)
theorem impl_ResourcesFeasible_ev (s : List Task) (l : List Section) (hs : s.length ≤ 1048576) (hl : l.length ≤ 1048576) : Tl (fun k => impl_ResourcesFeasible.f k s l) (ResourcesFeasible_D s l) := by
  unfold impl_ResourcesFeasible.f ResourcesFeasible_D
  refine Tl.bind (impl_SectionsValid_ev s l hs hl) ?_
  by_cases h : okSecs s l = true
  · have h0 := okSecs_set h
    have hh := hyp_le h0.1
    rw [if_pos h]; exact Tl.iteT h (impl_res_ev h _ _ (by omega) (by omega))
  · rw [if_neg h]; exact Tl.iteF h (Tl.ret _)
end Go.Proofs.Ytcpgejgppiclmaa.Print
