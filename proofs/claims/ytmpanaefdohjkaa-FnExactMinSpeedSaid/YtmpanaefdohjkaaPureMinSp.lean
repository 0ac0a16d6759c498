/- MinSpeed, as the program and as the reference compute it. No condition. -/
import Derived.Test.YtmpanaefdohjkaaPureRed
import Derived.Test.YtmpanaefdohjkaaPK40
namespace Go.Proofs.Ytmpanaefdohjkaa.Print
open Go.RowKit Go.Proofs.YtmpanaefdohjkaaW.PrintWords Go.Proofs.Ytmpanaefdohjkaa.Evs Go.Proofs.Ytmpanaefdohjkaa.Opens Go.Proofs.YtmpanaefdohjkaaW.PrintMore
set_option linter.unusedSimpArgs false
set_option linter.unusedVariables false
/-- The largest ratio of demand and time from t on, n times. -/
def speedN (l : List Task) : Nat → Int → Int → Int → Int × Int
  | 0, _, a, b => red a b
  | n + 1, t, a, b => if dem l t * b > a * t then speedN l n (t + 1) (dem l t) t else speedN l n (t + 1) a b
theorem msp_wrap {x y : Int} (h : 0 ≤ x ∧ x ≤ 40000040) (h2 : 1 ≤ y ∧ y ≤ 30000) : wrap64 (x * y) = x * y := by
  have h3 : x * y ≤ 40000040 * 30000 := Int.mul_le_mul (by omega) (by omega) (by omega) (by omega)
  have h4 : 0 ≤ x * y := Int.mul_nonneg (by omega) (by omega)
  exact wrap_id (by omega) (by omega)
theorem spec_red_ev {n d : Int} (h0 : 0 ≤ n) (h1 : n ≤ 1000000000000) (h2 : 1 ≤ d) (h3 : d ≤ 1000000000000) :
    Tl (fun k => (spec_l1Gcd.f k d n).bind fun t105 => (if t105 = 0 then (none) else (some (wrap64 (Int.tdiv n t105), wrap64 (Int.tdiv d t105))))) (red n d) := by
  refine Tl.bind (spec_l1Gcd_ev _ _ (by omega) (by omega)) ?_
  have hg := gcd_pos' (p := n) h2
  refine Tl.iteF (by omega) ?_
  unfold red
  rw [Int.gcd_comm n]
  have e1 : 0 ≤ n / (Int.gcd d n : Int) := Int.ediv_nonneg (by omega) (by omega)
  have e2 : n / (Int.gcd d n : Int) ≤ n := Int.ediv_le_self _ (by omega)
  have e3 : 0 ≤ d / (Int.gcd d n : Int) := Int.ediv_nonneg (by omega) (by omega)
  have e4 : d / (Int.gcd d n : Int) ≤ d := Int.ediv_le_self _ (by omega)
  rw [tdiv_pos h0, tdiv_pos (by omega), wrap_id (by omega) (by omega), wrap_id (by omega) (by omega)]
  exact Tl.ret _
theorem spec_speed_ev {l : List Task} (h : okSet l = true) : ∀ (n : Nat) (t a b : Int), 1 ≤ t → t + n = hyp l + 1 → 0 ≤ a ∧ a ≤ 40000040 → 1 ≤ b ∧ b ≤ 30000 → Tl (fun k => spec_MinSpeed.l0 k l a b (hyp l) t) (speedN l n t a b)
  | 0, t, a, b, h1, h2, h3, h4 => by
    refine Tl.step ?_
    simp only [spec_MinSpeed.l0]
    exact Tl.iteF (by omega) (spec_red_ev (by omega) (by omega) (by omega) (by omega))
  | n + 1, t, a, b, h1, h2, h3, h4 => by
    have hh := hyp_le h
    have hd := dem_le h (t := t) (by omega)
    refine Tl.step ?_
    simp only [spec_MinSpeed.l0]
    refine Tl.iteT (by omega) (Tl.bind (spec_demand_ev h (by omega) (by omega)) ?_)
    rw [msp_wrap hd h4, msp_wrap h3 ⟨h1, by omega⟩, wrap_id (n := t + 1) (by omega) (by omega)]
    by_cases hc : dem l t * b > a * t
    · unfold speedN; rw [if_pos hc]; exact Tl.iteT hc (spec_speed_ev h n (t + 1) _ _ (by omega) (by omega) hd (by omega))
    · unfold speedN; rw [if_neg hc]; exact Tl.iteF hc (spec_speed_ev h n (t + 1) _ _ (by omega) (by omega) h3 h4)
theorem impl_speed_ev {l : List Task} (h : okSet l = true) : ∀ (n : Nat) (t a b : Int), 1 ≤ t → t + n = hyp l + 1 → 0 ≤ a ∧ a ≤ 40000040 → 1 ≤ b ∧ b ≤ 30000 → Tl (fun k => impl_MinSpeed.l0 k l t a b) (speedN l n t a b)
  | 0, t, a, b, h1, h2, h3, h4 => by
    refine Tl.step ?_
    simp only [impl_MinSpeed.l0]
    exact Tl.bind (impl_hyper_ev h) (Tl.iteF (by omega) (Tl.bind (impl_reduced_ev (by omega) (by omega) (by omega) (by omega)) (Tl.ret _)))
  | n + 1, t, a, b, h1, h2, h3, h4 => by
    have hh := hyp_le h
    have hd := dem_le h (t := t) (by omega)
    refine Tl.step ?_
    simp only [impl_MinSpeed.l0]
    refine Tl.bind (impl_hyper_ev h) (Tl.iteT (by omega) (Tl.bind (impl_demand_ev h (by omega) (by omega)) ?_))
    rw [msp_wrap hd h4, msp_wrap h3 ⟨h1, by omega⟩, wrap_id (n := t + 1) (by omega) (by omega)]
    by_cases hc : dem l t * b > a * t
    · unfold speedN; rw [if_pos hc]; exact Tl.iteT hc (impl_speed_ev h n (t + 1) _ _ (by omega) (by omega) hd (by omega))
    · unfold speedN; rw [if_neg hc]; exact Tl.iteF hc (impl_speed_ev h n (t + 1) _ _ (by omega) (by omega) h3 h4)
def MinSpeed_D (l : List Task) : Int × Int := if okSet l = true then speedN l (hyp l).toNat 1 0 1 else (0, 0)
theorem spec_MinSpeed_ev (l : List Task) (hl : l.length ≤ 1048576) : Tl (fun k => spec_MinSpeed.f k l) (MinSpeed_D l) := by
  unfold spec_MinSpeed.f MinSpeed_D
  refine Tl.bind (spec_SetValid_ev l hl) ?_
  by_cases h : okSet l = true
  · have hh := hyp_le h
    rw [if_pos h]; exact Tl.iteT h (Tl.bind (spec_hyper_ev h) (spec_speed_ev h _ _ _ _ (by omega) (by omega) (by omega) (by omega)))
  · rw [if_neg h]; exact Tl.iteF h (Tl.ret _)
theorem impl_MinSpeed_ev (l : List Task) (hl : l.length ≤ 1048576) : Tl (fun k => impl_MinSpeed.f k l) (MinSpeed_D l) := by
  unfold impl_MinSpeed.f MinSpeed_D
  refine Tl.bind (impl_SetValid_ev l hl) ?_
  by_cases h : okSet l = true
  · have hh := hyp_le h
    rw [if_pos h]; exact Tl.iteT h (impl_speed_ev h _ _ _ _ (by omega) (by omega) (by omega) (by omega))
  · rw [if_neg h]; exact Tl.iteF h (Tl.ret _)
end Go.Proofs.Ytmpanaefdohjkaa.Print
