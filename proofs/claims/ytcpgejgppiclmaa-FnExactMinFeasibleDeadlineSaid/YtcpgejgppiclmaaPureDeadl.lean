/- MinFeasibleDeadline, as the program and as the reference compute it. No condition. -/
import Derived.Test.YtcpgejgppiclmaaPureCost
import Derived.Test.YtcpgejgppiclmaaPK40
namespace Go.Proofs.Ytcpgejgppiclmaa.Print
open Go.RowKit Go.Proofs.YtcpgejgppiclmaaW.PrintWords Go.Proofs.Ytcpgejgppiclmaa.Evs Go.Proofs.Ytcpgejgppiclmaa.Opens Go.Proofs.YtcpgejgppiclmaaW.PrintMore
set_option linter.unusedSimpArgs false
set_option linter.unusedVariables false
/-- The least deadline from d up, n times tried. -/
def deadN (l : List Task) (j : Nat) : Nat → Int → Int
  | 0, _ => 0
  | n + 1, d => if feas (l.set j ⟨(tk l j).f0, d, (tk l j).f2⟩) = true then d else deadN l j n (d + 1)
theorem okTask_dead {l : List Task} (h : okSet l = true) {j : Nat} (hj : j < l.length) {d : Int} (h1 : (tk l j).f0 ≤ d) (h2 : d ≤ (tk l j).f2) : okTask ⟨(tk l j).f0, d, (tk l j).f2⟩ = true := by
  have := okSet_tk h hj
  unfold okTask
  exact decide_eq_true ⟨this.1, this.2.1, h1, h2, this.2.2.2.2⟩
theorem spec_dead_ev {l : List Task} (h : okSet l = true) {j : Nat} (hj : j < l.length) : ∀ (n : Nat) (d : Int), (tk l j).f0 ≤ d → d + n = (tk l j).f2 + 1 → Tl (fun k => spec_MinFeasibleDeadline.l0 k l (j : Int) d) (deadN l j n d)
  | 0, d, h1, h2 => by
    refine Tl.step ?_
    simp only [spec_MinFeasibleDeadline.l0, rd_tk]
    exact Tl.iteT (by omega) (Tl.iteT (by omega) (Tl.iteF (by omega) (Tl.ret _)))
  | n + 1, d, h1, h2 => by
    have h3 := okSet_tk h hj
    have hl := okSet_len h
    refine Tl.step ?_
    simp only [spec_MinFeasibleDeadline.l0, rd_tk, List.nil_append, Int.toNat_natCast]
    have ho := okSet_set h j (okTask_dead h hj (d := d) h1 (by omega))
    refine Tl.iteT (by omega) (Tl.iteT (by omega) (Tl.iteT (by omega) (Tl.bind (Tl.ret _) (Tl.iteT (by simp; omega) (Tl.bind (Tl.ret _) (Tl.iteT (by simp; omega) ?_))))))
    simp only [List.nil_append, rd_tk]
    refine Tl.bind (spec_edf_ev ho) ?_
    unfold deadN
    by_cases hc : feas (l.set j ⟨(tk l j).f0, d, (tk l j).f2⟩) = true
    · rw [if_pos hc]; exact Tl.iteT hc (Tl.ret _)
    · rw [if_neg hc, wrap_id (n := d + 1) (by omega) (by omega)]
      exact Tl.iteF hc (spec_dead_ev h hj n (d + 1) (by omega) (by omega))
theorem impl_dead_ev {l : List Task} (h : okSet l = true) {j : Nat} (hj : j < l.length) : ∀ (n : Nat) (d : Int), (tk l j).f0 ≤ d → d + n = (tk l j).f2 + 1 → Tl (fun k => impl_MinFeasibleDeadline.l0 k l (j : Int) (tk l j).f0 d (tk l j).f2) (deadN l j n d)
  | 0, d, h1, h2 => by
    refine Tl.step ?_
    simp only [impl_MinFeasibleDeadline.l0]
    exact Tl.iteF (by omega) (Tl.ret _)
  | n + 1, d, h1, h2 => by
    have h3 := okSet_tk h hj
    refine Tl.step ?_
    simp only [impl_MinFeasibleDeadline.l0]
    have ho := okSet_set h j (okTask_dead h hj (d := d) h1 (by omega))
    refine Tl.iteT (by omega) (Tl.bind (impl_changed_ev h hj _ _ _) (Tl.bind (impl_feasible_ev ho) ?_))
    unfold deadN
    by_cases hc : feas (l.set j ⟨(tk l j).f0, d, (tk l j).f2⟩) = true
    · rw [if_pos hc]; exact Tl.iteT hc (Tl.ret _)
    · rw [if_neg hc, wrap_id (n := d + 1) (by omega) (by omega)]
      exact Tl.iteF hc (impl_dead_ev h hj n (d + 1) (by omega) (by omega))
def MinFeasibleDeadline_D (l : List Task) (a : Int) : Int := if okSet l = true ∧ 0 ≤ a ∧ a ≤ (l.length : Int) - 1 then deadN l a.toNat ((tk l a.toNat).f2 + 1 - (tk l a.toNat).f0).toNat (tk l a.toNat).f0 else -1
theorem spec_MinFeasibleDeadline_ev (l : List Task) (a : Int) (hl : l.length ≤ 1048576) (_ : wfI a) : Tl (fun k => spec_MinFeasibleDeadline.f k l a) (MinFeasibleDeadline_D l a) := by
  unfold spec_MinFeasibleDeadline.f MinFeasibleDeadline_D
  have hj : Tl (fun k => spec_MinFeasibleDeadline.j0 k l a true) (-1) := by
    refine Tl.step ?_
    simp only [spec_MinFeasibleDeadline.j0]
    exact Tl.iteT trivial (Tl.ret _)
  refine Tl.bind (spec_SetValid_ev l hl) ?_
  by_cases h : okSet l = true
  · have hlen := okSet_len h
    refine Tl.iteT h (Tl.bind (Tl.of_eq fun _ => spec_l1In_f _ _ _) ?_)
    rw [wrap_id (by omega) (by omega)]
    by_cases ha : 0 ≤ a ∧ a ≤ (l.length : Int) - 1
    · rw [if_pos ⟨h, ha⟩, decide_eq_true ha]
      obtain ⟨j, rfl⟩ : ∃ j : Nat, a = (j : Int) := ⟨a.toNat, by omega⟩
      have hjl : j < l.length := by omega
      have h3 := okSet_tk h hjl
      refine Tl.step ?_
      simp only [spec_MinFeasibleDeadline.j0, rd_tk, Int.toNat_natCast]
      exact Tl.iteF (by simp) (Tl.iteT (by omega) (Tl.iteT (by omega) (spec_dead_ev h hjl _ _ (by omega) (by omega))))
    · rw [if_neg (fun h3 => ha h3.2), decide_eq_false ha]; exact hj
  · rw [if_neg (fun h3 => h h3.1)]; exact Tl.iteF h hj
theorem impl_MinFeasibleDeadline_ev (l : List Task) (a : Int) (hl : l.length ≤ 1048576) (_ : wfI a) : Tl (fun k => impl_MinFeasibleDeadline.f k l a) (MinFeasibleDeadline_D l a) := by
  unfold impl_MinFeasibleDeadline.f MinFeasibleDeadline_D
  refine Tl.bind (impl_isTask_ev l a hl) ?_
  by_cases h : okSet l = true ∧ 0 ≤ a ∧ a ≤ (l.length : Int) - 1
  · rw [if_pos h]
    obtain ⟨h, ha⟩ := h
    obtain ⟨j, rfl⟩ : ∃ j : Nat, a = (j : Int) := ⟨a.toNat, by omega⟩
    have hjl : j < l.length := by omega
    have h3 := okSet_tk h hjl
    simp only [rd_tk, Int.toNat_natCast]
    exact Tl.iteT (by rw [h, Bool.true_and, decide_eq_true_eq]; exact ha) (Tl.iteT (by omega) (Tl.iteT (by omega) (impl_dead_ev h hjl _ _ (by omega) (by omega))))
  · rw [if_neg h]
    refine Tl.iteF ?_ (Tl.ret _)
    rw [Bool.and_eq_true, decide_eq_true_eq]
    exact h
end Go.Proofs.Ytcpgejgppiclmaa.Print
