/- OrderValid, as the program and as the reference compute it. No condition. -/
import Derived.Test.YtappbijjpcaocaaPureIdx
import Derived.Test.YtappbijjpcaocaaPureTask
import Derived.Test.YtappbijjpcaocaaPK16
namespace Go.Proofs.Ytappbijjpcaocaa.Print
open Go.RowKit Go.Proofs.YtappbijjpcaocaaW.PrintWords Go.Proofs.Ytappbijjpcaocaa.Evs Go.Proofs.Ytappbijjpcaocaa.Opens
set_option linter.unusedSimpArgs false
set_option linter.unusedVariables false
theorem rd_getD (o : List Int) (j : Nat) : rd o (j : Int) = o.getD j 0 := rfl
theorem spec_Index_ev (o : List Int) (v : Int) (hl : o.length ≤ 1048576) : Tl (fun k => spec_l4Index.f k o v) (idx o v) := by
  unfold spec_l4Index.f
  refine Tl.idxN (F := fun k i => spec_l4Index.l0 k o v i) ?_ ?_ ?_ o.length 0 (by omega)
  · intro j hj hc r hh
    refine Tl.step ?_
    simp only [spec_l4Index.l0, rd_getD]
    rw [wrap_succ hj (by omega)]
    exact Tl.iteT (by omega) (Tl.iteT (by omega) (Tl.iteF hc hh))
  · intro j hj hc
    refine Tl.step ?_
    simp only [spec_l4Index.l0, rd_getD]
    exact Tl.iteT (by omega) (Tl.iteT (by omega) (Tl.iteT hc (Tl.ret _)))
  · refine Tl.step ?_
    simp only [spec_l4Index.l0]
    exact Tl.iteF (by omega) (Tl.ret _)
theorem impl_Index_ev (o : List Int) (v : Int) (hl : o.length ≤ 1048576) : Tl (fun k => slices_Index_int_int.f k o v) (idx o v) := by
  unfold slices_Index_int_int.f
  refine Tl.idxN (F := fun k i => slices_Index_int_int.l0 k o v (o.length : Int) i) ?_ ?_ ?_ o.length 0 (by omega)
  · intro j hj hc r hh
    refine Tl.step ?_
    simp only [slices_Index_int_int.l0, rd_getD]
    rw [wrap_succ hj (by omega)]
    exact Tl.iteT (by omega) (Tl.iteT (by omega) (Tl.iteT (by omega) (Tl.iteF (fun h => hc h.symm) hh)))
  · intro j hj hc
    refine Tl.step ?_
    simp only [slices_Index_int_int.l0, rd_getD]
    exact Tl.iteT (by omega) (Tl.iteT (by omega) (Tl.iteT (by omega) (Tl.iteT hc.symm (Tl.ret _))))
  · refine Tl.step ?_
    simp only [slices_Index_int_int.l0]
    exact Tl.iteF (by omega) (Tl.ret _)
def okAt (s : List Task) (o : List Int) (j : Nat) : Bool := decide (0 ≤ o.getD j 0 ∧ o.getD j 0 ≤ (s.length : Int) - 1) && decide (idx (o.take j) (o.getD j 0) < 0)
/-- A permutation of a valid set. -/
def okOrder (s : List Task) (o : List Int) : Bool := (List.range o.length).all (okAt s o) && (okSet s && decide (o.length = s.length))
theorem impl_OrderValid_ev (s : List Task) (o : List Int) (hs : s.length ≤ 1048576) (ho : o.length ≤ 1048576) : Tl (fun k => impl_OrderValid.f k s o) (okOrder s o) := by
  unfold impl_OrderValid.f okOrder
  refine Tl.all (F := fun k i => impl_OrderValid.l0 k s o o (o.length : Int) i) ?_ ?_ ?_
  · intro j hj hp r hh
    unfold okAt at hp
    rw [Bool.and_eq_true, decide_eq_true_eq, decide_eq_true_eq, ← idx_first hj] at hp
    refine Tl.step ?_
    simp only [impl_OrderValid.l0, rd_getD]
    rw [wrap_succ hj (by omega), wrap_id (n := (s.length : Int) - 1) (by omega) (by omega)]
    refine Tl.iteT (by omega) (Tl.iteT (by omega) (Tl.iteT (by omega) (Tl.bind (Tl.of_eq fun _ => impl_in_f _ _ _) (Tl.iteT (decide_eq_true hp.1) (Tl.bind (impl_Index_ev o _ ho) (Tl.iteT hp.2 hh))))))
  · intro j hj hp
    unfold okAt at hp
    refine Tl.step ?_
    simp only [impl_OrderValid.l0, rd_getD]
    rw [wrap_id (n := (s.length : Int) - 1) (by omega) (by omega)]
    refine Tl.iteT (by omega) (Tl.iteT (by omega) (Tl.iteT (by omega) (Tl.bind (Tl.of_eq fun _ => impl_in_f _ _ _) ?_)))
    by_cases h1 : 0 ≤ o.getD j 0 ∧ o.getD j 0 ≤ (s.length : Int) - 1
    · rw [decide_eq_true h1, Bool.true_and, decide_eq_false_iff_not, ← idx_first hj] at hp
      exact Tl.iteT (decide_eq_true h1) (Tl.bind (impl_Index_ev o _ ho) (Tl.iteF hp (Tl.ret _)))
    · exact Tl.iteF (by rw [decide_eq_true_eq]; exact h1) (Tl.ret _)
  · refine Tl.step ?_
    simp only [impl_OrderValid.l0]
    refine Tl.iteF (by omega) (Tl.bind (impl_SetValid_ev s hs) ?_)
    have e : ((o.length : Int) == (s.length : Int)) = decide (o.length = s.length) := by rw [Bool.eq_iff_iff, beq_iff_eq, decide_eq_true_eq]; omega
    rw [e]
    cases okSet s with
    | true => exact Tl.iteT rfl (Tl.ret _)
    | false => exact Tl.iteF (by simp) (Tl.ret _)
theorem spec_OrderValid_ev (s : List Task) (o : List Int) (hs : s.length ≤ 1048576) (ho : o.length ≤ 1048576) : Tl (fun k => spec_OrderValid.f k s o) (okOrder s o) := by
  unfold spec_OrderValid.f okOrder
  have hj : Tl (fun k => spec_OrderValid.j0 k s o true) false := by
    refine Tl.step ?_
    simp only [spec_OrderValid.j0]
    exact Tl.iteT trivial (Tl.ret _)
  refine Tl.bind (spec_SetValid_ev s hs) ?_
  by_cases h : okSet s = true
  · refine Tl.iteT h ?_
    by_cases h2 : o.length = s.length
    · rw [h, decide_eq_true h2, show ((o.length : Int) != (s.length : Int)) = false from by rw [bne_eq_false_iff_eq]; omega]
      refine Tl.step ?_
      simp only [spec_OrderValid.j0]
      refine Tl.iteF (by simp) ?_
      refine Tl.all (F := fun k i => spec_OrderValid.l0 k s o i) ?_ ?_ ?_
      · intro j hj hp r hh
        unfold okAt at hp
        rw [Bool.and_eq_true, decide_eq_true_eq, decide_eq_true_eq] at hp
        refine Tl.step ?_
        simp only [spec_OrderValid.l0, rd_getD, Int.toNat_natCast]
        rw [wrap_succ hj (by omega), wrap_id (n := (s.length : Int) - 1) (by omega) (by omega)]
        exact Tl.iteT (by omega) (Tl.iteT (by omega) (Tl.bind (Tl.of_eq fun _ => spec_l1In_f _ _ _) (Tl.iteT (decide_eq_true hp.1) (Tl.iteT (by omega) (Tl.bind (spec_Index_ev _ _ (by simp; omega)) (Tl.iteF (by omega) hh))))))
      · intro j hj hp
        unfold okAt at hp
        refine Tl.step ?_
        simp only [spec_OrderValid.l0, rd_getD, Int.toNat_natCast]
        rw [wrap_id (n := (s.length : Int) - 1) (by omega) (by omega)]
        refine Tl.iteT (by omega) (Tl.iteT (by omega) (Tl.bind (Tl.of_eq fun _ => spec_l1In_f _ _ _) ?_))
        by_cases h1 : 0 ≤ o.getD j 0 ∧ o.getD j 0 ≤ (s.length : Int) - 1
        · rw [decide_eq_true h1, Bool.true_and, decide_eq_false_iff_not] at hp
          exact Tl.iteT (decide_eq_true h1) (Tl.iteT (by omega) (Tl.bind (spec_Index_ev _ _ (by simp; omega)) (Tl.iteT (by omega) (Tl.ret _))))
        · exact Tl.iteF (by rw [decide_eq_true_eq]; exact h1) (Tl.ret _)
      · refine Tl.step ?_
        simp only [spec_OrderValid.l0]
        exact Tl.iteF (by omega) (Tl.ret _)
    · rw [decide_eq_false h2, Bool.and_false, Bool.and_false, show ((o.length : Int) != (s.length : Int)) = true from by rw [bne_iff_ne]; omega]
      exact hj
  · rw [Bool.not_eq_true] at h
    rw [h, Bool.false_and, Bool.and_false]
    exact Tl.iteF (by simp) hj
end Go.Proofs.Ytappbijjpcaocaa.Print
