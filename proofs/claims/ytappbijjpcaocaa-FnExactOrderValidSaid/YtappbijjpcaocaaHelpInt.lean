/- Slices of ints: what the laws' own helpers compute. No condition. -/
import Derived.Test.YtappbijjpcaocaaLst
import Derived.Test.YtappbijjpcaocaaPO
import Derived.Test.YtappbijjpcaocaaPK16
namespace Go.Proofs.Ytappbijjpcaocaa.Print
open Go.RowKit Go.Proofs.YtappbijjpcaocaaW.PrintWords Go.Proofs.Ytappbijjpcaocaa.Evs Go.Proofs.Ytappbijjpcaocaa.Opens
set_option linter.unusedSimpArgs false
theorem toIntS_ev (l : List Int) (hl : l.length ≤ 1048576) : Tl (fun k => laws_toIntS.f k l) l := by
  unfold laws_toIntS.f
  have c1 := eq_true (show 0 ≤ (l.length : Int) by omega)
  have c2 := eq_true (show l.length ≤ 35184372088832 by omega)
  simp only [c1, c2, if_true, Int.toNat_natCast]
  have key := down (Q := fun j => Tl (fun k => laws_toIntS.l0 k l (l.take j ++ List.replicate (l.length - j) 0) (j : Int)) l) l.length ?_ ?_
  · rw [fill_zero] at key; exact key
  · refine Tl.step ?_
    have c3 := eq_false (show ¬ ((l.length : Int) < (l.length : Int)) by omega)
    rw [fill_end]
    simp only [laws_toIntS.l0, c3, if_false]
    exact Tl.ret _
  · intro j hj h
    refine Tl.step ?_
    have c3 := eq_true (show (j : Int) < (l.length : Int) by omega)
    have c4 := eq_true (show 0 ≤ (j : Int) by omega)
    have c5 := eq_true (show (j : Int) < ((l.take j ++ List.replicate (l.length - j) 0).length : Int) by rw [fill_len _ _ (by omega)]; omega)
    simp only [laws_toIntS.l0, c3, c4, c5, if_true, Int.toNat_natCast]
    rw [fill_set l 0 hj (rd l (j : Int)) rfl, wrap_succ hj (by omega)]
    exact h
theorem eqIntS_ev (l : List Int) (hl : l.length ≤ 1048576) : Tl (fun k => laws_eqIntS.f k l l) true := by
  unfold laws_eqIntS.f
  simp only [if_true]
  refine down (Q := fun j => Tl (fun k => laws_eqIntS.l0 k l l (j : Int)) true) l.length ?_ ?_
  · refine Tl.step ?_
    have c3 := eq_false (show ¬ ((l.length : Int) < (l.length : Int)) by omega)
    simp only [laws_eqIntS.l0, c3, if_false]
    exact Tl.ret _
  · intro j hj h
    refine Tl.step ?_
    have c3 := eq_true (show (j : Int) < (l.length : Int) by omega)
    have c4 := eq_true (show 0 ≤ (j : Int) by omega)
    simp only [laws_eqIntS.l0, c3, c4, if_true]
    rw [wrap_succ hj (by omega)]
    exact h
end Go.Proofs.Ytappbijjpcaocaa.Print
