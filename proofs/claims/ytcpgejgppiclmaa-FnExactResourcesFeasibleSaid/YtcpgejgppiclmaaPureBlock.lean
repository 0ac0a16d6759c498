/- Blocking and ResourcesFeasible, as the program and as the reference compute them. No condition. -/
import Derived.Test.YtcpgejgppiclmaaPureCeil
import Derived.Test.YtcpgejgppiclmaaPK104
namespace Go.Proofs.Ytcpgejgppiclmaa.Print
open Go.RowKit Go.Proofs.YtcpgejgppiclmaaW.PrintWords Go.Proofs.Ytcpgejgppiclmaa.Evs Go.Proofs.Ytcpgejgppiclmaa.Opens Go.Proofs.YtcpgejgppiclmaaW.PrintMore
set_option linter.unusedSimpArgs false
set_option linter.unusedVariables false
/-- The longest section among the first j tasks that can block at t. -/
def blockN (s : List Task) (l : List Section) (t : Int) : Nat → Int
  | 0 => 0
  | j + 1 => if (tk s j).f1 > t ∧ (sec l j).f1 > 0 ∧ ceil s l (sec l j).f2 ≤ t then mx (blockN s l t j) (sec l j).f1 else blockN s l t j
def block (s : List Task) (l : List Section) (t : Int) : Int := blockN s l t s.length
theorem block_yes {s : List Task} {l : List Section} {t : Int} {j : Nat} (h : (tk s j).f1 > t ∧ (sec l j).f1 > 0 ∧ ceil s l (sec l j).f2 ≤ t) : mx (blockN s l t j) (sec l j).f1 = blockN s l t (j + 1) := (if_pos h).symm
theorem block_no {s : List Task} {l : List Section} {t : Int} {j : Nat} (h : ¬ ((tk s j).f1 > t ∧ (sec l j).f1 > 0 ∧ ceil s l (sec l j).f2 ≤ t)) : blockN s l t j = blockN s l t (j + 1) := (if_neg h).symm
theorem blockN_le {s : List Task} {l : List Section} (h : okSecs s l = true) {t : Int} : ∀ j, j ≤ s.length → 0 ≤ blockN s l t j ∧ blockN s l t j ≤ 8
  | 0, _ => by unfold blockN; omega
  | j + 1, hj => by
    have h0 := okSecs_set h
    have h1 := blockN_le h (t := t) j (by omega)
    have h2 := okSecs_at h (show j < l.length by omega)
    have h3 := okSet_tk h0.1 (show j < s.length by omega)
    unfold blockN
    split
    · unfold mx; split <;> omega
    · exact h1
theorem spec_block_ev {s : List Task} {l : List Section} (h : okSecs s l = true) (t : Int) : Tl (fun k => spec_l6Block.f k s l t) (block s l t) := by
  unfold spec_l6Block.f
  have h0 := okSecs_set h
  have hl := okSet_len h0.1
  refine down (Q := fun j => Tl (fun k => spec_l6Block.l0 k s l t (blockN s l t j) (j : Int)) (block s l t)) s.length ?_ ?_
  · refine Tl.step ?_
    simp only [spec_l6Block.l0]
    exact Tl.iteF (by omega) (Tl.ret _)
  · intro j hj hh
    refine Tl.step ?_
    simp only [spec_l6Block.l0, rd_tk, rd_sec]
    refine Tl.iteT (by omega) (Tl.iteT (by omega) ?_)
    rw [wrap_succ hj (by omega)]
    by_cases c1 : (tk s j).f1 > t
    · refine Tl.iteT c1 (Tl.iteT (by omega) ?_)
      by_cases c2 : (sec l j).f1 > 0
      · refine Tl.iteT c2 (Tl.bind (spec_ceil_ev h _) ?_)
        by_cases c3 : ceil s l (sec l j).f2 ≤ t
        · rw [block_yes ⟨c1, c2, c3⟩]; exact Tl.iteT c3 hh
        · rw [block_no (fun h3 => c3 h3.2.2)]; exact Tl.iteF c3 hh
      · rw [block_no (fun h3 => c2 h3.2.1)]; exact Tl.iteF c2 hh
    · rw [block_no (fun h3 => c1 h3.1)]; exact Tl.iteF c1 hh
theorem impl_block_ev {s : List Task} {l : List Section} (h : okSecs s l = true) (t : Int) : Tl (fun k => impl_blocking.f k s l t) (block s l t) := by
  unfold impl_blocking.f
  have h0 := okSecs_set h
  have hl := okSet_len h0.1
  refine Tl.bind (impl_ceils_ev h) ?_
  refine down (Q := fun j => Tl (fun k => impl_blocking.l0 k s t (ceils s l s.length) (blockN s l t j) l (l.length : Int) (j : Int)) (block s l t)) s.length ?_ ?_
  · refine Tl.step ?_
    simp only [impl_blocking.l0]
    exact Tl.iteF (by omega) (Tl.ret _)
  · intro j hj hh
    have hs := okSecs_at h (show j < l.length by omega)
    refine Tl.step ?_
    simp only [impl_blocking.l0, rd_tk, rd_sec]
    refine Tl.iteT (by omega) (Tl.iteT (by omega) (Tl.iteT (by omega) ?_))
    rw [wrap_succ hj (by omega)]
    by_cases c2 : (sec l j).f1 > 0
    · refine Tl.iteT c2 (Tl.iteT (by omega) ?_)
      by_cases c1 : (tk s j).f1 > t
      · refine Tl.iteT c1 (Tl.iteT hs.2.2.2.1 (Tl.iteT (by show _ < ((3 : Nat) : Int); omega) ?_))
        have e : rd (ceils s l s.length) (sec l j).f2 = ceil s l (sec l j).f2 := rd_ceils _ _ _ hs.2.2.2.1 hs.2.2.2.2
        by_cases c3 : ceil s l (sec l j).f2 ≤ t
        · rw [block_yes ⟨c1, c2, c3⟩]; exact Tl.iteT (show rd (ceils s l s.length) (sec l j).f2 ≤ t from by rw [e]; exact c3) hh
        · rw [block_no (fun h3 => c3 h3.2.2)]; exact Tl.iteF (show ¬ rd (ceils s l s.length) (sec l j).f2 ≤ t from by rw [e]; exact c3) hh
      · rw [block_no (fun h3 => c1 h3.1)]; exact Tl.iteF c1 hh
    · rw [block_no (fun h3 => c2 h3.2.1)]; exact Tl.iteF c2 hh
end Go.Proofs.Ytcpgejgppiclmaa.Print
