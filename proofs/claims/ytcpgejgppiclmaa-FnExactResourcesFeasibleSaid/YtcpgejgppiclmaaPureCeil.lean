/- Ceilings and Blocking, as the program and as the reference compute them. No condition. -/
import Derived.Test.YtcpgejgppiclmaaPureSection
import Derived.Test.YtcpgejgppiclmaaPK8
import Derived.Test.YtcpgejgppiclmaaPK10c
namespace Go.Proofs.Ytcpgejgppiclmaa.Print
open Go.RowKit Go.Proofs.YtcpgejgppiclmaaW.PrintWords Go.Proofs.Ytcpgejgppiclmaa.Evs Go.Proofs.Ytcpgejgppiclmaa.Opens Go.Proofs.YtcpgejgppiclmaaW.PrintMore
set_option linter.unusedSimpArgs false
set_option linter.unusedVariables false
/-- The ceiling of resource r among the first j tasks. -/
def ceilN (s : List Task) (l : List Section) (r : Int) : Nat → Int
  | 0 => 13
  | j + 1 => if (sec l j).f1 > 0 ∧ (sec l j).f2 = r then mn (ceilN s l r j) (tk s j).f1 else ceilN s l r j
def ceil (s : List Task) (l : List Section) (r : Int) : Int := ceilN s l r s.length
theorem ceil_yes {s : List Task} {l : List Section} {r : Int} {j : Nat} (h1 : (sec l j).f1 > 0) (h2 : (sec l j).f2 = r) : mn (ceilN s l r j) (tk s j).f1 = ceilN s l r (j + 1) := (if_pos ⟨h1, h2⟩).symm
theorem ceil_no {s : List Task} {l : List Section} {r : Int} {j : Nat} (h : ¬ ((sec l j).f1 > 0 ∧ (sec l j).f2 = r)) : ceilN s l r j = ceilN s l r (j + 1) := (if_neg h).symm
theorem spec_ceil_ev {s : List Task} {l : List Section} (h : okSecs s l = true) (r : Int) : Tl (fun k => spec_l6Ceiling.f k s l r) (ceil s l r) := by
  unfold spec_l6Ceiling.f
  have h0 := okSecs_set h
  have hl := okSet_len h0.1
  refine down (Q := fun j => Tl (fun k => spec_l6Ceiling.l0 k s l r (ceilN s l r j) (j : Int)) (ceil s l r)) s.length ?_ ?_
  · refine Tl.step ?_
    simp only [spec_l6Ceiling.l0]
    exact Tl.iteF (by omega) (Tl.ret _)
  · intro j hj hh
    refine Tl.step ?_
    simp only [spec_l6Ceiling.l0, rd_tk, rd_sec]
    refine Tl.iteT (by omega) (Tl.iteT (by omega) (Tl.iteT (by omega) ?_))
    rw [wrap_succ hj (by omega)]
    by_cases c1 : (sec l j).f1 > 0
    · refine Tl.iteT c1 ?_
      by_cases c2 : (sec l j).f2 = r
      · rw [ceil_yes c1 c2]; exact Tl.iteT c2 hh
      · rw [ceil_no (fun h3 => c2 h3.2)]; exact Tl.iteF c2 hh
    · rw [ceil_no (fun h3 => c1 h3.1)]; exact Tl.iteF c1 hh
theorem w01 : wrap64 (0 + 1) = 1 := by unfold wrap64; omega
theorem w12 : wrap64 (1 + 1) = 2 := by unfold wrap64; omega
theorem w23 : wrap64 (2 + 1) = 3 := by unfold wrap64; omega
/-- The three ceilings. -/
def ceils (s : List Task) (l : List Section) (j : Nat) : List Int := [ceilN s l 0 j, ceilN s l 1 j, ceilN s l 2 j]
theorem rd_ceils (s : List Task) (l : List Section) (j : Nat) {r : Int} (h0 : 0 ≤ r) (h2 : r ≤ 2) : rd (ceils s l j) r = ceilN s l r j := by
  obtain rfl | rfl | rfl : r = 0 ∨ r = 1 ∨ r = 2 := by omega
  · rfl
  · rfl
  · rfl
theorem set_ceils (s : List Task) (l : List Section) {j : Nat} (h1 : (sec l j).f1 > 0) (h0 : 0 ≤ (sec l j).f2) (h2 : (sec l j).f2 ≤ 2) :
    (ceils s l j).set (sec l j).f2.toNat (mn (rd (ceils s l j) (sec l j).f2) (tk s j).f1) = ceils s l (j + 1) := by
  rw [rd_ceils _ _ _ h0 h2, ceil_yes h1 rfl]
  obtain e | e | e : (sec l j).f2 = 0 ∨ (sec l j).f2 = 1 ∨ (sec l j).f2 = 2 := by omega
  · have c1 := ceil_no (s := s) (l := l) (r := 1) (j := j) (fun h3 => by omega)
    have c2 := ceil_no (s := s) (l := l) (r := 2) (j := j) (fun h3 => by omega)
    rw [e]; unfold ceils; rw [c1, c2]; rfl
  · have c1 := ceil_no (s := s) (l := l) (r := 0) (j := j) (fun h3 => by omega)
    have c2 := ceil_no (s := s) (l := l) (r := 2) (j := j) (fun h3 => by omega)
    rw [e]; unfold ceils; rw [c1, c2]; rfl
  · have c1 := ceil_no (s := s) (l := l) (r := 0) (j := j) (fun h3 => by omega)
    have c2 := ceil_no (s := s) (l := l) (r := 1) (j := j) (fun h3 => by omega)
    rw [e]; unfold ceils; rw [c1, c2]; rfl
theorem impl_ceils_ev {s : List Task} {l : List Section} (h : okSecs s l = true) : Tl (fun k => impl_ceilings.f k s l) (ceils s l s.length) := by
  unfold impl_ceilings.f
  have h0 := okSecs_set h
  have hl := okSet_len h0.1
  refine Tl.iteT (by omega) (Tl.bind (Tl.ret _) ?_)
  have key : Tl (fun k => impl_ceilings.l1 k s (ceils s l 0) l (l.length : Int) 0) (ceils s l s.length) := by
    refine down (Q := fun j => Tl (fun k => impl_ceilings.l1 k s (ceils s l j) l (l.length : Int) (j : Int)) (ceils s l s.length)) s.length ?_ ?_
    · refine Tl.step ?_
      simp only [impl_ceilings.l1]
      exact Tl.iteF (by omega) (Tl.ret _)
    · intro j hj hh
      have hs := okSecs_at h (show j < l.length by omega)
      refine Tl.step ?_
      simp only [impl_ceilings.l1, rd_tk, rd_sec]
      refine Tl.iteT (by omega) (Tl.iteT (by omega) (Tl.iteT (by omega) ?_))
      rw [wrap_succ hj (by omega)]
      by_cases c1 : (sec l j).f1 > 0
      · rw [set_ceils s l c1 hs.2.2.2.1 hs.2.2.2.2]
        exact Tl.iteT c1 (Tl.iteT hs.2.2.2.1 (Tl.iteT (by show _ < ((3 : Nat) : Int); omega) (Tl.iteT (by omega) hh)))
      · have e : ceils s l j = ceils s l (j + 1) := by
          unfold ceils
          rw [← ceil_no (fun h3 => c1 h3.1), ← ceil_no (fun h3 => c1 h3.1), ← ceil_no (fun h3 => c1 h3.1)]
        rw [e]
        exact Tl.iteF c1 hh
  refine Tl.step ?_
  simp only [impl_ceilings.l0, List.length_replicate, List.length_set, w01, w12, w23]
  refine Tl.iteT (by omega) (Tl.iteT (by omega) (Tl.iteT (by omega) ?_))
  refine Tl.step ?_
  simp only [impl_ceilings.l0, List.length_replicate, List.length_set, w01, w12, w23]
  refine Tl.iteT (by decide) (Tl.iteT (by decide) (Tl.iteT (by decide) ?_))
  refine Tl.step ?_
  simp only [impl_ceilings.l0, List.length_replicate, List.length_set, w01, w12, w23]
  refine Tl.iteT (by decide) (Tl.iteT (by decide) (Tl.iteT (by decide) ?_))
  refine Tl.step ?_
  simp only [impl_ceilings.l0, List.length_replicate, List.length_set, w01, w12, w23]
  exact Tl.iteF (by decide) key
def Ceilings_D (s : List Task) (l : List Section) : List Int := if okSecs s l = true then ceils s l s.length else []
theorem impl_Ceilings_ev (s : List Task) (l : List Section) (hs : s.length ≤ 1048576) (hl : l.length ≤ 1048576) : Tl (fun k => impl_Ceilings.f k s l) (Ceilings_D s l) := by
  unfold impl_Ceilings.f Ceilings_D
  refine Tl.bind (impl_SectionsValid_ev s l hs hl) ?_
  by_cases h : okSecs s l = true
  · rw [if_pos h]; exact Tl.iteT h (Tl.bind (impl_ceils_ev h) (Tl.ret _))
  · rw [if_neg h]; exact Tl.iteF h (Tl.ret _)
theorem spec_Ceilings_ev (s : List Task) (l : List Section) (hs : s.length ≤ 1048576) (hl : l.length ≤ 1048576) : Tl (fun k => spec_Ceilings.f k s l) (Ceilings_D s l) := by
  unfold spec_Ceilings.f Ceilings_D
  refine Tl.bind (Tl.ret _) (Tl.bind (spec_SectionsValid_ev s l hs hl) ?_)
  by_cases h : okSecs s l = true
  · rw [if_pos h]
    refine Tl.iteT h ?_
    refine Tl.step ?_
    simp only [spec_Ceilings.l0, w01, w12, w23]
    refine Tl.iteT (by decide) (Tl.bind (spec_ceil_ev h _) (Tl.iteT (by simp) ?_))
    refine Tl.step ?_
    simp only [spec_Ceilings.l0, w01, w12, w23]
    refine Tl.iteT (by decide) (Tl.bind (spec_ceil_ev h _) (Tl.iteT (by simp) ?_))
    refine Tl.step ?_
    simp only [spec_Ceilings.l0, w01, w12, w23]
    refine Tl.iteT (by decide) (Tl.bind (spec_ceil_ev h _) (Tl.iteT (by simp) ?_))
    refine Tl.step ?_
    simp only [spec_Ceilings.l0, w01, w12, w23]
    exact Tl.iteF (by decide) (Tl.ret _)
  · rw [if_neg h]; exact Tl.iteF h (Tl.ret _)
theorem Ceilings_len (s : List Task) (l : List Section) : (Ceilings_D s l).length ≤ 3 := by
  unfold Ceilings_D ceils
  split <;> simp
end Go.Proofs.Ytcpgejgppiclmaa.Print
