/- SectionsValid, as the program and as the reference compute it. No condition. -/
import Derived.Test.YtcpgejgppiclmaaHelpSection
import Derived.Test.YtcpgejgppiclmaaPureHyper
import Derived.Test.YtcpgejgppiclmaaPK30c
namespace Go.Proofs.Ytcpgejgppiclmaa.Print
open Go.RowKit Go.Proofs.YtcpgejgppiclmaaW.PrintWords Go.Proofs.Ytcpgejgppiclmaa.Evs Go.Proofs.Ytcpgejgppiclmaa.Opens
set_option linter.unusedSimpArgs false
set_option linter.unusedVariables false
def sec (l : List Section) (j : Nat) : Section := l.getD j z89
theorem rd_sec (l : List Section) (j : Nat) : rd_T89 l (j : Int) = sec l j := rfl
def okSec (s : List Task) (l : List Section) (j : Nat) : Bool := decide ((((sec l j).f1 = 0 → (sec l j).f0 = 0 ∧ (sec l j).f2 = 0) ∧ 0 ≤ (sec l j).f1 ∧ (sec l j).f1 ≤ (tk s j).f0) ∧ 0 ≤ (sec l j).f0 ∧ (sec l j).f0 ≤ (tk s j).f0 - (sec l j).f1 ∧ 0 ≤ (sec l j).f2 ∧ (sec l j).f2 ≤ 2)
def okSecs (s : List Task) (l : List Section) : Bool := if okSet s = true ∧ l.length = s.length then (List.range l.length).all (okSec s l) else false
theorem okSecs_set {s : List Task} {l : List Section} (h : okSecs s l = true) : okSet s = true ∧ l.length = s.length := by
  unfold okSecs at h
  split at h
  · assumption
  · cases h
theorem okSecs_at {s : List Task} {l : List Section} (h : okSecs s l = true) {j : Nat} (hj : j < l.length) :
    (((sec l j).f1 = 0 → (sec l j).f0 = 0 ∧ (sec l j).f2 = 0) ∧ 0 ≤ (sec l j).f1 ∧ (sec l j).f1 ≤ (tk s j).f0) ∧ 0 ≤ (sec l j).f0 ∧ (sec l j).f0 ≤ (tk s j).f0 - (sec l j).f1 ∧ 0 ≤ (sec l j).f2 ∧ (sec l j).f2 ≤ 2 := by
  have h0 := okSecs_set h
  unfold okSecs at h
  rw [if_pos h0, List.all_eq_true] at h
  exact of_decide_eq_true (h j (by simpa using hj))
theorem secBad_ok {s : List Task} {l : List Section} (h : okSet s = true) {j : Nat} (hj : j < s.length) : secBad (sec l j) (tk s j) = !okSec s l j := by
  have ht := okSet_tk h hj
  unfold secBad okSec
  by_cases h1 : 0 ≤ (sec l j).f1 ∧ (sec l j).f1 ≤ (tk s j).f0
  · rw [wrap_id (n := (tk s j).f0 - (sec l j).f1) (by omega) (by omega), Bool.eq_iff_iff]
    simp only [Bool.or_eq_true, decide_eq_true_eq, Bool.not_eq_true', decide_eq_false_iff_not]
    omega
  · rw [decide_eq_false h1, Bool.not_false, Bool.true_or, Bool.or_true, Eq.comm, Bool.not_eq_true', decide_eq_false_iff_not]
    omega
theorem secs_all {s : List Task} {l : List Section} (h : okSet s = true) (h2 : l.length = s.length) : ∀ (n j : Nat), j + n = l.length → (impl_SectionsValid.l0 n s l j = true ↔ ∀ i, j ≤ i → i < l.length → okSec s l i = true)
  | 0, j, e => by
    unfold impl_SectionsValid.l0
    exact ⟨fun _ i h3 h4 => by omega, fun _ => rfl⟩
  | n + 1, j, e => by
    have ih := secs_all h h2 n (j + 1) (by omega)
    have hb := secBad_ok (l := l) h (show j < s.length by omega)
    show ((if secBad (sec l j) (tk s j) = true then false else impl_SectionsValid.l0 n s l (j + 1)) = true) ↔ _
    rw [hb]
    by_cases hc : okSec s l j = true
    · rw [hc, if_neg (by simp), ih]
      constructor
      · intro h3 i h4 h5
        rcases Nat.lt_or_ge j i with h6 | h6
        · exact h3 i h6 h5
        · obtain rfl : i = j := by omega
          exact hc
      · intro h3 i h4 h5
        exact h3 i (by omega) h5
    · rw [Bool.not_eq_true] at hc
      rw [hc, Bool.not_false, if_pos rfl]
      constructor
      · intro h3; cases h3
      · intro h3
        have := h3 j (Nat.le_refl _) (by omega)
        rw [hc] at this
        cases this
theorem impl_SectionsValid_ev (s : List Task) (l : List Section) (hs : s.length ≤ 1048576) (hl : l.length ≤ 1048576) : Tl (fun k => impl_SectionsValid.f k s l) (okSecs s l) := by
  unfold impl_SectionsValid.f okSecs
  refine Tl.cast (Tl.bind (impl_SetValid_ev s hs) (Tl.ret _)) ?_
  by_cases h : okSet s = true
  · rw [h, Bool.true_and]
    by_cases h2 : l.length = s.length
    · rw [if_pos ⟨rfl, h2⟩, decide_eq_true h2, Bool.true_and, Bool.eq_iff_iff, secs_all h h2 _ _ (by omega), List.all_eq_true]
      constructor
      · intro h3 j hj
        exact h3 j (by omega) (by simpa using hj)
      · intro h3 i _ hi
        exact h3 i (by simpa using hi)
    · rw [if_neg (fun h3 => h2 h3.2), decide_eq_false h2, Bool.false_and]
  · rw [if_neg (fun h3 => h h3.1)]
    rw [Bool.not_eq_true] at h
    rw [h, Bool.false_and]
theorem secs_same (s : List Task) (l : List Section) : ∀ (n j : Nat), spec_SectionsValid.l0 n s l j = impl_SectionsValid.l0 n s l j
  | 0, _ => rfl
  | n + 1, j => by
    show (if sSecBad (sec l j) (tk s j) = true then false else spec_SectionsValid.l0 n s l (j + 1)) = (if secBad (sec l j) (tk s j) = true then false else impl_SectionsValid.l0 n s l (j + 1))
    rw [secs_same s l n (j + 1)]
    rfl
theorem spec_SectionsValid_ev (s : List Task) (l : List Section) (hs : s.length ≤ 1048576) (hl : l.length ≤ 1048576) : Tl (fun k => spec_SectionsValid.f k s l) (okSecs s l) := by
  obtain ⟨k0, hk⟩ := impl_SectionsValid_ev s l hs hl
  have h1 := hk k0 (Nat.le_refl _)
  unfold impl_SectionsValid.f at h1
  rw [impl_SetValid_f, Option.bind_some] at h1
  unfold spec_SectionsValid.f
  refine Tl.cast (Tl.bind (spec_SetValid_ev s hs) (Tl.ret _)) ?_
  rw [secs_same]
  exact Option.some.inj h1
end Go.Proofs.Ytcpgejgppiclmaa.Print
