/- QuickTest, as the program and as the reference compute it. No condition. -/
import Derived.Test.YtcpgejgppiclmaaPureBusy
import Derived.Test.YtcpgejgppiclmaaPureLastC
import Derived.Test.YtcpgejgppiclmaaPK80
namespace Go.Proofs.Ytcpgejgppiclmaa.Print
open Go.RowKit Go.Proofs.YtcpgejgppiclmaaW.PrintWords Go.Proofs.Ytcpgejgppiclmaa.Evs Go.Proofs.Ytcpgejgppiclmaa.Opens Go.Proofs.YtcpgejgppiclmaaW.PrintMore
set_option linter.unusedSimpArgs false
set_option linter.unusedVariables false
theorem lastN_range {l : List Task} (h : okSet l = true) {t : Int} (h0 : 1 ≤ t) : ∀ j, j ≤ l.length → 0 ≤ lastN l t j ∧ lastN l t j < t
  | 0, _ => by unfold lastN; omega
  | j + 1, hj => by
    have h2 := lastN_range h h0 j (by omega)
    have h3 := okSet_tk h (show j < l.length by omega)
    unfold lastN
    split
    · rename_i hc
      have h6 : 0 ≤ (t - 1 - (tk l j).f1) / (tk l j).f2 * (tk l j).f2 := Int.mul_nonneg (Int.ediv_nonneg (by omega) (by omega)) (by omega)
      have h7 : (t - 1 - (tk l j).f1) / (tk l j).f2 * (tk l j).f2 ≤ t - 1 - (tk l j).f1 := Int.ediv_mul_le _ (by omega)
      unfold mx
      split <;> omega
    · exact h2
/-- The least deadline of the first j tasks, at most 12. -/
def leastN (l : List Task) : Nat → Int
  | 0 => 12
  | j + 1 => mn (leastN l j) (tk l j).f1
def least (l : List Task) : Int := leastN l l.length
theorem leastN_range {l : List Task} (h : okSet l = true) : ∀ j, j ≤ l.length → 1 ≤ leastN l j ∧ leastN l j ≤ 12
  | 0, _ => by unfold leastN; omega
  | j + 1, hj => by
    have h2 := leastN_range h j (by omega)
    have h3 := okSet_tk h (show j < l.length by omega)
    unfold leastN mn
    split <;> omega
theorem spec_least_ev {l : List Task} (h : okSet l = true) (hn : l.length ≠ 0) : Tl (fun k => spec_l11Min.f k l) (least l) := by
  unfold spec_l11Min.f
  have hl := okSet_len h
  refine down (Q := fun j => Tl (fun k => spec_l11Min.l0 k l (if j = 0 then 0 else leastN l j) (j : Int)) (least l)) l.length ?_ ?_
  · refine Tl.step ?_
    simp only [spec_l11Min.l0]
    rw [if_neg hn]
    exact Tl.iteF (by omega) (Tl.ret _)
  · intro j hj hh
    have h2 := okSet_tk h hj
    have h3 := leastN_range h j (by omega)
    rw [if_neg (by omega)] at hh
    refine Tl.step ?_
    simp only [spec_l11Min.l0, rd_tk]
    refine Tl.iteT (by omega) ?_
    rw [wrap_succ hj (by omega)]
    by_cases hj0 : j = 0
    · rw [if_pos hj0]
      refine Tl.iteT rfl (Tl.iteT (by omega) ?_)
      have e : (tk l j).f1 = leastN l (j + 1) := by
        subst hj0
        show _ = mn 12 (tk l 0).f1
        unfold mn
        split <;> omega
      rw [e]
      exact hh
    · rw [if_neg hj0]
      refine Tl.iteF (by omega) (Tl.iteT (by omega) ?_)
      by_cases hc : (tk l j).f1 < leastN l j
      · refine Tl.iteT hc ?_
        have e : (tk l j).f1 = leastN l (j + 1) := by
          show _ = mn (leastN l j) (tk l j).f1
          unfold mn
          split <;> omega
        rw [e]
        exact hh
      · refine Tl.iteF hc ?_
        have e : leastN l j = leastN l (j + 1) := by
          show _ = mn (leastN l j) (tk l j).f1
          unfold mn
          split <;> omega
        rw [e]
        exact hh
def quick (l : List Task) : Nat → Int → Int → Bool × Int
  | 0, _, n => (true, n)
  | m + 1, t, n => if t ≤ 0 then (true, n) else if dem l t > t then (false, n + 1) else if dem l t ≤ least l then (true, n + 1) else if dem l t < t then quick l m (dem l t) (n + 1) else quick l m (lastD l t) (n + 1)
theorem lastD_range {l : List Task} (h : okSet l = true) {t : Int} (h0 : 1 ≤ t) : 0 ≤ lastD l t ∧ lastD l t < t := lastN_range h h0 _ (Nat.le_refl _)
theorem spec_quick_ev {l : List Task} (h : okSet l = true) (hn : l.length ≠ 0) : ∀ (m : Nat) (t n : Int), 0 ≤ t → t < m → 0 ≤ n → n + t ≤ 30000 → Tl (fun k => spec_QuickTest.l0 k l t n) (quick l m t n)
  | 0, t, n, h0, h1, h2, h3 => by omega
  | m + 1, t, n, h0, h1, h2, h3 => by
    refine Tl.step ?_
    simp only [spec_QuickTest.l0]
    unfold quick
    by_cases hc : t ≤ 0
    · rw [if_pos hc]; exact Tl.iteF (by omega) (Tl.ret _)
    · rw [if_neg hc, wrap_id (n := n + 1) (by omega) (by omega)]
      have hd := dem_le h (t := t) (by omega)
      have hq := lastD_range h (t := t) (by omega)
      refine Tl.iteT (by omega) (Tl.bind (spec_demand_ev h h0 (by omega)) ?_)
      by_cases c1 : dem l t > t
      · rw [if_pos c1]; exact Tl.iteT c1 (Tl.ret _)
      · rw [if_neg c1]
        refine Tl.iteF c1 (Tl.bind (spec_least_ev h hn) ?_)
        by_cases c2 : dem l t ≤ least l
        · rw [if_pos c2]; exact Tl.iteT c2 (Tl.ret _)
        · rw [if_neg c2]
          refine Tl.iteF c2 ?_
          by_cases c3 : dem l t < t
          · rw [if_pos c3]; exact Tl.iteT c3 (spec_quick_ev h hn m _ _ hd.1 (by omega) (by omega) (by omega))
          · rw [if_neg c3]
            exact Tl.iteF c3 (Tl.bind (spec_last_ev h h0 (by omega)) (spec_quick_ev h hn m _ _ hq.1 (by omega) (by omega) (by omega)))
theorem impl_quick_ev {l : List Task} (h : okSet l = true) : ∀ (m : Nat) (t n : Int), 0 ≤ t → t < m → 0 ≤ n → n + t ≤ 30000 → Tl (fun k => impl_QuickTest.l1 k l (least l) n t) (quick l m t n)
  | 0, t, n, h0, h1, h2, h3 => by omega
  | m + 1, t, n, h0, h1, h2, h3 => by
    refine Tl.step ?_
    simp only [impl_QuickTest.l1]
    unfold quick
    by_cases hc : t ≤ 0
    · rw [if_pos hc]; exact Tl.iteT (by omega) (Tl.ret _)
    · rw [if_neg hc, wrap_id (n := n + 1) (by omega) (by omega)]
      have hd := dem_le h (t := t) (by omega)
      have hq := lastD_range h (t := t) (by omega)
      refine Tl.iteF (by omega) (Tl.bind (impl_demand_ev h h0 (by omega)) ?_)
      by_cases c1 : dem l t > t
      · rw [if_pos c1]; exact Tl.iteT c1 (Tl.ret _)
      · rw [if_neg c1]
        refine Tl.iteF c1 ?_
        by_cases c2 : dem l t ≤ least l
        · rw [if_pos c2]; exact Tl.iteT c2 (Tl.ret _)
        · rw [if_neg c2]
          refine Tl.iteF c2 ?_
          by_cases c3 : dem l t < t
          · rw [if_pos c3]; exact Tl.iteT c3 (impl_quick_ev h m _ _ hd.1 (by omega) (by omega) (by omega))
          · rw [if_neg c3]
            exact Tl.iteF c3 (Tl.bind (impl_last_ev h h0 (by omega)) (impl_quick_ev h m _ _ hq.1 (by omega) (by omega) (by omega)))
def QuickTest_D (l : List Task) : Bool × Int :=
  if okSet l = true then (if loadS l > hyp l then (false, 0) else if l.length = 0 then (true, 0) else quick l 30000 (lastD l (busy l + 1)) 0) else (false, -1)
theorem busy_range {l : List Task} (h : okSet l = true) (hld : loadS l ≤ hyp l) (hn : l.length ≠ 0) : 1 ≤ busy l ∧ busy l ≤ hyp l := busyN_range h hld _ _ (BusyOk.one h hn)
theorem impl_QuickTest_ev (l : List Task) (hl : l.length ≤ 1048576) : Tl (fun k => impl_QuickTest.f k l) (QuickTest_D l) := by
  unfold impl_QuickTest.f QuickTest_D
  refine Tl.bind (impl_SetValid_ev l hl) ?_
  by_cases h : okSet l = true
  · rw [if_pos h]
    have hh := hyp_le h
    have hlen := okSet_len h
    refine Tl.iteT h (Tl.bind (impl_load_ev h) (Tl.bind (impl_hyper_ev h) ?_))
    by_cases c1 : loadS l > hyp l
    · rw [if_pos c1]; exact Tl.iteT c1 (Tl.ret _)
    · rw [if_neg c1]
      refine Tl.iteF c1 ?_
      by_cases hn : l.length = 0
      · rw [if_pos hn]; exact Tl.iteT (by omega) (Tl.ret _)
      · rw [if_neg hn]
        refine Tl.iteF (by omega) ?_
        have hb := impl_BusyPeriod_ev l hl
        unfold BusyPeriod_D at hb
        rw [if_pos ⟨h, hn, by omega⟩] at hb
        have hr := busy_range h (by omega) hn
        have hq := lastD_range h (t := busy l + 1) (by omega)
        refine down (Q := fun j => Tl (fun k => impl_QuickTest.l0 k l (leastN l j) l (l.length : Int) (j : Int)) (quick l 30000 (lastD l (busy l + 1)) 0)) l.length ?_ ?_
        · refine Tl.step ?_
          simp only [impl_QuickTest.l0]
          refine Tl.iteF (by omega) (Tl.bind hb ?_)
          rw [wrap_id (n := busy l + 1) (by omega) (by omega)]
          exact Tl.bind (impl_last_ev h (by omega) (by omega)) (impl_quick_ev h _ _ _ hq.1 (by omega) (by omega) (by omega))
        · intro j hj hq2
          refine Tl.step ?_
          simp only [impl_QuickTest.l0, rd_tk]
          refine Tl.iteT (by omega) (Tl.iteT (by omega) (Tl.iteT (by omega) ?_))
          rw [wrap_succ hj (by omega)]
          exact hq2
  · rw [if_neg h]; exact Tl.iteF h (Tl.ret _)
theorem spec_QuickTest_ev (l : List Task) (hl : l.length ≤ 1048576) : Tl (fun k => spec_QuickTest.f k l) (QuickTest_D l) := by
  unfold spec_QuickTest.f QuickTest_D
  refine Tl.bind (spec_SetValid_ev l hl) ?_
  by_cases h : okSet l = true
  · rw [if_pos h]
    have hh := hyp_le h
    have hb := spec_BusyPeriod_ev l hl
    unfold BusyPeriod_D at hb
    refine Tl.iteT h ?_
    by_cases c1 : loadS l > hyp l
    · rw [if_pos c1]
      rw [if_neg (fun h3 => by have := h3.2.2; omega)] at hb
      have hn : l.length ≠ 0 := by
        intro e
        have e2 : loadS l = 0 := by unfold loadS; rw [e]; rfl
        omega
      refine Tl.bind hb (Tl.iteT (by omega) ?_)
      rw [show ((l.length : Int) == 0) = false from by rw [beq_eq_false_iff_ne]; omega]
      exact Tl.ret _
    · rw [if_neg c1]
      by_cases hn : l.length = 0
      · rw [if_pos hn]
        rw [if_neg (fun h3 => h3.2.1 hn)] at hb
        refine Tl.bind hb (Tl.iteT (by omega) ?_)
        rw [show ((l.length : Int) == 0) = true from by rw [beq_iff_eq]; omega]
        exact Tl.ret _
      · rw [if_neg hn]
        rw [if_pos ⟨h, hn, by omega⟩] at hb
        have hr := busy_range h (by omega) hn
        have hq := lastD_range h (t := busy l + 1) (by omega)
        refine Tl.bind hb (Tl.iteF (by omega) ?_)
        rw [wrap_id (n := busy l + 1) (by omega) (by omega)]
        exact Tl.bind (spec_last_ev h (by omega) (by omega)) (spec_quick_ev h hn _ _ _ hq.1 (by omega) (by omega) (by omega))
  · rw [if_neg h]; exact Tl.iteF h (Tl.ret _)
end Go.Proofs.Ytcpgejgppiclmaa.Print
