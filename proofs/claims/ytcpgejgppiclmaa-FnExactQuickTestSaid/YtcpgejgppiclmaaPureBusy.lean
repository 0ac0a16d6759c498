/- BusyPeriod, as the program and as the reference compute it. No condition. -/
import Derived.Test.YtcpgejgppiclmaaPureDemand
import Derived.Test.YtcpgejgppiclmaaPureUtilS
import Derived.Test.YtcpgejgppiclmaaPK80
namespace Go.Proofs.Ytcpgejgppiclmaa.Print
open Go.RowKit Go.Proofs.YtcpgejgppiclmaaW.PrintWords Go.Proofs.Ytcpgejgppiclmaa.Evs Go.Proofs.Ytcpgejgppiclmaa.Opens
set_option linter.unusedSimpArgs false
set_option linter.unusedVariables false
/-- The work that the first j tasks release in an interval of length w. -/
def workN (l : List Task) (w : Int) : Nat → Int
  | 0 => 0
  | j + 1 => workN l w j + (w + (tk l j).f2 - 1) / (tk l j).f2 * (tk l j).f0
def work (l : List Task) (w : Int) : Int := workN l w l.length
theorem workT_le {l : List Task} (h : okSet l = true) {j : Nat} (hj : j < l.length) {w : Int} (h0 : 1 ≤ w) (h1 : w ≤ 30000) :
    1 ≤ (w + (tk l j).f2 - 1) / (tk l j).f2 ∧ (w + (tk l j).f2 - 1) / (tk l j).f2 ≤ 30011 ∧ 1 ≤ (w + (tk l j).f2 - 1) / (tk l j).f2 * (tk l j).f0 ∧ (w + (tk l j).f2 - 1) / (tk l j).f2 * (tk l j).f0 ≤ 240088 := by
  have h2 := okSet_tk h hj
  have h6 : 1 ≤ (w + (tk l j).f2 - 1) / (tk l j).f2 := Int.le_ediv_of_mul_le (by omega) (by omega)
  have h7 : (w + (tk l j).f2 - 1) / (tk l j).f2 ≤ w + (tk l j).f2 - 1 := Int.ediv_le_self _ (by omega)
  refine ⟨h6, by omega, ?_, ?_⟩
  · calc (1 : Int) ≤ 1 * 1 := by omega
      _ ≤ _ := Int.mul_le_mul h6 (by omega) (by omega) (by omega)
  · calc (w + (tk l j).f2 - 1) / (tk l j).f2 * (tk l j).f0 ≤ 30011 * 8 := Int.mul_le_mul (by omega) (by omega) (by omega) (by omega)
      _ ≤ _ := by omega
theorem workN_le {l : List Task} (h : okSet l = true) {w : Int} (h0 : 1 ≤ w) (h1 : w ≤ 30000) : ∀ j, j ≤ l.length → (j : Int) ≤ workN l w j ∧ workN l w j ≤ 240088 * j
  | 0, _ => by unfold workN; omega
  | j + 1, hj => by
    have h2 := workN_le h h0 h1 j (by omega)
    have h3 := workT_le h (show j < l.length by omega) h0 h1
    unfold workN
    omega
theorem workN_mono {l : List Task} (h : okSet l = true) {w v : Int} (hwv : w ≤ v) : ∀ j, j ≤ l.length → workN l w j ≤ workN l v j
  | 0, _ => by unfold workN; omega
  | j + 1, hj => by
    have h2 := workN_mono h hwv j (by omega)
    have h3 := okSet_tk h (show j < l.length by omega)
    have h4 : (w + (tk l j).f2 - 1) / (tk l j).f2 ≤ (v + (tk l j).f2 - 1) / (tk l j).f2 := Int.ediv_le_ediv (by omega) (by omega)
    have h5 : (w + (tk l j).f2 - 1) / (tk l j).f2 * (tk l j).f0 ≤ (v + (tk l j).f2 - 1) / (tk l j).f2 * (tk l j).f0 := Int.mul_le_mul_of_nonneg_right h4 (by omega)
    unfold workN
    omega
theorem workN_hyp {l : List Task} (h : okSet l = true) : ∀ j, j ≤ l.length → workN l (hyp l) j = loadN l j
  | 0, _ => rfl
  | j + 1, hj => by
    have h2 := workN_hyp h j (by omega)
    have h3 := okSet_tk h (show j < l.length by omega)
    obtain ⟨c, hc⟩ := hypN_dvd h l.length (Nat.le_refl _) j (by omega)
    have hc : hyp l = (tk l j).f2 * c := hc
    have e1 : hyp l / (tk l j).f2 = c := by rw [hc]; exact Int.mul_ediv_cancel_left _ (by omega)
    have e2 : (hyp l + (tk l j).f2 - 1) / (tk l j).f2 = c := by
      rw [hc, show (tk l j).f2 * c + (tk l j).f2 - 1 = ((tk l j).f2 - 1) + (tk l j).f2 * c by omega, Int.add_mul_ediv_left _ _ (by omega), Int.ediv_eq_zero_of_lt (by omega) (by omega)]
      omega
    show workN l (hyp l) j + _ = loadN l j + _
    rw [h2, e1, e2]
theorem work_step {l : List Task} (h : okSet l = true) {w : Int} (h0 : 1 ≤ w) (h1 : w ≤ 30000) {j : Nat} (hj : j < l.length) :
    wrap64 (workN l w j + (wrap64 ((wrap64 (Int.tdiv (wrap64 ((wrap64 (w + (tk l j).f2)) - 1)) (tk l j).f2)) * (tk l j).f0))) = workN l w (j + 1) := by
  have h2 := okSet_tk h hj
  have h3 := workT_le h hj h0 h1
  have h4 := workN_le h h0 h1 (j + 1) (by omega)
  have hl := okSet_len h
  rw [wrap_id (n := w + (tk l j).f2) (by omega) (by omega), wrap_id (n := w + (tk l j).f2 - 1) (by omega) (by omega), tdiv_pos (by omega), wrap_id (n := _ / _) (by omega) (by omega), wrap_id (n := _ * _) (by omega) (by omega)]
  show wrap64 (workN l w (j + 1)) = _
  exact wrap_id (by omega) (by omega)
theorem spec_work_ev {l : List Task} (h : okSet l = true) {w : Int} (h0 : 1 ≤ w) (h1 : w ≤ 30000) : Tl (fun k => spec_l2Work.f k l w) (work l w) := by
  unfold spec_l2Work.f
  have hl := okSet_len h
  refine down (Q := fun j => Tl (fun k => spec_l2Work.l0 k l w (workN l w j) (j : Int)) (work l w)) l.length ?_ ?_
  · refine Tl.step ?_
    simp only [spec_l2Work.l0]
    exact Tl.iteF (by omega) (Tl.ret _)
  · intro j hj hh
    have h2 := okSet_tk h hj
    refine Tl.step ?_
    simp only [spec_l2Work.l0, rd_tk]
    refine Tl.iteT (by omega) (Tl.iteT (by omega) (Tl.iteF (by omega) ?_))
    rw [work_step h h0 h1 hj, wrap_succ hj (by omega)]
    exact hh
/-- The least fixed point from w on, in at most n steps. -/
def busyN (l : List Task) : Nat → Int → Int
  | 0, w => w
  | n + 1, w => if work l w = w then w else busyN l n (work l w)
structure BusyOk (l : List Task) (w : Int) : Prop where
  lo : 1 ≤ w
  hi : w ≤ hyp l
  up : w ≤ work l w
theorem BusyOk.next {l : List Task} (h : okSet l = true) (hld : loadS l ≤ hyp l) {w : Int} (hw : BusyOk l w) : BusyOk l (work l w) := by
  have h1 := hw.lo
  have h2 := hw.hi
  have h3 := hw.up
  have h4 := workN_mono h hw.hi l.length (Nat.le_refl _)
  have h5 := workN_hyp h l.length (Nat.le_refl _)
  have h6 : loadN l l.length ≤ hyp l := hld
  exact ⟨by omega, by unfold work; omega, workN_mono h hw.up l.length (Nat.le_refl _)⟩
theorem BusyOk.one {l : List Task} (h : okSet l = true) (hn : l.length ≠ 0) : BusyOk l 1 := by
  have h1 := hyp_le h
  have h2 := workN_le h (w := 1) (by omega) (by omega) l.length (Nat.le_refl _)
  exact ⟨by omega, by omega, by unfold work; omega⟩
theorem spec_busy_ev {l : List Task} (h : okSet l = true) (hld : loadS l ≤ hyp l) : ∀ (n : Nat) (w : Int), BusyOk l w → hyp l - w < n → Tl (fun k => spec_BusyPeriod.l0 k l w) (busyN l n w)
  | 0, w, hw, hn => by have := hw.hi; omega
  | n + 1, w, hw, hn => by
    have hh := hyp_le h
    have h1 := hw.lo
    have h2 := hw.hi
    have h3 := hw.up
    refine Tl.step ?_
    simp only [spec_BusyPeriod.l0]
    refine Tl.bind (spec_work_ev h (by omega) (by omega)) ?_
    unfold busyN
    by_cases hc : work l w = w
    · rw [if_pos hc]; exact Tl.iteT hc (Tl.ret _)
    · rw [if_neg hc]
      exact Tl.iteF hc (Tl.bind (spec_work_ev h (by omega) (by omega)) (spec_busy_ev h hld n _ (hw.next h hld) (by omega)))
theorem impl_ceil_ev {a b : Int} (hb : b ≠ 0) : Tl (fun _ => impl_ceil.f a b) (wrap64 (Int.tdiv (wrap64 ((wrap64 (a + b)) - 1)) b)) := by
  unfold impl_ceil.f
  exact Tl.iteF hb (Tl.ret _)
theorem impl_round_ev {l : List Task} (h : okSet l = true) {w : Int} (h0 : 1 ≤ w) (h1 : w ≤ 30000) {r : Int} (hr : Tl (fun k => if work l w = w then some w else impl_BusyPeriod.l0 k l (work l w)) r) :
    Tl (fun k => impl_BusyPeriod.l1 k l w 0 l (l.length : Int) 0) r := by
  have hl := okSet_len h
  refine down (Q := fun j => Tl (fun k => impl_BusyPeriod.l1 k l w (workN l w j) l (l.length : Int) (j : Int)) r) l.length ?_ ?_
  · refine Tl.step ?_
    simp only [impl_BusyPeriod.l1]
    exact Tl.iteF (by omega) hr
  · intro j hj hh
    have h2 := okSet_tk h hj
    refine Tl.step ?_
    simp only [impl_BusyPeriod.l1, rd_tk]
    refine Tl.iteT (by omega) (Tl.iteT (by omega) (Tl.iteT (by omega) (Tl.bind (impl_ceil_ev (by omega)) ?_)))
    rw [work_step h h0 h1 hj, wrap_succ hj (by omega)]
    exact hh
theorem impl_busy_ev {l : List Task} (h : okSet l = true) (hld : loadS l ≤ hyp l) : ∀ (n : Nat) (w : Int), BusyOk l w → hyp l - w < n → Tl (fun k => impl_BusyPeriod.l0 k l w) (busyN l n w)
  | 0, w, hw, hn => by have := hw.hi; omega
  | n + 1, w, hw, hn => by
    have hh := hyp_le h
    have h1 := hw.lo
    have h2 := hw.hi
    have h3 := hw.up
    refine Tl.step ?_
    simp only [impl_BusyPeriod.l0]
    refine impl_round_ev h (by omega) (by omega) ?_
    unfold busyN
    by_cases hc : work l w = w
    · rw [if_pos hc]; exact Tl.iteT hc (Tl.ret _)
    · rw [if_neg hc]
      exact Tl.iteF hc (impl_busy_ev h hld n _ (hw.next h hld) (by omega))
/-- The synchronous busy period of a valid set that isn't empty and not overloaded. -/
def busy (l : List Task) : Int := busyN l 30000 1
def BusyPeriod_D (l : List Task) : Int := if okSet l = true ∧ l.length ≠ 0 ∧ loadS l ≤ hyp l then busy l else -1
theorem busyN_range {l : List Task} (h : okSet l = true) (hld : loadS l ≤ hyp l) : ∀ (n : Nat) (w : Int), BusyOk l w → 1 ≤ busyN l n w ∧ busyN l n w ≤ hyp l
  | 0, w, hw => ⟨hw.lo, hw.hi⟩
  | n + 1, w, hw => by
    unfold busyN
    split
    · exact ⟨hw.lo, hw.hi⟩
    · exact busyN_range h hld n _ (hw.next h hld)
theorem impl_BusyPeriod_ev (l : List Task) (hl : l.length ≤ 1048576) : Tl (fun k => impl_BusyPeriod.f k l) (BusyPeriod_D l) := by
  unfold impl_BusyPeriod.f BusyPeriod_D
  have hj : Tl (fun k => impl_BusyPeriod.j0 k l true) (-1) := by
    refine Tl.step ?_
    simp only [impl_BusyPeriod.j0]
    exact Tl.iteT trivial (Tl.ret _)
  refine Tl.bind (impl_SetValid_ev l hl) ?_
  by_cases h : okSet l = true
  · have hh := hyp_le h
    refine Tl.iteT h ?_
    by_cases hn : l.length = 0
    · rw [if_neg (fun h3 => h3.2.1 hn)]; exact Tl.iteT (by omega) hj
    · refine Tl.iteF (by omega) (Tl.bind (impl_load_ev h) (Tl.bind (impl_hyper_ev h) ?_))
      by_cases hc : loadS l > hyp l
      · rw [if_neg (fun h3 => by have := h3.2.2; omega), decide_eq_true hc]; exact hj
      · rw [if_pos ⟨h, hn, by omega⟩, decide_eq_false hc]
        refine Tl.step ?_
        simp only [impl_BusyPeriod.j0]
        exact Tl.iteF (by simp) (impl_busy_ev h (by omega) _ _ (BusyOk.one h hn) (by omega))
  · rw [if_neg (fun h3 => h h3.1)]; exact Tl.iteF h hj
theorem red_gt {n d : Int} (h : 0 ≤ n) (h1 : 1 ≤ d) : (red n d).1 > (red n d).2 ↔ n > d := by
  unfold red
  have hg := gcd_pos2 (a := n) h1
  obtain ⟨a, ha⟩ : ((Int.gcd n d : Nat) : Int) ∣ n := Int.gcd_dvd_left _ _
  obtain ⟨b, hb⟩ : ((Int.gcd n d : Nat) : Int) ∣ d := Int.gcd_dvd_right _ _
  generalize ((Int.gcd n d : Nat) : Int) = g at *
  have e1 : n / g = a := Int.ediv_eq_of_eq_mul_right (by omega) ha
  have e2 : d / g = b := Int.ediv_eq_of_eq_mul_right (by omega) hb
  show n / g > d / g ↔ n > d
  rw [e1, e2, ha, hb]
  constructor
  · intro h2; exact Int.mul_lt_mul_of_pos_left h2 (by omega)
  · intro h2; exact Int.lt_of_mul_lt_mul_left h2 (by omega)
theorem spec_BusyPeriod_ev (l : List Task) (hl : l.length ≤ 1048576) : Tl (fun k => spec_BusyPeriod.f k l) (BusyPeriod_D l) := by
  unfold spec_BusyPeriod.f BusyPeriod_D
  have hj : Tl (fun k => spec_BusyPeriod.j0 k l true) (-1) := by
    refine Tl.step ?_
    simp only [spec_BusyPeriod.j0]
    exact Tl.iteT trivial (Tl.ret _)
  refine Tl.bind (spec_SetValid_ev l hl) ?_
  by_cases h : okSet l = true
  · have hh := hyp_le h
    have hld := load_le h
    refine Tl.iteT h ?_
    by_cases hn : l.length = 0
    · rw [if_neg (fun h3 => h3.2.1 hn), show ((l.length : Int) == 0) = true from by rw [beq_iff_eq]; omega]; exact hj
    · rw [show ((l.length : Int) == 0) = false from by rw [beq_eq_false_iff_ne]; omega]
      refine Tl.step ?_
      simp only [spec_BusyPeriod.j0]
      have hu := spec_Utilization_ev l hl
      unfold Utilization_D at hu
      rw [if_pos h] at hu
      refine Tl.iteF (by simp) (Tl.bind hu ?_)
      by_cases hc : loadS l > hyp l
      · rw [if_neg (fun h3 => by have := h3.2.2; omega)]
        exact Tl.iteT ((red_gt (by omega) (by omega)).2 hc) (Tl.ret _)
      · rw [if_pos ⟨h, hn, by omega⟩]
        refine Tl.iteF (fun h3 => hc ((red_gt (by omega) (by omega)).1 h3)) (Tl.bind (spec_work_ev h (by omega) (by omega)) ?_)
        have h1 := BusyOk.one h hn
        have h2 := h1.next h (by omega)
        have h3 := spec_busy_ev h (by omega) 30000 _ h2 (by have := h2.lo; omega)
        have e : busyN l 30000 (work l 1) = busy l := by
          unfold busy
          by_cases h4 : work l 1 = 1
          · rw [h4]
          · have h5 : busyN l 30000 1 = busyN l 29999 (work l 1) := by
              show (if work l 1 = 1 then (1 : Int) else busyN l 29999 (work l 1)) = _
              rw [if_neg h4]
            rw [h5]
            have same : ∀ (n m : Nat) (w : Int), BusyOk l w → hyp l - w < n → hyp l - w < m → busyN l n w = busyN l m w := by
              intro n
              induction n with
              | zero => intro m w hw hn; have := hw.hi; omega
              | succ n ih =>
                intro m w hw hn hm
                have := hw.hi
                have := hw.up
                obtain ⟨m, rfl⟩ : ∃ q, m = q + 1 := ⟨m - 1, by omega⟩
                unfold busyN
                by_cases hc : work l w = w
                · rw [if_pos hc, if_pos hc]
                · rw [if_neg hc, if_neg hc]
                  exact ih m _ (hw.next h (by omega)) (by omega) (by omega)
            exact same _ _ _ h2 (by have := h2.lo; omega) (by have := h2.lo; omega)
        rw [← e]
        exact h3
  · rw [if_neg (fun h3 => h h3.1)]; exact Tl.iteF h hj
end Go.Proofs.Ytcpgejgppiclmaa.Print
