/- What the program and the reference compute, and that both agree. No condition. -/
import Derived.Test.YtappbijjpcaocaaPO
import Derived.Test.YtappbijjpcaocaaZFnExactDeadlineMonotonicP1
import Derived.RowKit
import Derived.WalkKit
import Derived.Test.YtappbijjpcaocaaZFnExactDeadlineMonotonicP0
namespace Go.Proofs.Ytappbijjpcaocaa.Print
open Go.RowKit Go.Proofs.YtappbijjpcaocaaW.PrintWords Go.Proofs.YtappbijjpcaocaaW.PrintLast Go.Proofs.YtappbijjpcaocaaW.PrintMore
attribute [local go_sem] max2_int min2_int max_two min_two max_three min_three max_four min_four
set_option linter.unusedVariables false
set_option linter.unusedSimpArgs false
open Go.Proofs.Ytappbijjpcaocaa.Opens
def PureFnExactDeadlineMonotonic : Prop := ∀ (x0 : List (S56)), (wfL wf56) x0 → ∃ k, laws_FnExactDeadlineMonotonic.f k x0 = some true
end Go.Proofs.Ytappbijjpcaocaa.Print
namespace Go.Proofs.Ytappbijjpcaocaa.Evs
open Go.RowKit
set_option linter.unusedSimpArgs false
set_option linter.unusedVariables false
def Tl {α : Type} (g : Nat → Option α) (r : α) : Prop := ∃ k0, ∀ k, k0 ≤ k → g k = some r
theorem Tl.ret {α : Type} (r : α) : Tl (fun _ => some r) r := ⟨0, fun _ _ => rfl⟩
theorem Tl.of_eq {α : Type} {g : Nat → Option α} {r : α} (h : ∀ k, g k = some r) : Tl g r := ⟨0, fun k _ => h k⟩
theorem Tl.step {α : Type} {g : Nat → Option α} {r : α} (h : Tl (fun k => g (k + 1)) r) : Tl g r := by
 obtain ⟨k0, hk⟩ := h
 refine ⟨k0 + 1, fun k hle => ?_⟩
 obtain ⟨m, rfl⟩ : ∃ m, k = m + 1 := ⟨k - 1, by omega⟩
 exact hk m (by omega)
theorem Tl.bind {α β : Type} {g : Nat → Option α} {a : α} {f : α → Nat → Option β} {r : β} (h : Tl g a) (h2 : Tl (f a) r) : Tl (fun k => (g k).bind fun x => f x k) r := by
 obtain ⟨k0, hk⟩ := h
 obtain ⟨k1, hk1⟩ := h2
 refine ⟨max k0 k1, fun k hle => ?_⟩
 show (g k).bind (fun x => f x k) = some r
 rw [hk k (by omega), Option.bind_some]
 exact hk1 k (by omega)
theorem Tl.once {α : Type} {g : Nat → Option α} {r : α} (h : Tl g r) : ∃ k, g k = some r := by
 obtain ⟨k0, hk⟩ := h
 exact ⟨k0, hk k0 (Nat.le_refl _)⟩
theorem Tl.cast {α : Type} {g : Nat → Option α} {r r' : α} (h : Tl g r) (e : r = r') : Tl g r' := e ▸ h
theorem Tl.iteT {α : Type} {c : Prop} [Decidable c] {g g' : Nat → Option α} {r : α} (hc : c) (h : Tl g r) : Tl (fun k => if c then g k else g' k) r := by simpa only [if_pos hc] using h
theorem Tl.iteF {α : Type} {c : Prop} [Decidable c] {g g' : Nat → Option α} {r : α} (hc : ¬ c) (h : Tl g' r) : Tl (fun k => if c then g k else g' k) r := by simpa only [if_neg hc] using h
theorem down {Q : Nat → Prop} (n : Nat) (he : Q n) (hs : ∀ j, j < n → Q (j + 1) → Q j) : Q 0 := by
 induction n with
 | zero => exact he
 | succ n ih => exact ih (hs n (by omega) he) (fun j hj => hs j (by omega))
theorem downFrom {Q : Nat → Prop} {m n : Nat} (hm : m ≤ n) (he : Q n) (hs : ∀ j, m ≤ j → j < n → Q (j + 1) → Q j) : Q m := by
 obtain ⟨d, rfl⟩ : ∃ d, n = m + d := ⟨n - m, by omega⟩
 induction d with
 | zero => exact he
 | succ d ih => exact ih (by omega) (hs (m + d) (by omega) (by omega) he) (fun j h1 h2 => hs j h1 (by omega))
theorem Tl.all {F : Nat → Int → Option Bool} {n : Nat} {P : Nat → Bool} {fin : Bool}
  (ht : ∀ j, j < n → P j = true → ∀ r, Tl (fun k => F k ((j + 1 : Nat) : Int)) r → Tl (fun k => F k (j : Int)) r)
  (hf : ∀ j, j < n → P j = false → Tl (fun k => F k (j : Int)) false) (he : Tl (fun k => F k (n : Int)) fin) :
  Tl (fun k => F k 0) ((List.range n).all P && fin) := by
 by_cases hall : ∀ j, j < n → P j = true
 ·have h1 : ((List.range n).all P) = true := by simpa using hall
  rw [h1, Bool.true_and]
  exact down (Q := fun j => Tl (fun k => F k (j : Int)) fin) n he (fun j hj h => ht j hj (hall j hj) _ h)
 ·have h1 : ((List.range n).all P) = false := by simpa using hall
  rw [h1, Bool.false_and]
  clear h1
  have key : ∀ m, m ≤ n → (∃ j, j < m ∧ P j = false) → Tl (fun k => F k 0) false := by
   intro m
   induction m with
   | zero => rintro _ ⟨j, hj, _⟩; omega
   | succ m ih =>
    rintro hm ⟨j, hj, hp⟩
    by_cases hlow : ∃ j, j < m ∧ P j = false
    ·exact ih (by omega) hlow
    ·have hjm : j = m := by
      rcases Nat.lt_or_ge j m with h | h
      ·exact absurd ⟨j, h, hp⟩ hlow
      ·omega
     subst hjm
     refine down (Q := fun j => Tl (fun k => F k (j : Int)) false) j (hf j (by omega) hp) (fun i hi h => ht i (by omega) ?_ _ h)
     cases hpi : P i
     ·exact absurd ⟨i, hi, hpi⟩ hlow
     ·rfl
  refine key n (Nat.le_refl _) ?_
  apply Classical.byContradiction
  intro hno
  refine hall (fun j hj => ?_)
  cases hp : P j
  ·exact absurd ⟨j, hj, hp⟩ hno
  ·rfl
theorem wrap_id {n : Int} (h1 : -9223372036854775808 ≤ n) (h2 : n ≤ 9223372036854775807) : wrap64 n = n := by unfold wrap64; omega
theorem wrap_succ {j n : Nat} (h : j < n) (hn : n ≤ 9223372036854775807) : wrap64 ((j : Int) + 1) = ((j + 1 : Nat) : Int) := by unfold wrap64; omega
theorem wrap_pred {j n : Nat} (h : j < n) (h0 : 0 < j) (hn : n ≤ 9223372036854775807) : wrap64 ((j : Int) - 1) = ((j - 1 : Nat) : Int) := by unfold wrap64; omega
end Go.Proofs.Ytappbijjpcaocaa.Evs
namespace Go.Proofs.Ytappbijjpcaocaa.Evs
theorem fill_zero {α : Type} (xs : List α) (z : α) : xs.take 0 ++ List.replicate (xs.length - 0) z = List.replicate xs.length z := by simp
theorem fill_set {α : Type} (xs : List α) (z : α) {j : Nat} (hj : j < xs.length) (x : α) (hx : x = xs.getD j z) :
  (xs.take j ++ List.replicate (xs.length - j) z).set j x = xs.take (j + 1) ++ List.replicate (xs.length - (j + 1)) z := by
 have h1 : (xs.take j).length = j := by simp; omega
 rw [List.set_append_right _ _ (by omega), h1, Nat.sub_self]
 obtain ⟨m, hm⟩ : ∃ m, xs.length - j = m + 1 := ⟨xs.length - j - 1, by omega⟩
 rw [hm, List.replicate_succ, List.set_cons_zero, List.take_succ_eq_append_getElem hj, List.append_assoc, hx]
 have h2 : xs.length - (j + 1) = m := by omega
 rw [h2]
 simp [List.getD_eq_getElem?_getD, hj]
theorem fill_len {α : Type} (xs : List α) (z : α) {j : Nat} (hj : j ≤ xs.length) : (xs.take j ++ List.replicate (xs.length - j) z).length = xs.length := by simp; omega
theorem fill_end {α : Type} (xs : List α) (z : α) : xs.take xs.length ++ List.replicate (xs.length - xs.length) z = xs := by simp
theorem getD_map {α β : Type} (f : α → β) (l : List α) (j : Nat) (z : α) (z' : β) (hj : j < l.length) : (l.map f).getD j z' = f (l.getD j z) := by simp [List.getD_eq_getElem?_getD, hj]
theorem all_range {α : Type} (l : List α) (z : α) (p : α → Bool) : (List.range l.length).all (fun j => p (l.getD j z)) = l.all p := by
 rw [Bool.eq_iff_iff, List.all_eq_true, List.all_eq_true]
 constructor
 ·intro h x hx
  obtain ⟨i, hi, rfl⟩ := List.getElem_of_mem hx
  have := h i (by simpa using hi)
  simpa [List.getD_eq_getElem?_getD, hi] using this
 ·intro h j hj
  have hj' : j < l.length := by simpa using hj
  have := h l[j] (List.getElem_mem hj')
  simpa [List.getD_eq_getElem?_getD, hj'] using this
end Go.Proofs.Ytappbijjpcaocaa.Evs
namespace Go.Proofs.Ytappbijjpcaocaa.Print
open Go.RowKit Go.Proofs.YtappbijjpcaocaaW.PrintWords Go.Proofs.Ytappbijjpcaocaa.Evs Go.Proofs.Ytappbijjpcaocaa.Opens
set_option linter.unusedSimpArgs false
abbrev LTask := S56
abbrev Task := S54
def cvTask (x : LTask) : Task := ⟨x.f0, x.f1, x.f2⟩
theorem toTaskS_ev (l : List LTask) (hl : l.length ≤ 1048576) : Tl (fun k => laws_toTaskS.f k l) (l.map cvTask) := by
 unfold laws_toTaskS.f
 have c1 := eq_true (show 0 ≤ (l.length : Int) by omega)
 have c2 := eq_true (show l.length ≤ 11728124029610 by omega)
 simp only [c1, c2, if_true, Int.toNat_natCast]
 have hlen : (l.map cvTask).length = l.length := by simp
 have key := down (Q := fun j => Tl (fun k => laws_toTaskS.l0 k l ((l.map cvTask).take j ++ List.replicate ((l.map cvTask).length - j) z54) (j : Int)) (l.map cvTask)) l.length ?_ ?_
 ·rw [fill_zero, hlen] at key; exact key
 ·refine Tl.step ?_
  have c3 := eq_false (show ¬ ((l.length : Int) < (l.length : Int)) by omega)
  rw [← hlen, fill_end]
  simp only [hlen]
  simp only [laws_toTaskS.l0, c3, if_false]
  exact Tl.ret _
 ·intro j hj h
  refine Tl.step ?_
  have c3 := eq_true (show (j : Int) < (l.length : Int) by omega)
  have c4 := eq_true (show 0 ≤ (j : Int) by omega)
  have c5 := eq_true (show (j : Int) < (((l.map cvTask).take j ++ List.replicate ((l.map cvTask).length - j) z54).length : Int) by rw [fill_len _ _ (by omega)]; omega)
  simp only [laws_toTaskS.l0, c3, c4, c5, if_true, laws_toTask.f, Option.bind_some, Int.toNat_natCast]
  rw [fill_set _ _ (by omega) _ (by rw [getD_map cvTask l j z56 _ hj]; rfl), wrap_succ hj (by omega)]
  exact h
theorem eqTask_self (x : Task) : laws_eqTask.f x.f0 x.f1 x.f2 x.f0 x.f1 x.f2 = some true := by simp [laws_eqTask.f]
theorem eqTaskS_ev (l : List Task) (hl : l.length ≤ 1048576) : Tl (fun k => laws_eqTaskS.f k l l) true := by
 unfold laws_eqTaskS.f
 simp only [if_true]
 refine down (Q := fun j => Tl (fun k => laws_eqTaskS.l0 k l l (j : Int)) true) l.length ?_ ?_
 ·refine Tl.step ?_
  have c3 := eq_false (show ¬ ((l.length : Int) < (l.length : Int)) by omega)
  simp only [laws_eqTaskS.l0, c3, if_false]
  exact Tl.ret _
 ·intro j hj h
  refine Tl.step ?_
  have c3 := eq_true (show (j : Int) < (l.length : Int) by omega)
  have c4 := eq_true (show 0 ≤ (j : Int) by omega)
  simp only [laws_eqTaskS.l0, c3, c4, if_true, eqTask_self, Option.bind_some]
  rw [wrap_succ hj (by omega)]
  exact h
theorem szTaskS_f (l : List LTask) (a : Int) (h0 : 0 ≤ a) (h1 : a ≤ 1048576) (hl : l.length ≤ 9223372036854775807) : laws_szTaskS.f l a = some (if a < l.length then -1 else a - l.length) := by
 unfold laws_szTaskS.f
 rw [wrap_id (by omega) (by omega)]
 by_cases h : a < l.length
 ·rw [if_pos (by omega), if_pos h]
 ·rw [if_neg (by omega), if_neg h]
end Go.Proofs.Ytappbijjpcaocaa.Print
namespace Go.Proofs.Ytappbijjpcaocaa.Print
open Go.RowKit Go.Proofs.YtappbijjpcaocaaW.PrintWords Go.Proofs.Ytappbijjpcaocaa.Evs Go.Proofs.Ytappbijjpcaocaa.Opens
set_option linter.unusedSimpArgs false
set_option linter.unusedVariables false
theorem spec_l1In_f (a b c : Int) : spec_l1In.f a b c = some (decide (b ≤ a ∧ a ≤ c)) := by
 unfold spec_l1In.f
 by_cases h : a ≥ b
 ·have h' : b ≤ a := h
  simp [h, h']
 ·have h' : ¬ b ≤ a := h
  simp [h, h']
theorem spec_TaskValid_f (x : Task) : spec_TaskValid.f x.f0 x.f1 x.f2 = some (okTask x) := by
 unfold spec_TaskValid.f okTask
 simp only [spec_l1In_f, Option.bind_some, decide_eq_true_eq]
 split
 ·split
  ·congr 1; rw [Bool.eq_iff_iff]; simp only [decide_eq_true_eq, Bool.false_eq_true, false_iff]; omega
  ·congr 1; rw [Bool.eq_iff_iff]; simp only [decide_eq_true_eq, Bool.false_eq_true, false_iff]; omega
 ·congr 1; rw [Bool.eq_iff_iff]; simp only [decide_eq_true_eq, Bool.false_eq_true, false_iff]; omega
def okSet (l : List Task) : Bool := decide (l.length ≤ 5) && l.all okTask
theorem impl_SetValid_f (l : List Task) : impl_SetValid.f l = some (okSet l) := rfl
theorem impl_SetValid_ev (l : List Task) (_ : l.length ≤ 1048576) : Tl (fun _ => impl_SetValid.f l) (okSet l) := Tl.of_eq fun _ => impl_SetValid_f l
theorem spec_SetValid_ev (l : List Task) (hl : l.length ≤ 1048576) : Tl (fun k => spec_SetValid.f k l) (okSet l) := by
 have key := Tl.all (F := fun k i => spec_SetValid.l0 k l i) (n := l.length) (P := fun j => okTask (l.getD j z54)) (fin := decide (l.length ≤ 5)) ?_ ?_ ?_
 ·rw [all_range] at key
  unfold okSet
  rw [Bool.and_comm]
  exact key
 ·intro j hj hp r h
  refine Tl.step ?_
  have c3 := eq_true (show (j : Int) < (l.length : Int) by omega)
  have c4 := eq_true (show 0 ≤ (j : Int) by omega)
  have c5 : spec_TaskValid.f (rd_T54 l (j : Int)).f0 (rd_T54 l (j : Int)).f1 (rd_T54 l (j : Int)).f2 = some true := by rw [spec_TaskValid_f]; exact congrArg some hp
  simp only [spec_SetValid.l0, c3, c4, c5, if_true, Option.bind_some]
  rw [wrap_succ hj (by omega)]
  exact h
 ·intro j hj hp
  refine Tl.step ?_
  have c3 := eq_true (show (j : Int) < (l.length : Int) by omega)
  have c4 := eq_true (show 0 ≤ (j : Int) by omega)
  have c5 : spec_TaskValid.f (rd_T54 l (j : Int)).f0 (rd_T54 l (j : Int)).f1 (rd_T54 l (j : Int)).f2 = some false := by rw [spec_TaskValid_f]; exact congrArg some hp
  simp only [spec_SetValid.l0, c3, c4, c5, if_true, Option.bind_some, Bool.false_eq_true, if_false]
  exact Tl.ret _
 ·refine Tl.step ?_
  have c3 := eq_false (show ¬ ((l.length : Int) < (l.length : Int)) by omega)
  simp only [spec_SetValid.l0, c3, if_false]
  have : decide ((l.length : Int) ≤ 5) = decide (l.length ≤ 5) := by rw [decide_eq_decide]; omega
  rw [this]
  exact Tl.ret _
theorem tmod_pos {a b : Int} (ha : 0 ≤ a) (_hb : 0 < b) : Int.tmod a b = a % b := Int.tmod_eq_emod_of_nonneg ha
theorem tdiv_pos {a b : Int} (ha : 0 ≤ a) : Int.tdiv a b = a / b := Int.tdiv_eq_ediv_of_nonneg ha
def tk (l : List Task) (j : Nat) : Task := l.getD j z54
theorem rd_tk (l : List Task) (j : Nat) : rd_T54 l (j : Int) = tk l j := rfl
theorem okSet_len {l : List Task} (h : okSet l = true) : l.length ≤ 5 := by unfold okSet at h; simp at h; exact h.1
theorem okSet_tk {l : List Task} (h : okSet l = true) {j : Nat} (hj : j < l.length) : 1 ≤ (tk l j).f0 ∧ (tk l j).f0 ≤ 8 ∧ (tk l j).f0 ≤ (tk l j).f1 ∧ (tk l j).f1 ≤ (tk l j).f2 ∧ (tk l j).f2 ≤ 12 := by
 unfold okSet at h
 rw [Bool.and_eq_true, List.all_eq_true] at h
 have h1 : tk l j ∈ l := by unfold tk; simp [List.getD_eq_getElem?_getD, hj]
 have := h.2 _ h1
 unfold okTask at this
 exact of_decide_eq_true this
end Go.Proofs.Ytappbijjpcaocaa.Print
namespace Go.Proofs.Ytappbijjpcaocaa.Print
open Go.RowKit Go.Proofs.YtappbijjpcaocaaW.PrintWords Go.Proofs.Ytappbijjpcaocaa.Evs Go.Proofs.Ytappbijjpcaocaa.Opens Go.Proofs.YtappbijjpcaocaaW.PrintMore
set_option linter.unusedSimpArgs false
set_option linter.unusedVariables false
def dmAt (s : List Task) (d j : Nat) : List Int := ((List.range j).filter (fun i => decide (dlT s i = (d : Int) + 1))).map (fun (i : Nat) => (i : Int))
def dmUp (s : List Task) (e : Nat) : List Int := (List.range e).flatMap (fun (d : Nat) => dmAt s d s.length)
theorem dmAt_succ (s : List Task) (d j : Nat) : dmAt s d (j + 1) = if dlT s j = (d : Int) + 1 then dmAt s d j ++ [(j : Int)] else dmAt s d j := by
 unfold dmAt
 rw [List.range_succ, List.filter_append, List.map_append]
 split
 ·rename_i h; simp [h]
 ·rename_i h; simp [h]
theorem dmAt_len (s : List Task) (d : Nat) : ∀ j, (dmAt s d j).length ≤ j
 | 0 => by simp [dmAt]
 | j + 1 => by
  have := dmAt_len s d j
  rw [dmAt_succ]
  split
  ·simp; omega
  ·omega
theorem dmUp_succ (s : List Task) (e : Nat) : dmUp s (e + 1) = dmUp s e ++ dmAt s e s.length := by
 unfold dmUp
 rw [List.range_succ, List.flatMap_append]
 simp
theorem dmUp_len (s : List Task) : ∀ e, (dmUp s e).length ≤ e * s.length
 | 0 => by simp [dmUp]
 | e + 1 => by
  have h1 := dmUp_len s e
  have h2 := dmAt_len s e s.length
  rw [dmUp_succ, List.length_append, Nat.add_mul]
  omega
theorem dm_flat {n : Nat} (dl : Nat → Int) : ∀ (ds : List Nat), (ds.flatMap (fun (d : Nat) => (finL n).filter (fun y => decide (dl y.val = (d : Int) + 1)))).map (fun i => (i.val : Int)) = ds.flatMap (fun (d : Nat) => ((List.range n).filter (fun i => decide (dl i = (d : Int) + 1))).map (fun (i : Nat) => (i : Int)))
 | [] => rfl
 | d :: ds => by
  rw [List.flatMap_cons, List.flatMap_cons, List.map_append, dm_flat dl ds]
  congr 1
  rw [← finL_val n, List.filter_map, List.map_map]
  rfl
theorem dmF_up (s : List Task) : dmF s = dmUp s 12 := by
 unfold dmF bucketP dmUp dmAt
 exact dm_flat (n := s.length) (dlT s) (List.range 12)
theorem spec_dm_row {s : List Task} (hs : s.length ≤ 5) (d : Nat) (hd : d < 12) {r : List Int} (hh : Tl (fun k => spec_DeadlineMonotonic.l0 k s (dmUp s (d + 1)) ((d : Int) + 2)) r) : Tl (fun k => spec_DeadlineMonotonic.l1 k s (dmUp s d) ((d : Int) + 1) 0) r := by
 have hu := dmUp_len s d
 have hm : d * s.length ≤ 12 * 5 := Nat.mul_le_mul (by omega) hs
 have h0 : dmUp s d = dmUp s d ++ dmAt s d 0 := by simp [dmAt]
 rw [h0]
 refine down (Q := fun j => Tl (fun k => spec_DeadlineMonotonic.l1 k s (dmUp s d ++ dmAt s d j) ((d : Int) + 1) (j : Int)) r) s.length ?_ ?_
 ·refine Tl.step ?_
  simp only [spec_DeadlineMonotonic.l1]
  refine Tl.iteF (by omega) ?_
  rw [← dmUp_succ, wrap_id (n := (d : Int) + 1 + 1) (by omega) (by omega)]
  rw [show (d : Int) + 1 + 1 = (d : Int) + 2 by omega]
  exact hh
 ·intro j hj h
  have hl := dmAt_len s d j
  refine Tl.step ?_
  simp only [spec_DeadlineMonotonic.l1]
  refine Tl.iteT (by omega) (Tl.iteT (by omega) ?_)
  rw [wrap_succ hj (by omega)]
  have hrd : (rd_T54 s (j : Int)).f1 = dlT s j := rfl
  rw [hrd]
  rw [dmAt_succ] at h
  by_cases hc : dlT s j = (d : Int) + 1
  ·rw [if_pos hc, ← List.append_assoc] at h
   exact Tl.iteT hc (Tl.iteT (by rw [List.length_append]; omega) h)
  ·rw [if_neg hc] at h
   exact Tl.iteF hc h
theorem spec_dm_ev {s : List Task} (hs : s.length ≤ 5) : Tl (fun k => spec_DeadlineMonotonic.l0 k s [] 1) (dmUp s 12) := by
 have h0 : dmUp s 0 = [] := rfl
 rw [← h0]
 refine down (Q := fun e => Tl (fun k => spec_DeadlineMonotonic.l0 k s (dmUp s e) ((e : Int) + 1)) (dmUp s 12)) 12 ?_ ?_
 ·refine Tl.step ?_
  simp only [spec_DeadlineMonotonic.l0]
  exact Tl.iteF (by omega) (Tl.ret _)
 ·intro e he h
  refine Tl.step ?_
  simp only [spec_DeadlineMonotonic.l0]
  refine Tl.iteT (by omega) (spec_dm_row hs e he ?_)
  rw [show ((e + 1 : Nat) : Int) + 1 = (e : Int) + 2 by omega] at h
  exact h
def deadM (s : List Task) : List Int := if okSet s = true then dmUp s 12 else []
theorem deadM_len (s : List Task) : (deadM s).length ≤ 60 := by
 unfold deadM
 split
 ·rename_i h
  have h1 := dmUp_len s 12
  have h2 := okSet_len h
  omega
 ·simp
theorem spec_DeadlineMonotonic_ev (s : List Task) (hs : s.length ≤ 1048576) : Tl (fun k => spec_DeadlineMonotonic.f k s) (deadM s) := by
 unfold spec_DeadlineMonotonic.f deadM
 refine Tl.bind (Tl.ret _) (Tl.bind (spec_SetValid_ev s hs) ?_)
 by_cases h : okSet s = true
 ·rw [if_pos h]; exact Tl.iteT h (spec_dm_ev (okSet_len h))
 ·rw [if_neg h]; exact Tl.iteF h (Tl.ret _)
theorem impl_DeadlineMonotonic_ev (s : List Task) (hs : s.length ≤ 1048576) : Tl (fun _ => impl_DeadlineMonotonic.f s) (deadM s) := by
 unfold impl_DeadlineMonotonic.f deadM
 refine Tl.bind (impl_SetValid_ev s hs) ?_
 by_cases h : okSet s = true
 ·have hok : dmOk s = true := by
   unfold dmOk
   rw [Bool.and_eq_true, List.all_eq_true]
   refine ⟨decide_eq_true (by have := okSet_len h; omega), fun i hi => decide_eq_true ?_⟩
   have ht := okSet_tk h (List.mem_range.1 hi)
   have e : dlT s i = (tk s i).f1 := rfl
   rw [e]
   omega
  refine Tl.cast (Tl.iteT h (Tl.iteT hok (Tl.ret _))) ?_
  rw [if_pos h, dmF_up]
 ·refine Tl.cast (Tl.iteF h (Tl.ret _)) ?_
  rw [if_neg h]
end Go.Proofs.Ytappbijjpcaocaa.Print
namespace Go.Proofs.Ytappbijjpcaocaa.Print
open Go.RowKit Go.Proofs.YtappbijjpcaocaaW.PrintWords Go.Proofs.Ytappbijjpcaocaa.Evs Go.Proofs.Ytappbijjpcaocaa.Opens
set_option linter.unusedSimpArgs false
set_option linter.unusedVariables false
theorem wrap3 {m : Int} (h0 : 0 ≤ m) (h1 : m ≤ 100000000) : wrap64 ((wrap64 ((wrap64 (m + 1)) + 1)) + 1) = m + 3 := by
 rw [wrap_id (n := m + 1) (by omega) (by omega), wrap_id (n := m + 1 + 1) (by omega) (by omega), wrap_id (n := m + 1 + 1 + 1) (by omega) (by omega)]
 omega
theorem markTaskS_at : ∀ (d j : Nat) (l : List Task) (m : Int), j + d = l.length → 0 ≤ m → m + 3 * d ≤ 100000000 → l.length ≤ 1048576 → ∃ l', Tl (fun k => laws_markTaskS.l0 k l m (j : Int)) (m + 3 * d, l')
 | 0, j, l, m, e, h0, h1, h2 => by
  refine ⟨l, Tl.step ?_⟩
  simp only [laws_markTaskS.l0]
  exact Tl.iteF (by omega) (Tl.cast (Tl.ret _) (by rw [show m + 3 * ((0 : Nat) : Int) = m by omega]))
 | d + 1, j, l, m, e, h0, h1, h2 => by
  have key : ∀ x : List Task, x.length = l.length → ∃ l', Tl (fun k => laws_markTaskS.l0 k x (m + 3) ((j + 1 : Nat) : Int)) (m + 3 + 3 * d, l') := fun x hx => markTaskS_at d (j + 1) x (m + 3) (by omega) (by omega) (by omega) (by omega)
  obtain ⟨l', hl'⟩ := key _ (show (((l.set j ⟨m, (tk l j).f1, (tk l j).f2⟩).set j ⟨(tk (l.set j ⟨m, (tk l j).f1, (tk l j).f2⟩) j).f0, wrap64 (m + 1), (tk (l.set j ⟨m, (tk l j).f1, (tk l j).f2⟩) j).f2⟩).set j ⟨(tk ((l.set j ⟨m, (tk l j).f1, (tk l j).f2⟩).set j ⟨(tk (l.set j ⟨m, (tk l j).f1, (tk l j).f2⟩) j).f0, wrap64 (m + 1), (tk (l.set j ⟨m, (tk l j).f1, (tk l j).f2⟩) j).f2⟩) j).f0, (tk ((l.set j ⟨m, (tk l j).f1, (tk l j).f2⟩).set j ⟨(tk (l.set j ⟨m, (tk l j).f1, (tk l j).f2⟩) j).f0, wrap64 (m + 1), (tk (l.set j ⟨m, (tk l j).f1, (tk l j).f2⟩) j).f2⟩) j).f1, wrap64 ((wrap64 (m + 1)) + 1)⟩).length = l.length by simp only [List.length_set])
  refine ⟨l', Tl.step ?_⟩
  simp only [laws_markTaskS.l0, rd_tk, Int.toNat_natCast, Option.bind_some]
  rw [wrap3 h0 (by omega), wrap_succ (n := l.length) (by omega) (by omega)]
  exact Tl.iteT (by omega) (Tl.iteT (by omega) (Tl.cast hl' (by rw [show m + 3 + 3 * (d : Int) = m + 3 * ((d + 1 : Nat) : Int) by omega])))
theorem markTaskS_ev (l : List Task) (m : Int) (h0 : 0 ≤ m) (h1 : m ≤ 10000000) (hl : l.length ≤ 1048576) : ∃ l', Tl (fun k => laws_markTaskS.f k l m) (m + 3 * l.length, l') :=
 markTaskS_at l.length 0 l m (by omega) h0 (by omega) hl
end Go.Proofs.Ytappbijjpcaocaa.Print
namespace Go.Proofs.Ytappbijjpcaocaa.Print
open Go.RowKit Go.Proofs.YtappbijjpcaocaaW.PrintWords Go.Proofs.Ytappbijjpcaocaa.Evs Go.Proofs.Ytappbijjpcaocaa.Opens
set_option linter.unusedSimpArgs false
theorem eqIntS_ev (l : List Int) (hl : l.length ≤ 1048576) : Tl (fun k => laws_eqIntS.f k l l) true := by
 unfold laws_eqIntS.f
 simp only [if_true]
 refine down (Q := fun j => Tl (fun k => laws_eqIntS.l0 k l l (j : Int)) true) l.length ?_ ?_
 ·refine Tl.step ?_
  have c3 := eq_false (show ¬ ((l.length : Int) < (l.length : Int)) by omega)
  simp only [laws_eqIntS.l0, c3, if_false]
  exact Tl.ret _
 ·intro j hj h
  refine Tl.step ?_
  have c3 := eq_true (show (j : Int) < (l.length : Int) by omega)
  have c4 := eq_true (show 0 ≤ (j : Int) by omega)
  simp only [laws_eqIntS.l0, c3, c4, if_true]
  rw [wrap_succ hj (by omega)]
  exact h
end Go.Proofs.Ytappbijjpcaocaa.Print
namespace Go.Proofs.Ytappbijjpcaocaa.Print
open Go.RowKit Go.Proofs.YtappbijjpcaocaaW.PrintWords Go.Proofs.Ytappbijjpcaocaa.Evs Go.Proofs.Ytappbijjpcaocaa.Opens
set_option linter.unusedSimpArgs false
set_option linter.unusedVariables false
structure Marked (l : List Int) (m : Int) (n : Nat) : Prop where
 len : l.length = n
 at_ : ∀ i, i < n → l.getD i 0 = m + i
theorem markIntS_at : ∀ (d j : Nat) (l : List Int) (m : Int), j + d = l.length → 0 ≤ m → m + l.length ≤ 100000000 → (∀ i, i < j → l.getD i 0 = m + i) → ∃ l', Marked l' m l.length ∧ Tl (fun k => laws_markIntS.l0 k l (m + j) (j : Int)) (m + l.length, l')
 | 0, j, l, m, e, h0, h1, hm => by
  refine ⟨l, ⟨rfl, fun i hi => hm i (by omega)⟩, Tl.step ?_⟩
  simp only [laws_markIntS.l0]
  exact Tl.iteF (by omega) (Tl.cast (Tl.ret _) (by rw [show m + (j : Int) = m + (l.length : Int) by omega]))
 | d + 1, j, l, m, e, h0, h1, hm => by
  obtain ⟨l', h2, h3⟩ := markIntS_at d (j + 1) (l.set j (m + j)) m (by rw [List.length_set]; omega) h0 (by rw [List.length_set]; exact h1) (fun i hi => by
   by_cases hij : i = j
   ·subst hij
    simp [List.getD_eq_getElem?_getD, List.getElem?_set, show i < l.length by omega]
   ·have := hm i (by omega)
    rw [← this]
    simp [List.getD_eq_getElem?_getD, List.getElem?_set, show ¬ j = i by omega])
  rw [List.length_set] at h2 h3
  refine ⟨l', h2, Tl.step ?_⟩
  simp only [laws_markIntS.l0, Int.toNat_natCast]
  rw [wrap_id (n := m + (j : Int) + 1) (by omega) (by omega), wrap_succ (n := l.length) (by omega) (by omega), show m + (j : Int) + 1 = m + ((j + 1 : Nat) : Int) by omega]
  exact Tl.iteT (by omega) (Tl.iteT (by omega) h3)
theorem markIntS_ev (l : List Int) (m : Int) (h0 : 0 ≤ m) (h1 : m ≤ 10000000) (hl : l.length ≤ 1048576) : ∃ l', Marked l' m l.length ∧ Tl (fun k => laws_markIntS.f k l m) (m + l.length, l') := by
 obtain ⟨l', h2, h3⟩ := markIntS_at l.length 0 l m (by omega) h0 (by omega) (fun i hi => by omega)
 rw [show m + ((0 : Nat) : Int) = m by omega] at h3
 exact ⟨l', h2, h3⟩
theorem heldIntS_ev {l : List Int} {m : Int} {n : Nat} (h : Marked l m n) (h0 : 0 ≤ m) (h1 : m ≤ 10000000) (hl : n ≤ 1048576) : Tl (fun k => laws_heldIntS.f k l m) (m + n) := by
 unfold laws_heldIntS.f
 have he := h.len
 have key := down (Q := fun j => Tl (fun k => laws_heldIntS.l0 k l (m + j) (j : Int)) (m + n)) n ?_ ?_
 ·rw [show m + ((0 : Nat) : Int) = m by omega] at key; exact key
 ·refine Tl.step ?_
  simp only [laws_heldIntS.l0]
  exact Tl.iteF (by omega) (Tl.ret _)
 ·intro j hj hh
  refine Tl.step ?_
  have ha : rd l (j : Int) = m + j := h.at_ j hj
  simp only [laws_heldIntS.l0, ha]
  rw [wrap_id (n := m + (j : Int) + 1) (by omega) (by omega), wrap_succ hj (by omega), show m + (j : Int) + 1 = m + ((j + 1 : Nat) : Int) by omega]
  exact Tl.iteT (by omega) (Tl.iteT (by omega) (Tl.iteT (by trivial) hh))
set_option maxHeartbeats 1000000 in
theorem FnExactDeadlineMonotonic_pure : PureFnExactDeadlineMonotonic := by
 intro x0 w0
 apply Tl.once
 unfold laws_FnExactDeadlineMonotonic.f
 refine Tl.bind (Tl.of_eq fun _ => szTaskS_f x0 _ (by omega) (by omega) w0.1) ?_
 by_cases g0 : (1048576 : Int) < x0.length
 ·rw [if_pos g0]; exact Tl.iteT (by omega) (Tl.ret _)
 rw [if_neg g0]
 refine Tl.iteF (by omega) ?_
 have hl0 : x0.length ≤ 1048576 := by omega
 have hm0 : (x0.map cvTask).length ≤ 1048576 := by simpa using hl0
 have HS := spec_DeadlineMonotonic_ev (x0.map cvTask) hm0
 have HI := impl_DeadlineMonotonic_ev (x0.map cvTask) hm0
 have hd := deadM_len (x0.map cvTask)
 generalize deadM (x0.map cvTask) = D at HS HI hd
 have HE := eqIntS_ev D (by omega)
 obtain ⟨t1, m1⟩ := markTaskS_ev (x0.map cvTask) 1 (by omega) (by omega) hm0
 obtain ⟨t3, mk, m3⟩ := markIntS_ev D 1 (by omega) (by omega) (by omega)
 have m4 := heldIntS_ev mk (by omega) (by omega) (by omega)
 repeat (first
  | exact Tl.ret _
  | with_reducible refine Tl.bind (toTaskS_ev x0 hl0) ?_
  | with_reducible refine Tl.bind (eqTaskS_ev (x0.map cvTask) hm0) ?_
  | with_reducible refine Tl.bind HE ?_
  | with_reducible refine Tl.bind m1 ?_
  | with_reducible refine Tl.bind m3 ?_
  | with_reducible refine Tl.bind m4 ?_
  | with_reducible refine Tl.iteF (by omega) ?_
  | with_reducible refine Tl.bind HS ?_
  | with_reducible refine Tl.bind HI ?_
  | with_reducible refine Tl.iteT rfl ?_
  | with_reducible refine Tl.iteF (by simp) ?_
  | dsimp only
  | (refine Tl.step ?_; simp only [laws_FnExactDeadlineMonotonic.j0]))
end Go.Proofs.Ytappbijjpcaocaa.Print
