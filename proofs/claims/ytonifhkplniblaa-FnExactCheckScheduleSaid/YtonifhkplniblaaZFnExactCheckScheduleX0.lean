/- What the program and the reference compute, and that both agree. No condition. -/
import Derived.Test.YtonifhkplniblaaPO
import Derived.Test.YtonifhkplniblaaZFnExactCheckScheduleP2
import Derived.RowKit
import Derived.WalkKit
import Derived.Test.YtonifhkplniblaaZFnExactCheckScheduleP1
import Derived.Test.YtonifhkplniblaaZFnExactCheckScheduleP0
namespace Go.Proofs.Ytonifhkplniblaa.Print
open Go.RowKit Go.Proofs.YtonifhkplniblaaW.PrintWords Go.Proofs.YtonifhkplniblaaW.PrintLast Go.Proofs.YtonifhkplniblaaW.PrintMore
attribute [local go_sem] max2_int min2_int max_two min_two max_three min_three max_four min_four   -- for this text's walks alone
set_option linter.unusedVariables false
set_option linter.unusedSimpArgs false

open Go.Proofs.Ytonifhkplniblaa.Opens
/-- The pure statement of FnExactCheckSchedule. -/
def PureFnExactCheckSchedule : Prop := ∀ (x0 : List (S105)) (x1 : List (S107)) (x2 : List Int), (wfL wf105) x0 → (wfL wf107) x1 → (wfL wfI) x2 → ∃ k, laws_FnExactCheckSchedule.f k x0 x1 x2 = some true
end Go.Proofs.Ytonifhkplniblaa.Print

namespace Go.Proofs.Ytonifhkplniblaa.Evs
open Go.RowKit
set_option linter.unusedSimpArgs false
set_option linter.unusedVariables false

/-- From some number of rounds on, g tells r. -/
def Tl {α : Type} (g : Nat → Option α) (r : α) : Prop := ∃ k0, ∀ k, k0 ≤ k → g k = some r

theorem Tl.ret {α : Type} (r : α) : Tl (fun _ => some r) r := ⟨0, fun _ _ => rfl⟩
theorem Tl.of_eq {α : Type} {g : Nat → Option α} {r : α} (h : ∀ k, g k = some r) : Tl g r := ⟨0, fun k _ => h k⟩
theorem Tl.step {α : Type} {g : Nat → Option α} {r : α} (h : Tl (fun k => g (k + 1)) r) : Tl g r := by
  obtain ⟨k0, hk⟩ := h
  refine ⟨k0 + 1, fun k hle => ?_⟩
  obtain ⟨m, rfl⟩ : ∃ m, k = m + 1 := ⟨k - 1, by omega⟩
  exact hk m (by omega)
theorem Tl.bind {α β : Type} {g : Nat → Option α} {a : α} {f : α → Nat → Option β} {r : β} (h : Tl g a) (h2 : Tl (f a) r) : Tl (fun k => (g k).bind fun x => f x k) r := by
  obtain ⟨k0, hk⟩ := h
  obtain ⟨k1, hk1⟩ := h2
  refine ⟨max k0 k1, fun k hle => ?_⟩
  show (g k).bind (fun x => f x k) = some r
  rw [hk k (by omega), Option.bind_some]
  exact hk1 k (by omega)
theorem Tl.once {α : Type} {g : Nat → Option α} {r : α} (h : Tl g r) : ∃ k, g k = some r := by
  obtain ⟨k0, hk⟩ := h
  exact ⟨k0, hk k0 (Nat.le_refl _)⟩
theorem Tl.cast {α : Type} {g : Nat → Option α} {r r' : α} (h : Tl g r) (e : r = r') : Tl g r' := e ▸ h
theorem Tl.iteT {α : Type} {c : Prop} [Decidable c] {g g' : Nat → Option α} {r : α} (hc : c) (h : Tl g r) : Tl (fun k => if c then g k else g' k) r := by simpa only [if_pos hc] using h
theorem Tl.iteF {α : Type} {c : Prop} [Decidable c] {g g' : Nat → Option α} {r : α} (hc : ¬ c) (h : Tl g' r) : Tl (fun k => if c then g k else g' k) r := by simpa only [if_neg hc] using h

/-- Downwards. -/
theorem down {Q : Nat → Prop} (n : Nat) (he : Q n) (hs : ∀ j, j < n → Q (j + 1) → Q j) : Q 0 := by
  induction n with
  | zero => exact he
  | succ n ih => exact ih (hs n (by omega) he) (fun j hj => hs j (by omega))
theorem downFrom {Q : Nat → Prop} {m n : Nat} (hm : m ≤ n) (he : Q n) (hs : ∀ j, m ≤ j → j < n → Q (j + 1) → Q j) : Q m := by
  obtain ⟨d, rfl⟩ : ∃ d, n = m + d := ⟨n - m, by omega⟩
  induction d with
  | zero => exact he
  | succ d ih => exact ih (by omega) (hs (m + d) (by omega) (by omega) he) (fun j h1 h2 => hs j h1 (by omega))

/-- A loop that asks something of each index, and stops at the first 'no'. -/
theorem Tl.all {F : Nat → Int → Option Bool} {n : Nat} {P : Nat → Bool} {fin : Bool}
    (ht : ∀ j, j < n → P j = true → ∀ r, Tl (fun k => F k ((j + 1 : Nat) : Int)) r → Tl (fun k => F k (j : Int)) r)
    (hf : ∀ j, j < n → P j = false → Tl (fun k => F k (j : Int)) false) (he : Tl (fun k => F k (n : Int)) fin) :
    Tl (fun k => F k 0) ((List.range n).all P && fin) := by
  by_cases hall : ∀ j, j < n → P j = true
  · have h1 : ((List.range n).all P) = true := by simpa using hall
    rw [h1, Bool.true_and]
    exact down (Q := fun j => Tl (fun k => F k (j : Int)) fin) n he (fun j hj h => ht j hj (hall j hj) _ h)
  · have h1 : ((List.range n).all P) = false := by simpa using hall
    rw [h1, Bool.false_and]
    clear h1
    have key : ∀ m, m ≤ n → (∃ j, j < m ∧ P j = false) → Tl (fun k => F k 0) false := by
      intro m
      induction m with
      | zero => rintro _ ⟨j, hj, _⟩; omega
      | succ m ih =>
        rintro hm ⟨j, hj, hp⟩
        by_cases hlow : ∃ j, j < m ∧ P j = false
        · exact ih (by omega) hlow
        · have hjm : j = m := by
            rcases Nat.lt_or_ge j m with h | h
            · exact absurd ⟨j, h, hp⟩ hlow
            · omega
          subst hjm
          refine down (Q := fun j => Tl (fun k => F k (j : Int)) false) j (hf j (by omega) hp) (fun i hi h => ht i (by omega) ?_ _ h)
          cases hpi : P i
          · exact absurd ⟨i, hi, hpi⟩ hlow
          · rfl
    refine key n (Nat.le_refl _) ?_
    apply Classical.byContradiction
    intro hno
    refine hall (fun j hj => ?_)
    cases hp : P j
    · exact absurd ⟨j, hj, hp⟩ hno
    · rfl

theorem wrap_id {n : Int} (h1 : -9223372036854775808 ≤ n) (h2 : n ≤ 9223372036854775807) : wrap64 n = n := by unfold wrap64; omega
theorem wrap_succ {j n : Nat} (h : j < n) (hn : n ≤ 9223372036854775807) : wrap64 ((j : Int) + 1) = ((j + 1 : Nat) : Int) := by unfold wrap64; omega
theorem wrap_pred {j n : Nat} (h : j < n) (h0 : 0 < j) (hn : n ≤ 9223372036854775807) : wrap64 ((j : Int) - 1) = ((j - 1 : Nat) : Int) := by unfold wrap64; omega
end Go.Proofs.Ytonifhkplniblaa.Evs

namespace Go.Proofs.Ytonifhkplniblaa.Evs
theorem fill_zero {α : Type} (xs : List α) (z : α) : xs.take 0 ++ List.replicate (xs.length - 0) z = List.replicate xs.length z := by simp
theorem fill_set {α : Type} (xs : List α) (z : α) {j : Nat} (hj : j < xs.length) (x : α) (hx : x = xs.getD j z) :
    (xs.take j ++ List.replicate (xs.length - j) z).set j x = xs.take (j + 1) ++ List.replicate (xs.length - (j + 1)) z := by
  have h1 : (xs.take j).length = j := by simp; omega
  rw [List.set_append_right _ _ (by omega), h1, Nat.sub_self]
  obtain ⟨m, hm⟩ : ∃ m, xs.length - j = m + 1 := ⟨xs.length - j - 1, by omega⟩
  rw [hm, List.replicate_succ, List.set_cons_zero, List.take_succ_eq_append_getElem hj, List.append_assoc, hx]
  have h2 : xs.length - (j + 1) = m := by omega
  rw [h2]
  simp [List.getD_eq_getElem?_getD, hj]
theorem fill_len {α : Type} (xs : List α) (z : α) {j : Nat} (hj : j ≤ xs.length) : (xs.take j ++ List.replicate (xs.length - j) z).length = xs.length := by simp; omega
theorem fill_end {α : Type} (xs : List α) (z : α) : xs.take xs.length ++ List.replicate (xs.length - xs.length) z = xs := by simp
theorem getD_map {α β : Type} (f : α → β) (l : List α) (j : Nat) (z : α) (z' : β) (hj : j < l.length) : (l.map f).getD j z' = f (l.getD j z) := by simp [List.getD_eq_getElem?_getD, hj]
theorem all_range {α : Type} (l : List α) (z : α) (p : α → Bool) : (List.range l.length).all (fun j => p (l.getD j z)) = l.all p := by
  rw [Bool.eq_iff_iff, List.all_eq_true, List.all_eq_true]
  constructor
  · intro h x hx
    obtain ⟨i, hi, rfl⟩ := List.getElem_of_mem hx
    have := h i (by simpa using hi)
    simpa [List.getD_eq_getElem?_getD, hi] using this
  · intro h j hj
    have hj' : j < l.length := by simpa using hj
    have := h l[j] (List.getElem_mem hj')
    simpa [List.getD_eq_getElem?_getD, hj'] using this
end Go.Proofs.Ytonifhkplniblaa.Evs

namespace Go.Proofs.Ytonifhkplniblaa.Print
open Go.RowKit Go.Proofs.YtonifhkplniblaaW.PrintWords Go.Proofs.Ytonifhkplniblaa.Evs Go.Proofs.Ytonifhkplniblaa.Opens
set_option linter.unusedSimpArgs false
abbrev LTask := S105
abbrev Task := S62
def cvTask (x : LTask) : Task := ⟨x.f0, x.f1, x.f2⟩
theorem toTaskS_ev (l : List LTask) (hl : l.length ≤ 1048576) : Tl (fun k => laws_toTaskS.f k l) (l.map cvTask) := by
  unfold laws_toTaskS.f
  have c1 := eq_true (show 0 ≤ (l.length : Int) by omega)
  have c2 := eq_true (show l.length ≤ 11728124029610 by omega)
  simp only [c1, c2, if_true, Int.toNat_natCast]
  have hlen : (l.map cvTask).length = l.length := by simp
  have key := down (Q := fun j => Tl (fun k => laws_toTaskS.l0 k l ((l.map cvTask).take j ++ List.replicate ((l.map cvTask).length - j) z62) (j : Int)) (l.map cvTask)) l.length ?_ ?_
  · rw [fill_zero, hlen] at key; exact key
  · refine Tl.step ?_
    have c3 := eq_false (show ¬ ((l.length : Int) < (l.length : Int)) by omega)
    rw [← hlen, fill_end]
    simp only [hlen]
    simp only [laws_toTaskS.l0, c3, if_false]
    exact Tl.ret _
  · intro j hj h
    refine Tl.step ?_
    have c3 := eq_true (show (j : Int) < (l.length : Int) by omega)
    have c4 := eq_true (show 0 ≤ (j : Int) by omega)
    have c5 := eq_true (show (j : Int) < (((l.map cvTask).take j ++ List.replicate ((l.map cvTask).length - j) z62).length : Int) by rw [fill_len _ _ (by omega)]; omega)
    simp only [laws_toTaskS.l0, c3, c4, c5, if_true, laws_toTask.f, Option.bind_some, Int.toNat_natCast]
    rw [fill_set _ _ (by omega) _ (by rw [getD_map cvTask l j z105 _ hj]; rfl), wrap_succ hj (by omega)]
    exact h
theorem eqTask_self (x : Task) : laws_eqTask.f x.f0 x.f1 x.f2 x.f0 x.f1 x.f2 = some true := by simp [laws_eqTask.f]
theorem eqTaskS_ev (l : List Task) (hl : l.length ≤ 1048576) : Tl (fun k => laws_eqTaskS.f k l l) true := by
  unfold laws_eqTaskS.f
  simp only [if_true]
  refine down (Q := fun j => Tl (fun k => laws_eqTaskS.l0 k l l (j : Int)) true) l.length ?_ ?_
  · refine Tl.step ?_
    have c3 := eq_false (show ¬ ((l.length : Int) < (l.length : Int)) by omega)
    simp only [laws_eqTaskS.l0, c3, if_false]
    exact Tl.ret _
  · intro j hj h
    refine Tl.step ?_
    have c3 := eq_true (show (j : Int) < (l.length : Int) by omega)
    have c4 := eq_true (show 0 ≤ (j : Int) by omega)
    simp only [laws_eqTaskS.l0, c3, c4, if_true, eqTask_self, Option.bind_some]
    rw [wrap_succ hj (by omega)]
    exact h
theorem szTaskS_f (l : List LTask) (a : Int) (h0 : 0 ≤ a) (h1 : a ≤ 1048576) (hl : l.length ≤ 9223372036854775807) : laws_szTaskS.f l a = some (if a < l.length then -1 else a - l.length) := by
  unfold laws_szTaskS.f
  rw [wrap_id (by omega) (by omega)]
  by_cases h : a < l.length
  · rw [if_pos (by omega), if_pos h]
  · rw [if_neg (by omega), if_neg h]
end Go.Proofs.Ytonifhkplniblaa.Print

namespace Go.Proofs.Ytonifhkplniblaa.Print
open Go.RowKit Go.Proofs.YtonifhkplniblaaW.PrintWords Go.Proofs.Ytonifhkplniblaa.Evs Go.Proofs.Ytonifhkplniblaa.Opens
set_option linter.unusedSimpArgs false
set_option linter.unusedVariables false
theorem spec_l1In_f (a b c : Int) : spec_l1In.f a b c = some (decide (b ≤ a ∧ a ≤ c)) := by
  unfold spec_l1In.f
  by_cases h : a ≥ b
  · have h' : b ≤ a := h
    simp [h, h']
  · have h' : ¬ b ≤ a := h
    simp [h, h']
theorem spec_TaskValid_f (x : Task) : spec_TaskValid.f x.f0 x.f1 x.f2 = some (okTask x) := by
  unfold spec_TaskValid.f okTask
  simp only [spec_l1In_f, Option.bind_some, decide_eq_true_eq]
  split
  · split
    · congr 1; rw [Bool.eq_iff_iff]; simp only [decide_eq_true_eq, Bool.false_eq_true, false_iff]; omega
    · congr 1; rw [Bool.eq_iff_iff]; simp only [decide_eq_true_eq, Bool.false_eq_true, false_iff]; omega
  · congr 1; rw [Bool.eq_iff_iff]; simp only [decide_eq_true_eq, Bool.false_eq_true, false_iff]; omega
/-- A valid set. -/
def okSet (l : List Task) : Bool := decide (l.length ≤ 5) && l.all okTask
theorem impl_SetValid_f (l : List Task) : impl_SetValid.f l = some (okSet l) := rfl
theorem impl_SetValid_ev (l : List Task) (_ : l.length ≤ 1048576) : Tl (fun _ => impl_SetValid.f l) (okSet l) := Tl.of_eq fun _ => impl_SetValid_f l
theorem spec_SetValid_ev (l : List Task) (hl : l.length ≤ 1048576) : Tl (fun k => spec_SetValid.f k l) (okSet l) := by
  have key := Tl.all (F := fun k i => spec_SetValid.l0 k l i) (n := l.length) (P := fun j => okTask (l.getD j z62)) (fin := decide (l.length ≤ 5)) ?_ ?_ ?_
  · rw [all_range] at key
    unfold okSet
    rw [Bool.and_comm]
    exact key
  · intro j hj hp r h
    refine Tl.step ?_
    have c3 := eq_true (show (j : Int) < (l.length : Int) by omega)
    have c4 := eq_true (show 0 ≤ (j : Int) by omega)
    have c5 : spec_TaskValid.f (rd_T62 l (j : Int)).f0 (rd_T62 l (j : Int)).f1 (rd_T62 l (j : Int)).f2 = some true := by rw [spec_TaskValid_f]; exact congrArg some hp
    simp only [spec_SetValid.l0, c3, c4, c5, if_true, Option.bind_some]
    rw [wrap_succ hj (by omega)]
    exact h
  · intro j hj hp
    refine Tl.step ?_
    have c3 := eq_true (show (j : Int) < (l.length : Int) by omega)
    have c4 := eq_true (show 0 ≤ (j : Int) by omega)
    have c5 : spec_TaskValid.f (rd_T62 l (j : Int)).f0 (rd_T62 l (j : Int)).f1 (rd_T62 l (j : Int)).f2 = some false := by rw [spec_TaskValid_f]; exact congrArg some hp
    simp only [spec_SetValid.l0, c3, c4, c5, if_true, Option.bind_some, Bool.false_eq_true, if_false]
    exact Tl.ret _
  · refine Tl.step ?_
    have c3 := eq_false (show ¬ ((l.length : Int) < (l.length : Int)) by omega)
    simp only [spec_SetValid.l0, c3, if_false]
    have : decide ((l.length : Int) ≤ 5) = decide (l.length ≤ 5) := by rw [decide_eq_decide]; omega
    rw [this]
    exact Tl.ret _
end Go.Proofs.Ytonifhkplniblaa.Print

namespace Go.Proofs.Ytonifhkplniblaa.Print
open Go.RowKit Go.Proofs.YtonifhkplniblaaW.PrintWords Go.Proofs.Ytonifhkplniblaa.Evs Go.Proofs.Ytonifhkplniblaa.Opens
set_option linter.unusedSimpArgs false
set_option linter.unusedVariables false
theorem tmod_pos {a b : Int} (ha : 0 ≤ a) (_hb : 0 < b) : Int.tmod a b = a % b := Int.tmod_eq_emod_of_nonneg ha
theorem tdiv_pos {a b : Int} (ha : 0 ≤ a) : Int.tdiv a b = a / b := Int.tdiv_eq_ediv_of_nonneg ha
/-- Task j of a list. -/
def tk (l : List Task) (j : Nat) : Task := l.getD j z62
theorem rd_tk (l : List Task) (j : Nat) : rd_T62 l (j : Int) = tk l j := rfl
theorem okSet_len {l : List Task} (h : okSet l = true) : l.length ≤ 5 := by unfold okSet at h; simp at h; exact h.1
theorem okSet_tk {l : List Task} (h : okSet l = true) {j : Nat} (hj : j < l.length) : 1 ≤ (tk l j).f0 ∧ (tk l j).f0 ≤ 8 ∧ (tk l j).f0 ≤ (tk l j).f1 ∧ (tk l j).f1 ≤ (tk l j).f2 ∧ (tk l j).f2 ≤ 12 := by
  unfold okSet at h
  rw [Bool.and_eq_true, List.all_eq_true] at h
  have h1 : tk l j ∈ l := by unfold tk; simp [List.getD_eq_getElem?_getD, hj]
  have := h.2 _ h1
  unfold okTask at this
  exact of_decide_eq_true this
end Go.Proofs.Ytonifhkplniblaa.Print

namespace Go.Proofs.Ytonifhkplniblaa.Print
open Go.RowKit Go.Proofs.YtonifhkplniblaaW.PrintWords Go.Proofs.YtonifhkplniblaaW.PrintMore Go.Proofs.Ytonifhkplniblaa.Evs Go.Proofs.Ytonifhkplniblaa.Opens
set_option linter.unusedSimpArgs false
set_option linter.unusedVariables false
theorem rd_jb (l : List S67) (j : Nat) : rd_T67 l (j : Int) = jb l j := rfl
theorem rd_jb' (l : List S67) (i : Int) : rd_T67 l i = jb l i.toNat := rfl
theorem rd_tk' (l : List Task) (i : Int) : rd_T62 l i = tk l i.toNat := rfl
theorem nextL_says {s : List Task} {l : List S67} (hok : okSet s = true) {n : Nat} (hin : ∀ i, i < n → (0 ≤ (jb l i).f0 ∧ (jb l i).f0 < s.length) ∧ 0 ≤ (jb l i).f1 ∧ (jb l i).f1 ≤ 119) :
    ∀ i, i ≤ n → ∀ t : Int, 0 ≤ t → t < s.length → rd (nextL s l i) t = match lastT l i t with | none => 0 | some b => b + (rd_T62 s t).f2
  | 0, _, t, h0, h1 => by
    show (List.replicate s.length (0 : Int)).getD t.toNat 0 = 0
    simp [List.getD_eq_getElem?_getD, List.getElem?_replicate]
    split <;> rfl
  | i + 1, hi, t, h0, h1 => by
    obtain ⟨⟨a1, a2⟩, a3, a4⟩ := hin i (by omega)
    have ih := nextL_says hok hin i (by omega) t h0 h1
    have hlen := nextL_len s l i
    have hgj : l.getD i z67 = jb l i := rfl
    unfold lastT
    rw [hgj]
    show ((nextL s l i).set (jb l i).f0.toNat _).getD t.toNat 0 = _
    rw [List.getD_eq_getElem?_getD, List.getElem?_set]
    by_cases e : (jb l i).f0 = t
    · rw [if_pos (by omega), if_pos (by omega), if_pos e]
      simp only [Option.getD_some]
      rw [e, rd_tk']
      have hv := okSet_tk hok (j := t.toNat) (by omega)
      exact wrap_id (by omega) (by omega)
    · rw [if_neg (by omega), if_neg e]
      rw [← List.getD_eq_getElem?_getD]
      exact ih
theorem spec_JobsLegal_ev0 (s : List Task) (l : List S67) (hs : s.length ≤ 1048576) (hl : l.length ≤ 1048576) :
    Tl (fun k => spec_JobsLegal.f k s l) (okSet s && (decide (l.length ≤ 60) && (List.range l.length).all (specAt s l))) := by
  unfold spec_JobsLegal.f
  refine Tl.bind (spec_SetValid_ev s hs) ?_
  cases hok : okSet s with
  | false => exact Tl.iteF (by simp) (Tl.ret _)
  | true =>
    have hs5 := okSet_len hok
    refine Tl.iteT rfl ?_
    by_cases h : l.length ≤ 60
    · rw [decide_eq_true h]
      exact Tl.iteT h (Tl.iteT (by omega) (Tl.ret _))
    · rw [decide_eq_false h]
      exact Tl.iteF h (Tl.ret _)
theorem legal_eq {s : List Task} (hok : okSet s = true) (l : List S67) : legalB s l = (decide (l.length ≤ 60) && (List.range l.length).all (specAt s l)) := by
  have hgj : ∀ i, l.getD i z67 = jb l i := fun _ => rfl
  have hdl : l.all (dlOk s) = (List.range l.length).all (fun i => dlOk s (jb l i)) := by
    rw [Bool.eq_iff_iff, List.all_eq_true, List.all_eq_true]
    constructor
    · intro h i hi
      have hi := List.mem_range.1 hi
      refine h _ ?_
      unfold jb
      simp [List.getD_eq_getElem?_getD, hi]
    · intro h x hx
      obtain ⟨i, hi, rfl⟩ := List.getElem_of_mem hx
      have := h i (List.mem_range.2 hi)
      simpa [jb, List.getD_eq_getElem?_getD, hi] using this
  have spc : ∀ i, i < l.length → (∀ i, i < l.length → (0 ≤ (jb l i).f0 ∧ (jb l i).f0 < s.length) ∧ 0 ≤ (jb l i).f1 ∧ (jb l i).f1 ≤ 119) → (spcAt s l i = true ↔ ¬ (jb l i).f1 < rd (nextL s l i) (jb l i).f0) := by
    intro i hi hin
    obtain ⟨⟨a1, a2⟩, a3, a4⟩ := hin i hi
    rw [nextL_says hok hin i (by omega) _ a1 a2]
    unfold spcAt
    rw [hgj]
    cases lastT l i (jb l i).f0 with
    | none => simp; omega
    | some b => simp; omega
  unfold legalB ordB
  rw [hdl, Bool.eq_iff_iff]
  simp only [Bool.and_eq_true, List.all_eq_true, List.mem_range, decide_eq_true_eq]
  constructor
  · rintro ⟨⟨h1, h2⟩, h3, h4⟩
    have hin : ∀ i, i < l.length → (0 ≤ (jb l i).f0 ∧ (jb l i).f0 < s.length) ∧ 0 ≤ (jb l i).f1 ∧ (jb l i).f1 ≤ 119 := by
      intro i hi
      have := h1 i hi
      unfold ordAt at this
      rw [Bool.and_eq_true, hgj] at this
      exact ⟨jobIn_f0 this.1, jobIn_f1 this.1⟩
    refine ⟨h2, fun i hi => ?_⟩
    have g1 := h1 i hi
    have g3 := (spc i hi hin).1 (h3 i hi)
    have g4 := h4 i hi
    unfold ordAt at g1
    rw [Bool.and_eq_true] at g1
    simp only [hgj] at g1
    obtain ⟨ga, gb⟩ := g1
    unfold jobIn at ga
    simp only [Bool.and_eq_true, decide_eq_true_eq] at ga
    unfold specAt
    rw [decide_eq_true ga.1, decide_eq_true ga.2.1, decide_eq_true ga.2.2, decide_eq_false g3, g4]
    simpa using gb
  · rintro ⟨h2, h1⟩
    have hx : ∀ i, i < l.length → (0 ≤ (jb l i).f0 ∧ (jb l i).f0 ≤ (s.length : Int) - 1) ∧ (0 ≤ (jb l i).f1 ∧ (jb l i).f1 ≤ 119) ∧ ¬ (jb l i).f1 < rd (nextL s l i) (jb l i).f0 ∧ dlOk s (jb l i) = true ∧ (1 ≤ (jb l i).f3 ∧ (jb l i).f3 ≤ (rd_T62 s (jb l i).f0).f0) ∧ (decide (0 < i) && jobBad (jb l (i - 1)) (jb l i)) = false := by
      intro i hi
      have := h1 i hi
      unfold specAt at this
      simp only [Bool.and_eq_true, Bool.not_eq_true', decide_eq_true_eq, decide_eq_false_iff_not] at this
      obtain ⟨⟨a, b⟩, ⟨c, d, e⟩, f⟩ := this
      exact ⟨a, b, c, d, e, f⟩
    have hin : ∀ i, i < l.length → (0 ≤ (jb l i).f0 ∧ (jb l i).f0 < s.length) ∧ 0 ≤ (jb l i).f1 ∧ (jb l i).f1 ≤ 119 := fun i hi => by
      obtain ⟨a, b, _⟩ := hx i hi
      exact ⟨by omega, b⟩
    refine ⟨⟨fun i hi => ?_, h2⟩, fun i hi => (spc i hi hin).2 (hx i hi).2.2.1, fun i hi => (hx i hi).2.2.2.1⟩
    obtain ⟨a, b, c, d, e, f⟩ := hx i hi
    unfold ordAt jobIn
    rw [hgj, hgj, decide_eq_true a, decide_eq_true b, decide_eq_true e, f]
    rfl
/-- A legal release pattern of a valid set. -/
def legal (s : List Task) (l : List S67) : Bool := okSet s && legalB s l
theorem impl_JobsLegal_f (s : List Task) (l : List S67) : impl_JobsLegal.f s l = some (legal s l) := by
  unfold impl_JobsLegal.f legal
  rw [impl_SetValid_f, Option.bind_some]
theorem impl_JobsLegal_ev (s : List Task) (l : List S67) (hs : s.length ≤ 1048576) (hl : l.length ≤ 1048576) : Tl (fun _ => impl_JobsLegal.f s l) (legal s l) := Tl.of_eq fun _ => impl_JobsLegal_f s l
theorem spec_JobsLegal_ev (s : List Task) (l : List S67) (hs : s.length ≤ 1048576) (hl : l.length ≤ 1048576) : Tl (fun k => spec_JobsLegal.f k s l) (legal s l) := by
  refine (spec_JobsLegal_ev0 s l hs hl).cast ?_
  unfold legal
  cases hok : okSet s with
  | false => rfl
  | true => rw [Bool.true_and, Bool.true_and, legal_eq hok]
end Go.Proofs.Ytonifhkplniblaa.Print

namespace Go.Proofs.Ytonifhkplniblaa.Print
open Go.RowKit Go.Proofs.YtonifhkplniblaaW.PrintWords Go.Proofs.YtonifhkplniblaaW.PrintMore Go.Proofs.Ytonifhkplniblaa.Evs Go.Proofs.Ytonifhkplniblaa.Opens
set_option linter.unusedSimpArgs false
set_option linter.unusedVariables false
theorem rd_lst (o : List Int) (j : Nat) : rd o (j : Int) = o.getD j 0 := rfl
theorem bestN_congr {ok ok' : Nat → Bool} {key key' : Nat → Int} : ∀ n, (∀ i, i < n → ok i = ok' i) → (∀ i, i < n → key i = key' i) → bestN ok key n = bestN ok' key' n
  | 0, _, _ => rfl
  | n + 1, h1, h2 => by
    have ih := bestN_congr n (fun i hi => h1 i (by omega)) (fun i hi => h2 i (by omega))
    have hin := bestN_in ok' key' n
    unfold bestN
    rw [ih, h1 n (by omega), h2 n (by omega)]
    by_cases h : bestN ok' key' n < 0
    · simp [h]
    · rw [h2 (bestN ok' key' n).toNat (by omega)]
/-- What is left of each job. -/
def leftL (jobs : List S67) (done : List Int) : List Int := (List.range jobs.length).map (fun i => (jb jobs i).f3 - done.getD i 0)
theorem leftL_len (jobs : List S67) (done : List Int) : (leftL jobs done).length = jobs.length := by simp [leftL]
theorem leftL_at (jobs : List S67) (done : List Int) {i : Nat} (h : i < jobs.length) : (leftL jobs done).getD i 0 = (jb jobs i).f3 - done.getD i 0 := by
  unfold leftL
  rw [List.getD_eq_getElem?_getD, List.getElem?_map, List.getElem?_range h]
  rfl
theorem leftL_set (jobs : List S67) (done : List Int) (hl : done.length = jobs.length) {n : Nat} (h : n < jobs.length) : (leftL jobs done).set n ((jb jobs n).f3 - done.getD n 0 - 1) = leftL jobs (done.set n (done.getD n 0 + 1)) := by
  apply List.ext_getElem?
  intro i
  by_cases hi : i < jobs.length
  · rw [List.getElem?_set]
    have e2 := leftL_at jobs (done.set n (done.getD n 0 + 1)) hi
    have e1 := leftL_at jobs done hi
    rw [List.getD_eq_getElem?_getD] at e1 e2
    have h1 : i < (leftL jobs done).length := by rw [leftL_len]; exact hi
    have h2 : i < (leftL jobs (done.set n (done.getD n 0 + 1))).length := by rw [leftL_len]; exact hi
    rw [List.getElem?_eq_getElem h1] at e1 ⊢
    rw [List.getElem?_eq_getElem h2] at e2 ⊢
    simp only [Option.getD_some] at e1 e2
    rw [e2, getD_set']
    by_cases e : n = i
    · subst e
      rw [if_pos rfl, if_pos h1, if_pos ⟨rfl, by omega⟩]
      congr 1
      omega
    · rw [if_neg e, if_neg (by omega), e1]
  · rw [List.getElem?_eq_none (by rw [List.length_set, leftL_len]; omega), List.getElem?_eq_none (by rw [leftL_len]; omega)]
theorem spec_Best_ev (jobs : List S67) (left keys : List Int) (now : Int) (hj : jobs.length ≤ 60) (hl : left.length = jobs.length) (hk : keys.length = jobs.length) :
    Tl (fun k => spec_l3Best.f k jobs left keys now) (bestN (fun i => decide ((jb jobs i).f1 ≤ now) && decide (left.getD i 0 > 0)) (fun i => keys.getD i 0) jobs.length) := by
  unfold spec_l3Best.f
  obtain ⟨B, hB⟩ : ∃ B, B = bestN (fun i => decide ((jb jobs i).f1 ≤ now) && decide (left.getD i 0 > 0)) (fun i => keys.getD i 0) := ⟨_, rfl⟩
  rw [← hB]
  have hin : ∀ j, -1 ≤ B j ∧ B j < j := by rw [hB]; exact bestN_in _ _
  have hst : ∀ j, B (j + 1) = if (decide ((jb jobs j).f1 ≤ now) && decide (left.getD j 0 > 0)) && (decide (B j < 0) || decide (keys.getD j 0 < keys.getD (B j).toNat 0)) then (j : Int) else B j := fun j => by rw [hB]; rfl
  have h0 : B 0 = -1 := by rw [hB]; rfl
  have key := down (Q := fun j => Tl (fun k => spec_l3Best.l0 k jobs left keys now (B j) (j : Int)) (B jobs.length)) jobs.length ?_ ?_
  · rw [h0] at key; exact key
  · refine Tl.step ?_
    simp only [spec_l3Best.l0]
    exact Tl.iteF (by omega) (Tl.ret _)
  · intro j hj' h
    have hb := hin j
    have hs := hst j
    refine Tl.step ?_
    simp only [spec_l3Best.l0]
    rw [wrap_succ (j := j) (n := jobs.length) (by omega) (by omega), rd_jb, rd_lst, rd_lst]
    refine Tl.iteT (by omega) (Tl.iteT (by omega) ?_)
    by_cases c1 : (jb jobs j).f1 ≤ now
    · refine Tl.iteT c1 (Tl.iteT (by omega) ?_)
      by_cases c2 : left.getD j 0 > 0
      · refine Tl.iteT c2 ?_
        by_cases c3 : B j < 0
        · rw [if_pos (by simp only [decide_eq_true c1, decide_eq_true c2, decide_eq_true c3]; rfl)] at hs
          rw [hs] at h
          exact Tl.iteT c3 h
        · refine Tl.iteF c3 (Tl.iteT (by omega) (Tl.iteT (by omega) (Tl.iteT (by omega) ?_)))
          have hr : rd keys (B j) = keys.getD (B j).toNat 0 := rfl
          rw [hr]
          by_cases c4 : keys.getD j 0 < keys.getD (B j).toNat 0
          · rw [if_pos (by simp only [decide_eq_true c1, decide_eq_true c2, decide_eq_true c4]; simp)] at hs
            rw [hs] at h
            exact Tl.iteT c4 h
          · rw [if_neg (by simp only [decide_eq_false c3, decide_eq_false c4]; simp)] at hs
            rw [hs] at h
            exact Tl.iteF c4 h
      · rw [if_neg (by simp only [decide_eq_false c2]; simp)] at hs
        rw [hs] at h
        exact Tl.iteF c2 h
    · rw [if_neg (by simp only [decide_eq_false c1]; simp)] at hs
      rw [hs] at h
      exact Tl.iteF c1 h
theorem legal_jobs' {s : List Task} {l : List S67} (h : legal s l = true) : l.length ≤ 60 ∧ ∀ i, i < l.length → (l.getD i z67).f3 ≤ 8 := by
  unfold legal at h
  rw [Bool.and_eq_true] at h
  exact legal_jobs (by rw [impl_SetValid_f, h.1]) h.2
end Go.Proofs.Ytonifhkplniblaa.Print

namespace Go.Proofs.Ytonifhkplniblaa.Print
open Go.RowKit Go.Proofs.YtonifhkplniblaaW.PrintWords Go.Proofs.YtonifhkplniblaaW.PrintMore Go.Proofs.Ytonifhkplniblaa.Evs Go.Proofs.Ytonifhkplniblaa.Opens
set_option linter.unusedSimpArgs false
set_option linter.unusedVariables false
theorem spec_Deadlines_ev (jobs : List S67) (hj : jobs.length ≤ 60) : Tl (fun k => spec_l3Deadlines.f k jobs) (jobs.map (·.f2)) := by
  unfold spec_l3Deadlines.f
  have key := down (Q := fun j => Tl (fun k => spec_l3Deadlines.l0 k jobs ((jobs.map (·.f2)).take j) (j : Int)) (jobs.map (·.f2))) jobs.length ?_ ?_
  · simpa using key
  · refine Tl.step ?_
    simp only [spec_l3Deadlines.l0]
    refine Tl.iteF (by omega) ?_
    rw [List.take_of_length_le (by simp)]
    exact Tl.ret _
  · intro j hj' h
    refine Tl.step ?_
    simp only [spec_l3Deadlines.l0]
    rw [wrap_succ (j := j) (n := jobs.length) (by omega) (by omega), rd_jb]
    refine Tl.iteT (by omega) (Tl.iteT (by omega) (Tl.iteT (by rw [List.length_take]; omega) ?_))
    have e1 : (jobs.map (·.f2)).take j ++ [(jb jobs j).f2] = (jobs.map (·.f2)).take (j + 1) := by
      rw [List.take_add_one, List.getElem?_map, List.getElem?_eq_getElem hj']
      simp [jb, List.getD_eq_getElem?_getD, hj']
    rw [e1]
    exact h
end Go.Proofs.Ytonifhkplniblaa.Print

namespace Go.Proofs.Ytonifhkplniblaa.Print
open Go.RowKit Go.Proofs.YtonifhkplniblaaW.PrintWords Go.Proofs.YtonifhkplniblaaW.PrintMore Go.Proofs.Ytonifhkplniblaa.Evs Go.Proofs.Ytonifhkplniblaa.Opens
set_option linter.unusedSimpArgs false
set_option linter.unusedVariables false
/-- What the checker says of a tick ahead of it. -/
def tick1 (jobs : List S67) (done : List Int) (now entry : Int) : Int :=
  if entry = -1 then (if 0 ≤ bestN (rdyB jobs done now) (fun i => (jb jobs i).f2) jobs.length then 4 else 0)
  else if 0 ≤ entry ∧ entry ≤ (jobs.length : Int) - 1 ∧ rdyB jobs done now entry.toNat = true then
    (if (jb jobs (bestN (rdyB jobs done now) (fun i => (jb jobs i).f2) jobs.length).toNat).f2 < (jb jobs entry.toNat).f2 then 5 else 0)
  else 3
def after (done : List Int) (entry : Int) : List Int := if 0 ≤ entry then done.set entry.toNat (done.getD entry.toNat 0 + 1) else done
theorem tickF_eq (jobs : List S67) (done : List Int) (now entry : Int) : tickF jobs done now entry = if tick1 jobs done now entry = 0 then endF jobs (after done entry) now else (tick1 jobs done now entry, done) := by
  unfold tickF tick1 after
  have e1 : ∀ i, jobs.getD i z67 = jb jobs i := fun _ => rfl
  simp only [e1]
  by_cases h1 : entry = -1
  · simp only [if_pos h1]
    by_cases h2 : 0 ≤ bestN (rdyB jobs done now) (fun i => (jb jobs i).f2) jobs.length
    · simp only [if_pos h2]
      rw [if_neg (by decide)]
    · simp only [if_neg h2, if_true]
      rw [if_neg (by omega)]
  · simp only [if_neg h1]
    by_cases h2 : 0 ≤ entry ∧ entry ≤ (jobs.length : Int) - 1 ∧ rdyB jobs done now entry.toNat = true
    · simp only [if_pos h2]
      by_cases h3 : (jb jobs (bestN (rdyB jobs done now) (fun i => (jb jobs i).f2) jobs.length).toNat).f2 < (jb jobs entry.toNat).f2
      · simp only [if_pos h3]
        rw [if_neg (by decide)]
      · simp only [if_neg h3, if_true]
        rw [if_pos h2.1]
    · simp only [if_neg h2]
      rw [if_neg (by decide)]
theorem spec_Tick_ev (jobs : List S67) (done : List Int) (hdl : done.length = jobs.length) (hj : jobs.length ≤ 60) (now entry : Int) (hle : ∀ i, i < jobs.length → done.getD i 0 ≤ (jb jobs i).f3) :
    Tl (fun k => spec_l9Tick.f k jobs (leftL jobs done) entry now) (tick1 jobs done now entry) := by
  have hbest : Tl (fun k => spec_l3Best.f k jobs (leftL jobs done) (jobs.map (·.f2)) now) (bestN (rdyB jobs done now) (fun i => (jb jobs i).f2) jobs.length) := by
    have hb := spec_Best_ev jobs (leftL jobs done) (jobs.map (·.f2)) now hj (leftL_len _ _) (by simp)
    rw [bestN_congr (ok' := rdyB jobs done now) (key' := fun i => (jb jobs i).f2) jobs.length (fun i hi => by
      rw [leftL_at jobs done hi]
      unfold rdyB
      have e1 : jobs.getD i z67 = jb jobs i := rfl
      rw [e1]
      congr 1
      rw [decide_eq_decide]
      omega) (fun i hi => by simp [jb, List.getD_eq_getElem?_getD, hi])] at hb
    exact hb
  have hin := bestN_in (rdyB jobs done now) (fun i => (jb jobs i).f2) jobs.length
  unfold spec_l9Tick.f
  rw [spec_l1In_f]
  simp only [Option.bind_some]
  rw [wrap_id (n := (jobs.length : Int) - 1) (by omega) (by omega)]
  by_cases h0 : -1 ≤ entry ∧ entry ≤ (jobs.length : Int) - 1
  · rw [decide_eq_true h0]
    refine Tl.iteT (by simp) ?_
    by_cases h1 : entry = -1
    · refine Tl.iteF (by omega) (Tl.step ?_)
      simp only [spec_l9Tick.j0]
      refine Tl.iteF (by simp) (Tl.bind (spec_Deadlines_ev jobs hj) (Tl.bind hbest (Tl.iteT (by omega) (Tl.step ?_))))
      simp only [spec_l9Tick.j1]
      by_cases h2 : 0 ≤ bestN (rdyB jobs done now) (fun i => (jb jobs i).f2) jobs.length
      · have hR : tick1 jobs done now entry = 4 := by unfold tick1; rw [if_pos h1, if_pos h2]
        rw [hR]
        exact Tl.iteT (by simpa using h2) (Tl.ret _)
      · have hR : tick1 jobs done now entry = 0 := by unfold tick1; rw [if_pos h1, if_neg h2]
        rw [hR]
        exact Tl.iteF (by simpa using h2) (Tl.iteF (by omega) (Tl.ret _))
    · refine Tl.iteT (by omega) (Tl.iteT (by omega) (Tl.iteT (by omega) ?_))
      obtain ⟨n, rfl⟩ : ∃ n : Nat, entry = (n : Int) := ⟨entry.toNat, by omega⟩
      have hn : n < jobs.length := by omega
      have hlen := hle n hn
      rw [rd_jb]
      unfold tick1
      rw [if_neg h1]
      simp only [Int.toNat_natCast]
      by_cases h2 : (jb jobs n).f1 > now
      · rw [if_neg (by
          rintro ⟨_, _, h⟩
          unfold rdyB at h
          rw [Bool.and_eq_true] at h
          have := of_decide_eq_true h.1
          have e1 : jobs.getD n z67 = jb jobs n := rfl
          rw [e1] at this
          omega)]
        refine Tl.iteT h2 (Tl.step ?_)
        simp only [spec_l9Tick.j0]
        exact Tl.iteT (by simp) (Tl.ret _)
      · refine Tl.iteF h2 (Tl.iteT (by rw [leftL_len]; omega) ?_)
        have hrl : rd (leftL jobs done) (n : Int) = (jb jobs n).f3 - done.getD n 0 := leftL_at jobs done hn
        rw [hrl]
        by_cases h3 : (jb jobs n).f3 - done.getD n 0 = 0
        · rw [if_neg (by
            rintro ⟨_, _, h⟩
            unfold rdyB at h
            rw [Bool.and_eq_true] at h
            have := of_decide_eq_true h.2
            have e1 : jobs.getD n z67 = jb jobs n := rfl
            rw [e1] at this
            omega)]
          refine Tl.step ?_
          simp only [spec_l9Tick.j0]
          exact Tl.iteT (by simpa using h3) (Tl.ret _)
        · have hr : rdyB jobs done now n = true := by
            unfold rdyB
            have e1 : jobs.getD n z67 = jb jobs n := rfl
            rw [e1, decide_eq_true (by omega), decide_eq_true (by omega)]
            rfl
          have hb0 := bestN_pos (key := fun i => (jb jobs i).f2) hn hr
          rw [if_pos ⟨by omega, by omega, hr⟩]
          refine Tl.step ?_
          simp only [spec_l9Tick.j0]
          refine Tl.iteF (by simpa using h3) (Tl.bind (spec_Deadlines_ev jobs hj) (Tl.bind hbest (Tl.iteF (by omega) (Tl.step ?_))))
          simp only [spec_l9Tick.j1]
          refine Tl.iteF (by simp) (Tl.iteT (by omega) (Tl.iteT (by omega) (Tl.iteT (by omega) (Tl.iteT (by omega) (Tl.iteT (by omega) ?_)))))
          rw [rd_jb', rd_jb]
          obtain ⟨p, hp⟩ : ∃ p, p = (jb jobs (bestN (rdyB jobs done now) (fun i => (jb jobs i).f2) jobs.length).toNat).f2 := ⟨_, rfl⟩
          by_cases h4 : (jb jobs (bestN (rdyB jobs done now) (fun i => (jb jobs i).f2) jobs.length).toNat).f2 < (jb jobs n).f2
          · exact (Tl.iteT h4 (Tl.ret _)).cast (if_pos h4).symm
          · exact (Tl.iteF h4 (Tl.ret _)).cast (if_neg h4).symm
  · rw [decide_eq_false h0]
    refine Tl.iteF (by simp) (Tl.step ?_)
    simp only [spec_l9Tick.j0]
    unfold tick1
    rw [if_neg (by omega), if_neg (by omega)]
    exact Tl.iteT (by simp) (Tl.ret _)
theorem spec_late_ev (jobs : List S67) (run : List Int) (done : List Int) (t : Nat) (ht : t < 120) (hj : jobs.length ≤ 60) {R : Int × Int} (h : (List.range jobs.length).any (lateB jobs done t) = false → Tl (fun k => spec_CheckSchedule.l1 k jobs run (leftL jobs done) ((t + 1 : Nat) : Int)) R) (h6 : (List.range jobs.length).any (lateB jobs done t) = true → R = (6, (t : Int))) :
    Tl (fun k => spec_CheckSchedule.l2 k jobs run (leftL jobs done) (t : Int) 0) R := by
  have key : ∀ d j, j + d = jobs.length → (∀ i, i < j → lateB jobs done t i = false) → Tl (fun k => spec_CheckSchedule.l2 k jobs run (leftL jobs done) (t : Int) (j : Int)) R := by
    intro d
    induction d with
    | zero =>
      intro j hjd hn
      refine Tl.step ?_
      simp only [spec_CheckSchedule.l2]
      rw [wrap_succ (j := t) (n := 120) ht (by omega)]
      exact Tl.iteF (by omega) (h (any_no (fun i hi => hn i (by omega))))
    | succ d ih =>
      intro j hjd hn
      have hl : lateB jobs done t j = (decide ((jb jobs j).f2 = (t : Int) + 1) && decide (done.getD j 0 < (jb jobs j).f3)) := rfl
      have hrl : rd (leftL jobs done) (j : Int) = (jb jobs j).f3 - done.getD j 0 := leftL_at jobs done (by omega)
      refine Tl.step ?_
      simp only [spec_CheckSchedule.l2]
      rw [rd_jb, hrl, wrap_succ (j := j) (n := jobs.length) (by omega) (by omega), wrap_id (n := (t : Int) + 1) (by omega) (by omega)]
      refine Tl.iteT (by omega) (Tl.iteT (by omega) ?_)
      by_cases c1 : (jb jobs j).f2 = (t : Int) + 1
      · refine Tl.iteT c1 (Tl.iteT (by rw [leftL_len]; omega) ?_)
        by_cases c2 : done.getD j 0 < (jb jobs j).f3
        · rw [decide_eq_true c1, decide_eq_true c2] at hl
          rw [h6 (any_yes (j := j) (by omega) hl)]
          exact Tl.iteT (by omega) (Tl.ret _)
        · rw [decide_eq_false c2, Bool.and_false] at hl
          exact Tl.iteF (by omega) (ih (j + 1) (by omega) (upto_stepF hn hl))
      · rw [decide_eq_false c1, Bool.false_and] at hl
        exact Tl.iteF c1 (ih (j + 1) (by omega) (upto_stepF hn hl))
  exact key jobs.length 0 (by omega) (fun i hi => absurd hi (by omega))
theorem after_le {jobs : List S67} {done : List Int} {now entry : Int} (h : tick1 jobs done now entry = 0) (hle : ∀ i, i < jobs.length → done.getD i 0 ≤ (jb jobs i).f3) : ∀ i, i < jobs.length → (after done entry).getD i 0 ≤ (jb jobs i).f3 := by
  intro i hi
  have h1 := hle i hi
  unfold after
  split
  · rename_i hp
    unfold tick1 at h
    rw [if_neg (by omega)] at h
    split at h
    · rename_i hr
      rw [getD_set']
      split
      · rename_i he
        obtain ⟨rfl, _⟩ := he
        have := hr.2.2
        unfold rdyB at this
        rw [Bool.and_eq_true] at this
        have := of_decide_eq_true this.2
        have e1 : jobs.getD entry.toNat z67 = jb jobs entry.toNat := rfl
        rw [e1] at this
        omega
      · exact h1
    · cases h
  · exact h1
theorem spec_check_ev (jobs : List S67) (run : List Int) (hr : run.length = 120) (hj : jobs.length ≤ 60) (hex : ∀ i, i < jobs.length → (jobs.getD i z67).f3 ≤ 8) :
    ∀ n t, t + n = 120 → (∀ i, i < jobs.length → (doneN jobs run t).getD i 0 ≤ (jb jobs i).f3) → Tl (fun k => spec_CheckSchedule.l1 k jobs run (leftL jobs (doneN jobs run t)) (t : Int)) (chkF jobs run n t)
  | 0, t, ht, hle => by
    refine Tl.step ?_
    simp only [spec_CheckSchedule.l1]
    exact Tl.iteF (by omega) (Tl.ret _)
  | n + 1, t, ht, hle => by
    have hdl := doneN_len jobs run t
    have hdn := doneN_in (run := run) hex t
    have hT := spec_Tick_ev jobs (doneN jobs run t) hdl hj (t : Int) (run.getD t 0) hle
    have hq := tickF_eq jobs (doneN jobs run t) (t : Int) (run.getD t 0)
    have hd1 : doneN jobs run (t + 1) = (tickF jobs (doneN jobs run t) (t : Int) (run.getD t 0)).2 := rfl
    have hc1 : codeN jobs run t = (tickF jobs (doneN jobs run t) (t : Int) (run.getD t 0)).1 := rfl
    have ih := spec_check_ev jobs run hr hj hex n (t + 1) (by omega)
    have hrd : rd run (t : Int) = run.getD t 0 := rfl
    refine Tl.step ?_
    simp only [spec_CheckSchedule.l1]
    rw [hrd]
    refine Tl.iteT (by omega) (Tl.iteT (by omega) (Tl.iteT (by omega) (Tl.bind hT ?_)))
    unfold chkF
    obtain ⟨e, he⟩ : ∃ e, e = run.getD t 0 := ⟨_, rfl⟩
    rw [← he] at hq hd1 hc1 hT ⊢
    obtain ⟨done, hdone⟩ : ∃ done, done = doneN jobs run t := ⟨_, rfl⟩
    rw [← hdone] at hq hd1 hc1 hT hle hdl hdn ⊢
    by_cases h0 : tick1 jobs done (t : Int) e = 0
    · rw [if_pos h0] at hq
      have hd2 : doneN jobs run (t + 1) = after done e := by rw [hd1, hq, endF_done]
      have hle2 := after_le h0 hle
      rw [hd2] at ih
      have ih := ih hle2
      have hlast : Tl (fun k => spec_CheckSchedule.l2 k jobs run (leftL jobs (after done e)) (t : Int) 0) (if codeN jobs run t = 0 then chkF jobs run n (t + 1) else (codeN jobs run t, (t : Int))) := by
        refine spec_late_ev jobs run (after done e) t (by omega) hj (fun hno => ?_) (fun hyes => ?_)
        · have : codeN jobs run t = 0 := by rw [hc1, hq]; unfold endF; rw [hno]; rfl
          rw [if_pos this]
          exact ih
        · have : codeN jobs run t = 6 := by rw [hc1, hq]; unfold endF; rw [hyes]; rfl
          rw [this, if_neg (by decide)]
      refine Tl.iteT h0 ?_
      by_cases hp : e ≥ 0
      · obtain ⟨m, rfl⟩ : ∃ m : Nat, e = (m : Int) := ⟨e.toNat, by omega⟩
        have hm : m < jobs.length ∧ rdyB jobs done (t : Int) m = true := by
          unfold tick1 at h0
          rw [if_neg (by omega)] at h0
          split at h0
          · rename_i hh
            simp only [Int.toNat_natCast] at hh
            exact ⟨by omega, hh.2.2⟩
          · cases h0
        obtain ⟨hm, hrdy⟩ := hm
        have hexm := hex m hm
        have e1 : jobs.getD m z67 = jb jobs m := rfl
        rw [e1] at hexm
        have hdm := hdn m
        have hlm := hle m hm
        have hrl : rd (leftL jobs done) (m : Int) = (jb jobs m).f3 - done.getD m 0 := leftL_at jobs done hm
        refine Tl.iteT hp (Tl.iteT (by omega) (Tl.iteT (by rw [leftL_len]; omega) (Tl.step ?_)))
        simp only [spec_CheckSchedule.j2]
        rw [hrl, wrap_id (n := (jb jobs m).f3 - done.getD m 0 - 1) (by omega) (by omega)]
        simp only [Int.toNat_natCast]
        rw [leftL_set jobs done hdl hm]
        unfold after at hlast
        rw [if_pos (by omega)] at hlast
        simp only [Int.toNat_natCast] at hlast
        exact hlast
      · refine Tl.iteF hp (Tl.step ?_)
        simp only [spec_CheckSchedule.j2]
        unfold after at hlast
        rw [if_neg (by omega)] at hlast
        exact hlast
    · rw [if_neg h0] at hq
      have : codeN jobs run t = tick1 jobs done (t : Int) e := by rw [hc1, hq]
      rw [this, if_neg h0]
      exact Tl.iteF h0 (Tl.ret _)
theorem spec_cfill_ev (jobs : List S67) (run : List Int) {R : Int × Int} (hj : jobs.length ≤ 60) (h : Tl (fun k => spec_CheckSchedule.l1 k jobs run (leftL jobs (List.replicate jobs.length 0)) 0) R) :
    Tl (fun k => spec_CheckSchedule.l0 k jobs run [] 0) R := by
  have key := down (Q := fun j => Tl (fun k => spec_CheckSchedule.l0 k jobs run ((leftL jobs (List.replicate jobs.length 0)).take j) (j : Int)) R) jobs.length ?_ ?_
  · simpa using key
  · refine Tl.step ?_
    simp only [spec_CheckSchedule.l0]
    refine Tl.iteF (by omega) ?_
    rw [List.take_of_length_le (by rw [leftL_len]; omega)]
    exact h
  · intro j hj' h
    refine Tl.step ?_
    simp only [spec_CheckSchedule.l0]
    rw [wrap_succ (j := j) (n := jobs.length) (by omega) (by omega), rd_jb]
    refine Tl.iteT (by omega) (Tl.iteT (by omega) (Tl.iteT (by rw [List.length_take]; omega) ?_))
    have e1 : (leftL jobs (List.replicate jobs.length 0)).take j ++ [(jb jobs j).f3] = (leftL jobs (List.replicate jobs.length 0)).take (j + 1) := by
      have hlt : j < (leftL jobs (List.replicate jobs.length 0)).length := by rw [leftL_len]; exact hj'
      rw [List.take_add_one, List.getElem?_eq_getElem hlt]
      have := leftL_at jobs (List.replicate jobs.length 0) hj'
      rw [List.getD_eq_getElem?_getD, List.getElem?_eq_getElem hlt] at this
      simp only [Option.getD_some] at this
      rw [this]
      simp [List.getD_eq_getElem?_getD, List.getElem?_replicate, hj']
    rw [e1]
    exact h
theorem legal_exec {s : List Task} {l : List S67} (h : legal s l = true) : ∀ i, i < l.length → 1 ≤ (jb l i).f3 := by
  unfold legal legalB at h
  rw [Bool.and_eq_true, Bool.and_eq_true] at h
  intro i hi
  have := (ordB_in h.2.1).2 i hi
  unfold jobIn at this
  simp only [Bool.and_eq_true, decide_eq_true_eq] at this
  exact this.2.2.1
def checkD (s : List Task) (l : List S67) (r : List Int) : Int × Int := if legal s l = true then (if r.length = 120 then chkF l r 120 0 else (2, 0)) else (1, 0)
theorem spec_CheckSchedule_ev (s : List Task) (l : List S67) (r : List Int) (hs : s.length ≤ 1048576) (hl : l.length ≤ 1048576) (hr : r.length ≤ 1048576) : Tl (fun k => spec_CheckSchedule.f k s l r) (checkD s l r) := by
  unfold spec_CheckSchedule.f checkD
  refine Tl.bind (spec_JobsLegal_ev s l hs hl) ?_
  cases h : legal s l with
  | false => rw [if_neg (by simp)]; exact Tl.iteF (by simp) (Tl.ret _)
  | true =>
    rw [if_pos rfl]
    obtain ⟨h1, h2⟩ := legal_jobs' h
    refine Tl.iteT rfl ?_
    by_cases h3 : r.length = 120
    · rw [if_pos h3]
      refine Tl.iteT (by omega) (spec_cfill_ev l r h1 (spec_check_ev l r h3 h1 h2 120 0 rfl (fun i hi => ?_)))
      have := legal_exec h i hi
      show (List.replicate l.length (0 : Int)).getD i 0 ≤ _
      rw [List.getD_eq_getElem?_getD, List.getElem?_replicate, if_pos hi]
      simp only [Option.getD_some]
      omega
    · rw [if_neg h3]
      exact Tl.iteF (by omega) (Tl.ret _)
theorem impl_CheckSchedule_ev (s : List Task) (l : List S67) (r : List Int) (hs : s.length ≤ 1048576) (hl : l.length ≤ 1048576) (hr : r.length ≤ 1048576) : Tl (fun _ => impl_CheckSchedule.f s l r) (checkD s l r) := by
  refine Tl.of_eq fun _ => ?_
  unfold impl_CheckSchedule.f checkD
  rw [impl_JobsLegal_f, Option.bind_some]
end Go.Proofs.Ytonifhkplniblaa.Print

namespace Go.Proofs.Ytonifhkplniblaa.Print
open Go.RowKit Go.Proofs.YtonifhkplniblaaW.PrintWords Go.Proofs.Ytonifhkplniblaa.Evs Go.Proofs.Ytonifhkplniblaa.Opens
set_option linter.unusedSimpArgs false
abbrev Job := S67
theorem eqJob_self (x : Job) : laws_eqJob.f x.f0 x.f1 x.f2 x.f3 x.f0 x.f1 x.f2 x.f3 = some true := by simp [laws_eqJob.f]
theorem eqJobS_ev (l : List Job) (hl : l.length ≤ 1048576) : Tl (fun k => laws_eqJobS.f k l l) true := by
  unfold laws_eqJobS.f
  simp only [if_true]
  refine down (Q := fun j => Tl (fun k => laws_eqJobS.l0 k l l (j : Int)) true) l.length ?_ ?_
  · refine Tl.step ?_
    have c3 := eq_false (show ¬ ((l.length : Int) < (l.length : Int)) by omega)
    simp only [laws_eqJobS.l0, c3, if_false]
    exact Tl.ret _
  · intro j hj h
    refine Tl.step ?_
    have c3 := eq_true (show (j : Int) < (l.length : Int) by omega)
    have c4 := eq_true (show 0 ≤ (j : Int) by omega)
    simp only [laws_eqJobS.l0, c3, c4, if_true, eqJob_self, Option.bind_some]
    rw [wrap_succ hj (by omega)]
    exact h
end Go.Proofs.Ytonifhkplniblaa.Print

namespace Go.Proofs.Ytonifhkplniblaa.Print
open Go.RowKit Go.Proofs.YtonifhkplniblaaW.PrintWords Go.Proofs.Ytonifhkplniblaa.Evs Go.Proofs.Ytonifhkplniblaa.Opens
set_option linter.unusedSimpArgs false
abbrev LJob := S107
def cvJob (x : LJob) : Job := ⟨x.f0, x.f1, x.f2, x.f3⟩
theorem toJobS_ev (l : List LJob) (hl : l.length ≤ 1048576) : Tl (fun k => laws_toJobS.f k l) (l.map cvJob) := by
  unfold laws_toJobS.f
  have c1 := eq_true (show 0 ≤ (l.length : Int) by omega)
  have c2 := eq_true (show l.length ≤ 8796093022208 by omega)
  simp only [c1, c2, if_true, Int.toNat_natCast]
  have hlen : (l.map cvJob).length = l.length := by simp
  have key := down (Q := fun j => Tl (fun k => laws_toJobS.l0 k l ((l.map cvJob).take j ++ List.replicate ((l.map cvJob).length - j) z67) (j : Int)) (l.map cvJob)) l.length ?_ ?_
  · rw [fill_zero, hlen] at key; exact key
  · refine Tl.step ?_
    have c3 := eq_false (show ¬ ((l.length : Int) < (l.length : Int)) by omega)
    rw [← hlen, fill_end]
    simp only [hlen]
    simp only [laws_toJobS.l0, c3, if_false]
    exact Tl.ret _
  · intro j hj h
    refine Tl.step ?_
    have c3 := eq_true (show (j : Int) < (l.length : Int) by omega)
    have c4 := eq_true (show 0 ≤ (j : Int) by omega)
    have c5 := eq_true (show (j : Int) < (((l.map cvJob).take j ++ List.replicate ((l.map cvJob).length - j) z67).length : Int) by rw [fill_len _ _ (by omega)]; omega)
    simp only [laws_toJobS.l0, c3, c4, c5, if_true, laws_toJob.f, Option.bind_some, Int.toNat_natCast]
    rw [fill_set _ _ (by omega) _ (by rw [getD_map cvJob l j z107 _ hj]; rfl), wrap_succ hj (by omega)]
    exact h
theorem szJobS_f (l : List LJob) (a : Int) (h0 : 0 ≤ a) (h1 : a ≤ 1048576) (hl : l.length ≤ 9223372036854775807) : laws_szJobS.f l a = some (if a < l.length then -1 else a - l.length) := by
  unfold laws_szJobS.f
  rw [wrap_id (by omega) (by omega)]
  by_cases h : a < l.length
  · rw [if_pos (by omega), if_pos h]
  · rw [if_neg (by omega), if_neg h]
end Go.Proofs.Ytonifhkplniblaa.Print

namespace Go.Proofs.Ytonifhkplniblaa.Print
open Go.RowKit Go.Proofs.YtonifhkplniblaaW.PrintWords Go.Proofs.Ytonifhkplniblaa.Evs Go.Proofs.Ytonifhkplniblaa.Opens
set_option linter.unusedSimpArgs false
theorem eqIntS_ev (l : List Int) (hl : l.length ≤ 1048576) : Tl (fun k => laws_eqIntS.f k l l) true := by
  unfold laws_eqIntS.f
  simp only [if_true]
  refine down (Q := fun j => Tl (fun k => laws_eqIntS.l0 k l l (j : Int)) true) l.length ?_ ?_
  · refine Tl.step ?_
    have c3 := eq_false (show ¬ ((l.length : Int) < (l.length : Int)) by omega)
    simp only [laws_eqIntS.l0, c3, if_false]
    exact Tl.ret _
  · intro j hj h
    refine Tl.step ?_
    have c3 := eq_true (show (j : Int) < (l.length : Int) by omega)
    have c4 := eq_true (show 0 ≤ (j : Int) by omega)
    simp only [laws_eqIntS.l0, c3, c4, if_true]
    rw [wrap_succ hj (by omega)]
    exact h
end Go.Proofs.Ytonifhkplniblaa.Print

namespace Go.Proofs.Ytonifhkplniblaa.Print
open Go.RowKit Go.Proofs.YtonifhkplniblaaW.PrintWords Go.Proofs.Ytonifhkplniblaa.Evs Go.Proofs.Ytonifhkplniblaa.Opens
set_option linter.unusedSimpArgs false
theorem toIntS_ev (l : List Int) (hl : l.length ≤ 1048576) : Tl (fun k => laws_toIntS.f k l) l := by
  unfold laws_toIntS.f
  have c1 := eq_true (show 0 ≤ (l.length : Int) by omega)
  have c2 := eq_true (show l.length ≤ 35184372088832 by omega)
  simp only [c1, c2, if_true, Int.toNat_natCast]
  have key := down (Q := fun j => Tl (fun k => laws_toIntS.l0 k l (l.take j ++ List.replicate (l.length - j) 0) (j : Int)) l) l.length ?_ ?_
  · rw [fill_zero] at key; exact key
  · refine Tl.step ?_
    have c3 := eq_false (show ¬ ((l.length : Int) < (l.length : Int)) by omega)
    rw [fill_end]
    simp only [laws_toIntS.l0, c3, if_false]
    exact Tl.ret _
  · intro j hj h
    refine Tl.step ?_
    have c3 := eq_true (show (j : Int) < (l.length : Int) by omega)
    have c4 := eq_true (show 0 ≤ (j : Int) by omega)
    have c5 := eq_true (show (j : Int) < ((l.take j ++ List.replicate (l.length - j) 0).length : Int) by rw [fill_len _ _ (by omega)]; omega)
    simp only [laws_toIntS.l0, c3, c4, c5, if_true, Int.toNat_natCast]
    rw [fill_set l 0 hj (rd l (j : Int)) rfl, wrap_succ hj (by omega)]
    exact h
end Go.Proofs.Ytonifhkplniblaa.Print

namespace Go.Proofs.Ytonifhkplniblaa.Print
open Go.RowKit Go.Proofs.YtonifhkplniblaaW.PrintWords Go.Proofs.Ytonifhkplniblaa.Evs Go.Proofs.Ytonifhkplniblaa.Opens
set_option linter.unusedSimpArgs false
set_option linter.unusedVariables false
set_option maxHeartbeats 1000000 in
theorem FnExactCheckSchedule_pure : PureFnExactCheckSchedule := by
  intro x0 x1 x2 w0 w1 w2
  apply Tl.once
  unfold laws_FnExactCheckSchedule.f
  by_cases g2 : (x2.length : Int) > 1048576
  · exact Tl.iteT g2 (Tl.ret _)
  refine Tl.iteF g2 ?_
  refine Tl.bind (Tl.of_eq fun _ => szTaskS_f x0 _ (by omega) (by omega) w0.1) ?_
  by_cases g0 : (1048576 : Int) < x0.length
  · rw [if_pos g0]; exact Tl.iteT (by omega) (Tl.ret _)
  rw [if_neg g0]
  refine Tl.iteF (by omega) ?_
  refine Tl.bind (Tl.of_eq fun _ => szJobS_f x1 _ (by omega) (by omega) w1.1) ?_
  by_cases g1 : (1048576 - x0.length : Int) < x1.length
  · rw [if_pos g1]; exact Tl.iteT (by omega) (Tl.ret _)
  rw [if_neg g1]
  refine Tl.iteF (by omega) ?_
  have hl0 : x0.length ≤ 1048576 := by omega
  have hm0 : (x0.map cvTask).length ≤ 1048576 := by simpa using hl0
  have hl1 : x1.length ≤ 1048576 := by omega
  have hm1 : (x1.map cvJob).length ≤ 1048576 := by simpa using hl1
  have hl2 : x2.length ≤ 1048576 := by omega
  have hm2 : x2.length ≤ 1048576 := by simpa using hl2
  have HS := spec_CheckSchedule_ev (x0.map cvTask) (x1.map cvJob) x2 hm0 hm1 hm2
  have HI := impl_CheckSchedule_ev (x0.map cvTask) (x1.map cvJob) x2 hm0 hm1 hm2
  repeat (first
    | exact Tl.ret _
    | with_reducible refine Tl.bind (toTaskS_ev x0 hl0) ?_
    | with_reducible refine Tl.bind (eqTaskS_ev (x0.map cvTask) hm0) ?_
    | with_reducible refine Tl.bind (toJobS_ev x1 hl1) ?_
    | with_reducible refine Tl.bind (eqJobS_ev (x1.map cvJob) hm1) ?_
    | with_reducible refine Tl.bind (toIntS_ev x2 hl2) ?_
    | with_reducible refine Tl.bind (eqIntS_ev x2 hm2) ?_
    | with_reducible refine Tl.bind HS ?_
    | with_reducible refine Tl.bind HI ?_
    | with_reducible refine Tl.iteT rfl ?_
    | with_reducible refine Tl.iteF (by simp) ?_
    | dsimp only
    | (refine Tl.step ?_; simp only [laws_FnExactCheckSchedule.j0]))
end Go.Proofs.Ytonifhkplniblaa.Print
