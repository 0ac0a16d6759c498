/- What the program and the reference compute, and that both agree. No condition. -/
import Derived.Test.YtonifhkplniblaaYFnExactRunResourcesPO
import Derived.Test.YtonifhkplniblaaYFnExactRunResourcesP5
import Derived.RowKit
import Derived.WalkKit
import Derived.Test.YtonifhkplniblaaYFnExactRunResourcesP3
import Derived.Test.YtonifhkplniblaaYFnExactRunResourcesP2
import Derived.Test.YtonifhkplniblaaYFnExactRunResourcesP0
import Derived.Test.YtonifhkplniblaaYFnExactRunResourcesP1
import Derived.Test.YtonifhkplniblaaYFnExactRunResourcesP4
namespace Go.Proofs.Ytonifhkplniblaa.Print
open Go.RowKit Go.Proofs.YtonifhkplniblaaW.PrintWords Go.Proofs.YtonifhkplniblaaW.PrintLast Go.Proofs.YtonifhkplniblaaW.PrintMore
attribute [local go_sem] max2_int min2_int max_two min_two max_three min_three max_four min_four   -- for this text's walks alone
set_option linter.unusedVariables false
set_option linter.unusedSimpArgs false

open Go.Proofs.Ytonifhkplniblaa.Opens
/-- The pure statement of FnExactRunResources. -/
def PureFnExactRunResources : Prop := ∀ (x0 : List (S105)) (x1 : List (S160)) (x2 : List (S107)), (wfL wf105) x0 → (wfL wf160) x1 → (wfL wf107) x2 → ∃ k, laws_FnExactRunResources.f k x0 x1 x2 = some true
end Go.Proofs.Ytonifhkplniblaa.Print

namespace Go.Proofs.Ytonifhkplniblaa.Evs
open Go.RowKit
set_option linter.unusedSimpArgs false
set_option linter.unusedVariables false

/-- From some number of rounds on, g tells r. -/
def Tl {α : Type} (g : Nat → Option α) (r : α) : Prop := ∃ k0, ∀ k, k0 ≤ k → g k = some r

theorem Tl.ret {α : Type} (r : α) : Tl (fun _ => some r) r := ⟨0, fun _ _ => rfl⟩
theorem Tl.of_eq {α : Type} {g : Nat → Option α} {r : α} (h : ∀ k, g k = some r) : Tl g r := ⟨0, fun k _ => h k⟩
theorem Tl.step {α : Type} {g : Nat → Option α} {r : α} (h : Tl (fun k => g (k + 1)) r) : Tl g r := by
  obtain ⟨k0, hk⟩ := h
  refine ⟨k0 + 1, fun k hle => ?_⟩
  obtain ⟨m, rfl⟩ : ∃ m, k = m + 1 := ⟨k - 1, by omega⟩
  exact hk m (by omega)
theorem Tl.bind {α β : Type} {g : Nat → Option α} {a : α} {f : α → Nat → Option β} {r : β} (h : Tl g a) (h2 : Tl (f a) r) : Tl (fun k => (g k).bind fun x => f x k) r := by
  obtain ⟨k0, hk⟩ := h
  obtain ⟨k1, hk1⟩ := h2
  refine ⟨max k0 k1, fun k hle => ?_⟩
  show (g k).bind (fun x => f x k) = some r
  rw [hk k (by omega), Option.bind_some]
  exact hk1 k (by omega)
theorem Tl.once {α : Type} {g : Nat → Option α} {r : α} (h : Tl g r) : ∃ k, g k = some r := by
  obtain ⟨k0, hk⟩ := h
  exact ⟨k0, hk k0 (Nat.le_refl _)⟩
theorem Tl.cast {α : Type} {g : Nat → Option α} {r r' : α} (h : Tl g r) (e : r = r') : Tl g r' := e ▸ h
theorem Tl.iteT {α : Type} {c : Prop} [Decidable c] {g g' : Nat → Option α} {r : α} (hc : c) (h : Tl g r) : Tl (fun k => if c then g k else g' k) r := by simpa only [if_pos hc] using h
theorem Tl.iteF {α : Type} {c : Prop} [Decidable c] {g g' : Nat → Option α} {r : α} (hc : ¬ c) (h : Tl g' r) : Tl (fun k => if c then g k else g' k) r := by simpa only [if_neg hc] using h

/-- Downwards. -/
theorem down {Q : Nat → Prop} (n : Nat) (he : Q n) (hs : ∀ j, j < n → Q (j + 1) → Q j) : Q 0 := by
  induction n with
  | zero => exact he
  | succ n ih => exact ih (hs n (by omega) he) (fun j hj => hs j (by omega))
/-- A loop that asks something of each index, and stops at the first 'no'. -/
theorem Tl.all {F : Nat → Int → Option Bool} {n : Nat} {P : Nat → Bool} {fin : Bool}
    (ht : ∀ j, j < n → P j = true → ∀ r, Tl (fun k => F k ((j + 1 : Nat) : Int)) r → Tl (fun k => F k (j : Int)) r)
    (hf : ∀ j, j < n → P j = false → Tl (fun k => F k (j : Int)) false) (he : Tl (fun k => F k (n : Int)) fin) :
    Tl (fun k => F k 0) ((List.range n).all P && fin) := by
  by_cases hall : ∀ j, j < n → P j = true
  · have h1 : ((List.range n).all P) = true := by simpa using hall
    rw [h1, Bool.true_and]
    exact down (Q := fun j => Tl (fun k => F k (j : Int)) fin) n he (fun j hj h => ht j hj (hall j hj) _ h)
  · have h1 : ((List.range n).all P) = false := by simpa using hall
    rw [h1, Bool.false_and]
    clear h1
    have key : ∀ m, m ≤ n → (∃ j, j < m ∧ P j = false) → Tl (fun k => F k 0) false := by
      intro m
      induction m with
      | zero => rintro _ ⟨j, hj, _⟩; omega
      | succ m ih =>
        rintro hm ⟨j, hj, hp⟩
        by_cases hlow : ∃ j, j < m ∧ P j = false
        · exact ih (by omega) hlow
        · have hjm : j = m := by
            rcases Nat.lt_or_ge j m with h | h
            · exact absurd ⟨j, h, hp⟩ hlow
            · omega
          subst hjm
          refine down (Q := fun j => Tl (fun k => F k (j : Int)) false) j (hf j (by omega) hp) (fun i hi h => ht i (by omega) ?_ _ h)
          cases hpi : P i
          · exact absurd ⟨i, hi, hpi⟩ hlow
          · rfl
    refine key n (Nat.le_refl _) ?_
    apply Classical.byContradiction
    intro hno
    refine hall (fun j hj => ?_)
    cases hp : P j
    · exact absurd ⟨j, hj, hp⟩ hno
    · rfl

theorem wrap_id {n : Int} (h1 : -9223372036854775808 ≤ n) (h2 : n ≤ 9223372036854775807) : wrap64 n = n := by unfold wrap64; omega
theorem wrap_succ {j n : Nat} (h : j < n) (hn : n ≤ 9223372036854775807) : wrap64 ((j : Int) + 1) = ((j + 1 : Nat) : Int) := by unfold wrap64; omega
end Go.Proofs.Ytonifhkplniblaa.Evs

namespace Go.Proofs.Ytonifhkplniblaa.Evs
theorem fill_zero {α : Type} (xs : List α) (z : α) : xs.take 0 ++ List.replicate (xs.length - 0) z = List.replicate xs.length z := by simp
theorem fill_set {α : Type} (xs : List α) (z : α) {j : Nat} (hj : j < xs.length) (x : α) (hx : x = xs.getD j z) :
    (xs.take j ++ List.replicate (xs.length - j) z).set j x = xs.take (j + 1) ++ List.replicate (xs.length - (j + 1)) z := by
  have h1 : (xs.take j).length = j := by simp; omega
  rw [List.set_append_right _ _ (by omega), h1, Nat.sub_self]
  obtain ⟨m, hm⟩ : ∃ m, xs.length - j = m + 1 := ⟨xs.length - j - 1, by omega⟩
  rw [hm, List.replicate_succ, List.set_cons_zero, List.take_succ_eq_append_getElem hj, List.append_assoc, hx]
  have h2 : xs.length - (j + 1) = m := by omega
  rw [h2]
  simp [List.getD_eq_getElem?_getD, hj]
theorem fill_len {α : Type} (xs : List α) (z : α) {j : Nat} (hj : j ≤ xs.length) : (xs.take j ++ List.replicate (xs.length - j) z).length = xs.length := by simp; omega
theorem fill_end {α : Type} (xs : List α) (z : α) : xs.take xs.length ++ List.replicate (xs.length - xs.length) z = xs := by simp
theorem getD_map {α β : Type} (f : α → β) (l : List α) (j : Nat) (z : α) (z' : β) (hj : j < l.length) : (l.map f).getD j z' = f (l.getD j z) := by simp [List.getD_eq_getElem?_getD, hj]
theorem all_range {α : Type} (l : List α) (z : α) (p : α → Bool) : (List.range l.length).all (fun j => p (l.getD j z)) = l.all p := by
  rw [Bool.eq_iff_iff, List.all_eq_true, List.all_eq_true]
  constructor
  · intro h x hx
    obtain ⟨i, hi, rfl⟩ := List.getElem_of_mem hx
    have := h i (by simpa using hi)
    simpa [List.getD_eq_getElem?_getD, hi] using this
  · intro h j hj
    have hj' : j < l.length := by simpa using hj
    have := h l[j] (List.getElem_mem hj')
    simpa [List.getD_eq_getElem?_getD, hj'] using this
end Go.Proofs.Ytonifhkplniblaa.Evs

namespace Go.Proofs.Ytonifhkplniblaa.Print
open Go.RowKit Go.Proofs.YtonifhkplniblaaW.PrintWords Go.Proofs.Ytonifhkplniblaa.Evs Go.Proofs.Ytonifhkplniblaa.Opens
set_option linter.unusedSimpArgs false
abbrev LTask := S105
abbrev Task := S62
def cvTask (x : LTask) : Task := ⟨x.f0, x.f1, x.f2⟩
theorem toTaskS_ev (l : List LTask) (hl : l.length ≤ 1048576) : Tl (fun k => laws_toTaskS.f k l) (l.map cvTask) := by
  unfold laws_toTaskS.f
  have c1 := eq_true (show 0 ≤ (l.length : Int) by omega)
  have c2 := eq_true (show l.length ≤ 11728124029610 by omega)
  simp only [c1, c2, if_true, Int.toNat_natCast]
  have hlen : (l.map cvTask).length = l.length := by simp
  have key := down (Q := fun j => Tl (fun k => laws_toTaskS.l0 k l ((l.map cvTask).take j ++ List.replicate ((l.map cvTask).length - j) z62) (j : Int)) (l.map cvTask)) l.length ?_ ?_
  · rw [fill_zero, hlen] at key; exact key
  · refine Tl.step ?_
    have c3 := eq_false (show ¬ ((l.length : Int) < (l.length : Int)) by omega)
    rw [← hlen, fill_end]
    simp only [hlen]
    simp only [laws_toTaskS.l0, c3, if_false]
    exact Tl.ret _
  · intro j hj h
    refine Tl.step ?_
    have c3 := eq_true (show (j : Int) < (l.length : Int) by omega)
    have c4 := eq_true (show 0 ≤ (j : Int) by omega)
    have c5 := eq_true (show (j : Int) < (((l.map cvTask).take j ++ List.replicate ((l.map cvTask).length - j) z62).length : Int) by rw [fill_len _ _ (by omega)]; omega)
    simp only [laws_toTaskS.l0, c3, c4, c5, if_true, laws_toTask.f, Option.bind_some, Int.toNat_natCast]
    rw [fill_set _ _ (by omega) _ (by rw [getD_map cvTask l j z105 _ hj]; rfl), wrap_succ hj (by omega)]
    exact h
theorem eqTask_self (x : Task) : laws_eqTask.f x.f0 x.f1 x.f2 x.f0 x.f1 x.f2 = some true := by simp [laws_eqTask.f]
theorem eqTaskS_ev (l : List Task) (hl : l.length ≤ 1048576) : Tl (fun k => laws_eqTaskS.f k l l) true := by
  unfold laws_eqTaskS.f
  simp only [if_true]
  refine down (Q := fun j => Tl (fun k => laws_eqTaskS.l0 k l l (j : Int)) true) l.length ?_ ?_
  · refine Tl.step ?_
    have c3 := eq_false (show ¬ ((l.length : Int) < (l.length : Int)) by omega)
    simp only [laws_eqTaskS.l0, c3, if_false]
    exact Tl.ret _
  · intro j hj h
    refine Tl.step ?_
    have c3 := eq_true (show (j : Int) < (l.length : Int) by omega)
    have c4 := eq_true (show 0 ≤ (j : Int) by omega)
    simp only [laws_eqTaskS.l0, c3, c4, if_true, eqTask_self, Option.bind_some]
    rw [wrap_succ hj (by omega)]
    exact h
theorem szTaskS_f (l : List LTask) (a : Int) (h0 : 0 ≤ a) (h1 : a ≤ 1048576) (hl : l.length ≤ 9223372036854775807) : laws_szTaskS.f l a = some (if a < l.length then -1 else a - l.length) := by
  unfold laws_szTaskS.f
  rw [wrap_id (by omega) (by omega)]
  by_cases h : a < l.length
  · rw [if_pos (by omega), if_pos h]
  · rw [if_neg (by omega), if_neg h]
end Go.Proofs.Ytonifhkplniblaa.Print

namespace Go.Proofs.Ytonifhkplniblaa.Print
open Go.RowKit Go.Proofs.YtonifhkplniblaaW.PrintWords Go.Proofs.Ytonifhkplniblaa.Evs Go.Proofs.Ytonifhkplniblaa.Opens
set_option linter.unusedSimpArgs false
set_option linter.unusedVariables false
theorem spec_l1In_f (a b c : Int) : spec_l1In.f a b c = some (decide (b ≤ a ∧ a ≤ c)) := by
  unfold spec_l1In.f
  by_cases h : a ≥ b
  · have h' : b ≤ a := h
    simp [h, h']
  · have h' : ¬ b ≤ a := h
    simp [h, h']
theorem spec_TaskValid_f (x : Task) : spec_TaskValid.f x.f0 x.f1 x.f2 = some (okTask x) := by
  unfold spec_TaskValid.f okTask
  simp only [spec_l1In_f, Option.bind_some, decide_eq_true_eq]
  split
  · split
    · congr 1; rw [Bool.eq_iff_iff]; simp only [decide_eq_true_eq, Bool.false_eq_true, false_iff]; omega
    · congr 1; rw [Bool.eq_iff_iff]; simp only [decide_eq_true_eq, Bool.false_eq_true, false_iff]; omega
  · congr 1; rw [Bool.eq_iff_iff]; simp only [decide_eq_true_eq, Bool.false_eq_true, false_iff]; omega
/-- A valid set. -/
def okSet (l : List Task) : Bool := decide (l.length ≤ 5) && l.all okTask
theorem impl_SetValid_f (l : List Task) : impl_SetValid.f l = some (okSet l) := rfl
theorem impl_SetValid_ev (l : List Task) (_ : l.length ≤ 1048576) : Tl (fun _ => impl_SetValid.f l) (okSet l) := Tl.of_eq fun _ => impl_SetValid_f l
theorem spec_SetValid_ev (l : List Task) (hl : l.length ≤ 1048576) : Tl (fun k => spec_SetValid.f k l) (okSet l) := by
  have key := Tl.all (F := fun k i => spec_SetValid.l0 k l i) (n := l.length) (P := fun j => okTask (l.getD j z62)) (fin := decide (l.length ≤ 5)) ?_ ?_ ?_
  · rw [all_range] at key
    unfold okSet
    rw [Bool.and_comm]
    exact key
  · intro j hj hp r h
    refine Tl.step ?_
    have c3 := eq_true (show (j : Int) < (l.length : Int) by omega)
    have c4 := eq_true (show 0 ≤ (j : Int) by omega)
    have c5 : spec_TaskValid.f (rd_T62 l (j : Int)).f0 (rd_T62 l (j : Int)).f1 (rd_T62 l (j : Int)).f2 = some true := by rw [spec_TaskValid_f]; exact congrArg some hp
    simp only [spec_SetValid.l0, c3, c4, c5, if_true, Option.bind_some]
    rw [wrap_succ hj (by omega)]
    exact h
  · intro j hj hp
    refine Tl.step ?_
    have c3 := eq_true (show (j : Int) < (l.length : Int) by omega)
    have c4 := eq_true (show 0 ≤ (j : Int) by omega)
    have c5 : spec_TaskValid.f (rd_T62 l (j : Int)).f0 (rd_T62 l (j : Int)).f1 (rd_T62 l (j : Int)).f2 = some false := by rw [spec_TaskValid_f]; exact congrArg some hp
    simp only [spec_SetValid.l0, c3, c4, c5, if_true, Option.bind_some, Bool.false_eq_true, if_false]
    exact Tl.ret _
  · refine Tl.step ?_
    have c3 := eq_false (show ¬ ((l.length : Int) < (l.length : Int)) by omega)
    simp only [spec_SetValid.l0, c3, if_false]
    have : decide ((l.length : Int) ≤ 5) = decide (l.length ≤ 5) := by rw [decide_eq_decide]; omega
    rw [this]
    exact Tl.ret _

/-- Task j of a list. -/
def tk (l : List Task) (j : Nat) : Task := l.getD j z62
theorem rd_tk (l : List Task) (j : Nat) : rd_T62 l (j : Int) = tk l j := rfl
theorem okSet_len {l : List Task} (h : okSet l = true) : l.length ≤ 5 := by unfold okSet at h; simp at h; exact h.1
theorem okSet_tk {l : List Task} (h : okSet l = true) {j : Nat} (hj : j < l.length) : 1 ≤ (tk l j).f0 ∧ (tk l j).f0 ≤ 8 ∧ (tk l j).f0 ≤ (tk l j).f1 ∧ (tk l j).f1 ≤ (tk l j).f2 ∧ (tk l j).f2 ≤ 12 := by
  unfold okSet at h
  rw [Bool.and_eq_true, List.all_eq_true] at h
  have h1 : tk l j ∈ l := by unfold tk; simp [List.getD_eq_getElem?_getD, hj]
  have := h.2 _ h1
  unfold okTask at this
  exact of_decide_eq_true this
end Go.Proofs.Ytonifhkplniblaa.Print

namespace Go.Proofs.Ytonifhkplniblaa.Print
open Go.RowKit Go.Proofs.YtonifhkplniblaaW.PrintWords Go.Proofs.YtonifhkplniblaaW.PrintMore Go.Proofs.Ytonifhkplniblaa.Evs Go.Proofs.Ytonifhkplniblaa.Opens
set_option linter.unusedSimpArgs false
set_option linter.unusedVariables false
theorem rd_jb (l : List S67) (j : Nat) : rd_T67 l (j : Int) = jb l j := rfl
theorem rd_tk' (l : List Task) (i : Int) : rd_T62 l i = tk l i.toNat := rfl
theorem nextL_says {s : List Task} {l : List S67} (hok : okSet s = true) {n : Nat} (hin : ∀ i, i < n → (0 ≤ (jb l i).f0 ∧ (jb l i).f0 < s.length) ∧ 0 ≤ (jb l i).f1 ∧ (jb l i).f1 ≤ 119) :
    ∀ i, i ≤ n → ∀ t : Int, 0 ≤ t → t < s.length → rd (nextL s l i) t = match lastT l i t with | none => 0 | some b => b + (rd_T62 s t).f2
  | 0, _, t, h0, h1 => by
    show (List.replicate s.length (0 : Int)).getD t.toNat 0 = 0
    simp [List.getD_eq_getElem?_getD, List.getElem?_replicate]
    split <;> rfl
  | i + 1, hi, t, h0, h1 => by
    obtain ⟨⟨a1, a2⟩, a3, a4⟩ := hin i (by omega)
    have ih := nextL_says hok hin i (by omega) t h0 h1
    have hlen := nextL_len s l i
    have hgj : l.getD i z67 = jb l i := rfl
    unfold lastT
    rw [hgj]
    show ((nextL s l i).set (jb l i).f0.toNat _).getD t.toNat 0 = _
    rw [List.getD_eq_getElem?_getD, List.getElem?_set]
    by_cases e : (jb l i).f0 = t
    · rw [if_pos (by omega), if_pos (by omega), if_pos e]
      simp only [Option.getD_some]
      rw [e, rd_tk']
      have hv := okSet_tk hok (j := t.toNat) (by omega)
      exact wrap_id (by omega) (by omega)
    · rw [if_neg (by omega), if_neg e]
      rw [← List.getD_eq_getElem?_getD]
      exact ih
theorem spec_JobsLegal_ev0 (s : List Task) (l : List S67) (hs : s.length ≤ 1048576) (hl : l.length ≤ 1048576) :
    Tl (fun k => spec_JobsLegal.f k s l) (okSet s && (decide (l.length ≤ 60) && (List.range l.length).all (specAt s l))) := by
  unfold spec_JobsLegal.f
  refine Tl.bind (spec_SetValid_ev s hs) ?_
  cases hok : okSet s with
  | false => exact Tl.iteF (by simp) (Tl.ret _)
  | true =>
    have hs5 := okSet_len hok
    refine Tl.iteT rfl ?_
    by_cases h : l.length ≤ 60
    · rw [decide_eq_true h]
      exact Tl.iteT h (Tl.iteT (by omega) (Tl.ret _))
    · rw [decide_eq_false h]
      exact Tl.iteF h (Tl.ret _)
theorem legal_eq {s : List Task} (hok : okSet s = true) (l : List S67) : legalB s l = (decide (l.length ≤ 60) && (List.range l.length).all (specAt s l)) := by
  have hgj : ∀ i, l.getD i z67 = jb l i := fun _ => rfl
  have hdl : l.all (dlOk s) = (List.range l.length).all (fun i => dlOk s (jb l i)) := by
    rw [Bool.eq_iff_iff, List.all_eq_true, List.all_eq_true]
    constructor
    · intro h i hi
      have hi := List.mem_range.1 hi
      refine h _ ?_
      unfold jb
      simp [List.getD_eq_getElem?_getD, hi]
    · intro h x hx
      obtain ⟨i, hi, rfl⟩ := List.getElem_of_mem hx
      have := h i (List.mem_range.2 hi)
      simpa [jb, List.getD_eq_getElem?_getD, hi] using this
  have spc : ∀ i, i < l.length → (∀ i, i < l.length → (0 ≤ (jb l i).f0 ∧ (jb l i).f0 < s.length) ∧ 0 ≤ (jb l i).f1 ∧ (jb l i).f1 ≤ 119) → (spcAt s l i = true ↔ ¬ (jb l i).f1 < rd (nextL s l i) (jb l i).f0) := by
    intro i hi hin
    obtain ⟨⟨a1, a2⟩, a3, a4⟩ := hin i hi
    rw [nextL_says hok hin i (by omega) _ a1 a2]
    unfold spcAt
    rw [hgj]
    cases lastT l i (jb l i).f0 with
    | none => simp; omega
    | some b => simp; omega
  unfold legalB ordB
  rw [hdl, Bool.eq_iff_iff]
  simp only [Bool.and_eq_true, List.all_eq_true, List.mem_range, decide_eq_true_eq]
  constructor
  · rintro ⟨⟨h1, h2⟩, h3, h4⟩
    have hin : ∀ i, i < l.length → (0 ≤ (jb l i).f0 ∧ (jb l i).f0 < s.length) ∧ 0 ≤ (jb l i).f1 ∧ (jb l i).f1 ≤ 119 := by
      intro i hi
      have := h1 i hi
      unfold ordAt at this
      rw [Bool.and_eq_true, hgj] at this
      exact ⟨jobIn_f0 this.1, jobIn_f1 this.1⟩
    refine ⟨h2, fun i hi => ?_⟩
    have g1 := h1 i hi
    have g3 := (spc i hi hin).1 (h3 i hi)
    have g4 := h4 i hi
    unfold ordAt at g1
    rw [Bool.and_eq_true] at g1
    simp only [hgj] at g1
    obtain ⟨ga, gb⟩ := g1
    unfold jobIn at ga
    simp only [Bool.and_eq_true, decide_eq_true_eq] at ga
    unfold specAt
    rw [decide_eq_true ga.1, decide_eq_true ga.2.1, decide_eq_true ga.2.2, decide_eq_false g3, g4]
    simpa using gb
  · rintro ⟨h2, h1⟩
    have hx : ∀ i, i < l.length → (0 ≤ (jb l i).f0 ∧ (jb l i).f0 ≤ (s.length : Int) - 1) ∧ (0 ≤ (jb l i).f1 ∧ (jb l i).f1 ≤ 119) ∧ ¬ (jb l i).f1 < rd (nextL s l i) (jb l i).f0 ∧ dlOk s (jb l i) = true ∧ (1 ≤ (jb l i).f3 ∧ (jb l i).f3 ≤ (rd_T62 s (jb l i).f0).f0) ∧ (decide (0 < i) && jobBad (jb l (i - 1)) (jb l i)) = false := by
      intro i hi
      have := h1 i hi
      unfold specAt at this
      simp only [Bool.and_eq_true, Bool.not_eq_true', decide_eq_true_eq, decide_eq_false_iff_not] at this
      obtain ⟨⟨a, b⟩, ⟨c, d, e⟩, f⟩ := this
      exact ⟨a, b, c, d, e, f⟩
    have hin : ∀ i, i < l.length → (0 ≤ (jb l i).f0 ∧ (jb l i).f0 < s.length) ∧ 0 ≤ (jb l i).f1 ∧ (jb l i).f1 ≤ 119 := fun i hi => by
      obtain ⟨a, b, _⟩ := hx i hi
      exact ⟨by omega, b⟩
    refine ⟨⟨fun i hi => ?_, h2⟩, fun i hi => (spc i hi hin).2 (hx i hi).2.2.1, fun i hi => (hx i hi).2.2.2.1⟩
    obtain ⟨a, b, c, d, e, f⟩ := hx i hi
    unfold ordAt jobIn
    rw [hgj, hgj, decide_eq_true a, decide_eq_true b, decide_eq_true e, f]
    rfl
/-- A legal release pattern of a valid set. -/
def legal (s : List Task) (l : List S67) : Bool := okSet s && legalB s l
theorem impl_JobsLegal_f (s : List Task) (l : List S67) : impl_JobsLegal.f s l = some (legal s l) := by
  unfold impl_JobsLegal.f legal
  rw [impl_SetValid_f, Option.bind_some]
theorem spec_JobsLegal_ev (s : List Task) (l : List S67) (hs : s.length ≤ 1048576) (hl : l.length ≤ 1048576) : Tl (fun k => spec_JobsLegal.f k s l) (legal s l) := by
  refine (spec_JobsLegal_ev0 s l hs hl).cast ?_
  unfold legal
  cases hok : okSet s with
  | false => rfl
  | true => rw [Bool.true_and, Bool.true_and, legal_eq hok]

theorem rd_lst (o : List Int) (j : Nat) : rd o (j : Int) = o.getD j 0 := rfl
theorem bestN_congr {ok ok' : Nat → Bool} {key key' : Nat → Int} : ∀ n, (∀ i, i < n → ok i = ok' i) → (∀ i, i < n → key i = key' i) → bestN ok key n = bestN ok' key' n
  | 0, _, _ => rfl
  | n + 1, h1, h2 => by
    have ih := bestN_congr n (fun i hi => h1 i (by omega)) (fun i hi => h2 i (by omega))
    have hin := bestN_in ok' key' n
    unfold bestN
    rw [ih, h1 n (by omega), h2 n (by omega)]
    by_cases h : bestN ok' key' n < 0
    · simp [h]
    · rw [h2 (bestN ok' key' n).toNat (by omega)]
theorem legal_jobs' {s : List Task} {l : List S67} (h : legal s l = true) : l.length ≤ 60 ∧ ∀ i, i < l.length → (l.getD i z67).f3 ≤ 8 := by
  unfold legal at h
  rw [Bool.and_eq_true] at h
  exact legal_jobs (by rw [impl_SetValid_f, h.1]) h.2

theorem set_take (run : List Int) (t : Nat) (x : Int) (h : t < run.length) : (run.set t x).take (t + 1) = run.take t ++ [x] := by
  apply List.ext_getElem?
  intro i
  rw [List.getElem?_take, List.getElem?_set, List.getElem?_append]
  simp only [List.length_take, List.getElem?_take]
  rw [Nat.min_eq_left (Nat.le_of_lt h)]
  by_cases h1 : i < t
  · rw [if_pos (by omega), if_neg (by omega), if_pos h1, if_pos h1]
  · by_cases h2 : i = t
    · subst h2; simp [h]
    · rw [if_neg (by omega), if_neg h1, List.getElem?_eq_none (by simp; omega)]
end Go.Proofs.Ytonifhkplniblaa.Print

namespace Go.Proofs.Ytonifhkplniblaa.Print
open Go.RowKit Go.Proofs.YtonifhkplniblaaW.PrintWords Go.Proofs.Ytonifhkplniblaa.Evs Go.Proofs.Ytonifhkplniblaa.Opens
set_option linter.unusedSimpArgs false
abbrev LSection := S160
abbrev Section := S64
def cvSection (x : LSection) : Section := ⟨x.f0, x.f1, x.f2⟩
theorem toSectionS_ev (l : List LSection) (hl : l.length ≤ 1048576) : Tl (fun k => laws_toSectionS.f k l) (l.map cvSection) := by
  unfold laws_toSectionS.f
  have c1 := eq_true (show 0 ≤ (l.length : Int) by omega)
  have c2 := eq_true (show l.length ≤ 11728124029610 by omega)
  simp only [c1, c2, if_true, Int.toNat_natCast]
  have hlen : (l.map cvSection).length = l.length := by simp
  have key := down (Q := fun j => Tl (fun k => laws_toSectionS.l0 k l ((l.map cvSection).take j ++ List.replicate ((l.map cvSection).length - j) z64) (j : Int)) (l.map cvSection)) l.length ?_ ?_
  · rw [fill_zero, hlen] at key; exact key
  · refine Tl.step ?_
    have c3 := eq_false (show ¬ ((l.length : Int) < (l.length : Int)) by omega)
    rw [← hlen, fill_end]
    simp only [hlen]
    simp only [laws_toSectionS.l0, c3, if_false]
    exact Tl.ret _
  · intro j hj h
    refine Tl.step ?_
    have c3 := eq_true (show (j : Int) < (l.length : Int) by omega)
    have c4 := eq_true (show 0 ≤ (j : Int) by omega)
    have c5 := eq_true (show (j : Int) < (((l.map cvSection).take j ++ List.replicate ((l.map cvSection).length - j) z64).length : Int) by rw [fill_len _ _ (by omega)]; omega)
    simp only [laws_toSectionS.l0, c3, c4, c5, if_true, laws_toSection.f, Option.bind_some, Int.toNat_natCast]
    rw [fill_set _ _ (by omega) _ (by rw [getD_map cvSection l j z160 _ hj]; rfl), wrap_succ hj (by omega)]
    exact h
theorem eqSection_self (x : Section) : laws_eqSection.f x.f0 x.f1 x.f2 x.f0 x.f1 x.f2 = some true := by simp [laws_eqSection.f]
theorem eqSectionS_ev (l : List Section) (hl : l.length ≤ 1048576) : Tl (fun k => laws_eqSectionS.f k l l) true := by
  unfold laws_eqSectionS.f
  simp only [if_true]
  refine down (Q := fun j => Tl (fun k => laws_eqSectionS.l0 k l l (j : Int)) true) l.length ?_ ?_
  · refine Tl.step ?_
    have c3 := eq_false (show ¬ ((l.length : Int) < (l.length : Int)) by omega)
    simp only [laws_eqSectionS.l0, c3, if_false]
    exact Tl.ret _
  · intro j hj h
    refine Tl.step ?_
    have c3 := eq_true (show (j : Int) < (l.length : Int) by omega)
    have c4 := eq_true (show 0 ≤ (j : Int) by omega)
    simp only [laws_eqSectionS.l0, c3, c4, if_true, eqSection_self, Option.bind_some]
    rw [wrap_succ hj (by omega)]
    exact h
theorem szSectionS_f (l : List LSection) (a : Int) (h0 : 0 ≤ a) (h1 : a ≤ 1048576) (hl : l.length ≤ 9223372036854775807) : laws_szSectionS.f l a = some (if a < l.length then -1 else a - l.length) := by
  unfold laws_szSectionS.f
  rw [wrap_id (by omega) (by omega)]
  by_cases h : a < l.length
  · rw [if_pos (by omega), if_pos h]
  · rw [if_neg (by omega), if_neg h]
end Go.Proofs.Ytonifhkplniblaa.Print

namespace Go.Proofs.Ytonifhkplniblaa.Print
open Go.RowKit Go.Proofs.YtonifhkplniblaaW.PrintWords Go.Proofs.Ytonifhkplniblaa.Evs Go.Proofs.Ytonifhkplniblaa.Opens
set_option linter.unusedSimpArgs false
set_option linter.unusedVariables false
def sec (l : List Section) (j : Nat) : Section := l.getD j z64
theorem rd_sec (l : List Section) (j : Nat) : rd_T64 l (j : Int) = sec l j := rfl
def okSec (s : List Task) (l : List Section) (j : Nat) : Bool := decide ((((sec l j).f1 = 0 → (sec l j).f0 = 0 ∧ (sec l j).f2 = 0) ∧ 0 ≤ (sec l j).f1 ∧ (sec l j).f1 ≤ (tk s j).f0) ∧ 0 ≤ (sec l j).f0 ∧ (sec l j).f0 ≤ (tk s j).f0 - (sec l j).f1 ∧ 0 ≤ (sec l j).f2 ∧ (sec l j).f2 ≤ 2)
def okSecs (s : List Task) (l : List Section) : Bool := if okSet s = true ∧ l.length = s.length then (List.range l.length).all (okSec s l) else false
theorem okSecs_set {s : List Task} {l : List Section} (h : okSecs s l = true) : okSet s = true ∧ l.length = s.length := by
  unfold okSecs at h
  split at h
  · assumption
  · cases h
theorem okSecs_at {s : List Task} {l : List Section} (h : okSecs s l = true) {j : Nat} (hj : j < l.length) :
    (((sec l j).f1 = 0 → (sec l j).f0 = 0 ∧ (sec l j).f2 = 0) ∧ 0 ≤ (sec l j).f1 ∧ (sec l j).f1 ≤ (tk s j).f0) ∧ 0 ≤ (sec l j).f0 ∧ (sec l j).f0 ≤ (tk s j).f0 - (sec l j).f1 ∧ 0 ≤ (sec l j).f2 ∧ (sec l j).f2 ≤ 2 := by
  have h0 := okSecs_set h
  unfold okSecs at h
  rw [if_pos h0, List.all_eq_true] at h
  exact of_decide_eq_true (h j (by simpa using hj))
theorem secBad_ok {s : List Task} {l : List Section} (h : okSet s = true) {j : Nat} (hj : j < s.length) : secBad (sec l j) (tk s j) = !okSec s l j := by
  have ht := okSet_tk h hj
  unfold secBad okSec
  by_cases h1 : 0 ≤ (sec l j).f1 ∧ (sec l j).f1 ≤ (tk s j).f0
  · rw [wrap_id (n := (tk s j).f0 - (sec l j).f1) (by omega) (by omega), Bool.eq_iff_iff]
    simp only [Bool.or_eq_true, decide_eq_true_eq, Bool.not_eq_true', decide_eq_false_iff_not]
    omega
  · rw [decide_eq_false h1, Bool.not_false, Bool.true_or, Bool.or_true, Eq.comm, Bool.not_eq_true', decide_eq_false_iff_not]
    omega
theorem secs_all {s : List Task} {l : List Section} (h : okSet s = true) (h2 : l.length = s.length) : ∀ (n j : Nat), j + n = l.length → (impl_SectionsValid.l0 n s l j = true ↔ ∀ i, j ≤ i → i < l.length → okSec s l i = true)
  | 0, j, e => by
    unfold impl_SectionsValid.l0
    exact ⟨fun _ i h3 h4 => by omega, fun _ => rfl⟩
  | n + 1, j, e => by
    have ih := secs_all h h2 n (j + 1) (by omega)
    have hb := secBad_ok (l := l) h (show j < s.length by omega)
    show ((if secBad (sec l j) (tk s j) = true then false else impl_SectionsValid.l0 n s l (j + 1)) = true) ↔ _
    rw [hb]
    by_cases hc : okSec s l j = true
    · rw [hc, if_neg (by simp), ih]
      constructor
      · intro h3 i h4 h5
        rcases Nat.lt_or_ge j i with h6 | h6
        · exact h3 i h6 h5
        · obtain rfl : i = j := by omega
          exact hc
      · intro h3 i h4 h5
        exact h3 i (by omega) h5
    · rw [Bool.not_eq_true] at hc
      rw [hc, Bool.not_false, if_pos rfl]
      constructor
      · intro h3; cases h3
      · intro h3
        have := h3 j (Nat.le_refl _) (by omega)
        rw [hc] at this
        cases this
theorem impl_SectionsValid_ev (s : List Task) (l : List Section) (hs : s.length ≤ 1048576) (hl : l.length ≤ 1048576) : Tl (fun k => impl_SectionsValid.f k s l) (okSecs s l) := by
  unfold impl_SectionsValid.f okSecs
  refine Tl.cast (Tl.bind (impl_SetValid_ev s hs) (Tl.ret _)) ?_
  by_cases h : okSet s = true
  · rw [h, Bool.true_and]
    by_cases h2 : l.length = s.length
    · rw [if_pos ⟨rfl, h2⟩, decide_eq_true h2, Bool.true_and, Bool.eq_iff_iff, secs_all h h2 _ _ (by omega), List.all_eq_true]
      constructor
      · intro h3 j hj
        exact h3 j (by omega) (by simpa using hj)
      · intro h3 i _ hi
        exact h3 i (by simpa using hi)
    · rw [if_neg (fun h3 => h2 h3.2), decide_eq_false h2, Bool.false_and]
  · rw [if_neg (fun h3 => h h3.1)]
    rw [Bool.not_eq_true] at h
    rw [h, Bool.false_and]
theorem secs_same (s : List Task) (l : List Section) : ∀ (n j : Nat), spec_SectionsValid.l0 n s l j = impl_SectionsValid.l0 n s l j
  | 0, _ => rfl
  | n + 1, j => by
    show (if sSecBad (sec l j) (tk s j) = true then false else spec_SectionsValid.l0 n s l (j + 1)) = (if secBad (sec l j) (tk s j) = true then false else impl_SectionsValid.l0 n s l (j + 1))
    rw [secs_same s l n (j + 1)]
    rfl
theorem spec_SectionsValid_ev (s : List Task) (l : List Section) (hs : s.length ≤ 1048576) (hl : l.length ≤ 1048576) : Tl (fun k => spec_SectionsValid.f k s l) (okSecs s l) := by
  obtain ⟨k0, hk⟩ := impl_SectionsValid_ev s l hs hl
  have h1 := hk k0 (Nat.le_refl _)
  unfold impl_SectionsValid.f at h1
  rw [impl_SetValid_f, Option.bind_some] at h1
  unfold spec_SectionsValid.f
  refine Tl.cast (Tl.bind (spec_SetValid_ev s hs) (Tl.ret _)) ?_
  rw [secs_same]
  exact Option.some.inj h1
end Go.Proofs.Ytonifhkplniblaa.Print

namespace Go.Proofs.Ytonifhkplniblaa.Print
open Go.RowKit Go.Proofs.YtonifhkplniblaaW.PrintWords Go.Proofs.Ytonifhkplniblaa.Evs Go.Proofs.Ytonifhkplniblaa.Opens Go.Proofs.YtonifhkplniblaaW.PrintMore
set_option linter.unusedSimpArgs false
set_option linter.unusedVariables false
/-- The ceiling of resource r among the first j tasks. -/
def ceilN (s : List Task) (l : List Section) (r : Int) : Nat → Int
  | 0 => 13
  | j + 1 => if (sec l j).f1 > 0 ∧ (sec l j).f2 = r then mn (ceilN s l r j) (tk s j).f1 else ceilN s l r j
def ceil (s : List Task) (l : List Section) (r : Int) : Int := ceilN s l r s.length
theorem ceil_yes {s : List Task} {l : List Section} {r : Int} {j : Nat} (h1 : (sec l j).f1 > 0) (h2 : (sec l j).f2 = r) : mn (ceilN s l r j) (tk s j).f1 = ceilN s l r (j + 1) := (if_pos ⟨h1, h2⟩).symm
theorem ceil_no {s : List Task} {l : List Section} {r : Int} {j : Nat} (h : ¬ ((sec l j).f1 > 0 ∧ (sec l j).f2 = r)) : ceilN s l r j = ceilN s l r (j + 1) := (if_neg h).symm
theorem spec_ceil_ev {s : List Task} {l : List Section} (h : okSecs s l = true) (r : Int) : Tl (fun k => spec_l6Ceiling.f k s l r) (ceil s l r) := by
  unfold spec_l6Ceiling.f
  have h0 := okSecs_set h
  have hl := okSet_len h0.1
  refine down (Q := fun j => Tl (fun k => spec_l6Ceiling.l0 k s l r (ceilN s l r j) (j : Int)) (ceil s l r)) s.length ?_ ?_
  · refine Tl.step ?_
    simp only [spec_l6Ceiling.l0]
    exact Tl.iteF (by omega) (Tl.ret _)
  · intro j hj hh
    refine Tl.step ?_
    simp only [spec_l6Ceiling.l0, rd_tk, rd_sec]
    refine Tl.iteT (by omega) (Tl.iteT (by omega) (Tl.iteT (by omega) ?_))
    rw [wrap_succ hj (by omega)]
    by_cases c1 : (sec l j).f1 > 0
    · refine Tl.iteT c1 ?_
      by_cases c2 : (sec l j).f2 = r
      · rw [ceil_yes c1 c2]; exact Tl.iteT c2 hh
      · rw [ceil_no (fun h3 => c2 h3.2)]; exact Tl.iteF c2 hh
    · rw [ceil_no (fun h3 => c1 h3.1)]; exact Tl.iteF c1 hh
theorem w01 : wrap64 (0 + 1) = 1 := by unfold wrap64; omega
theorem w12 : wrap64 (1 + 1) = 2 := by unfold wrap64; omega
theorem w23 : wrap64 (2 + 1) = 3 := by unfold wrap64; omega
/-- The three ceilings. -/
def ceils (s : List Task) (l : List Section) (j : Nat) : List Int := [ceilN s l 0 j, ceilN s l 1 j, ceilN s l 2 j]
theorem rd_ceils (s : List Task) (l : List Section) (j : Nat) {r : Int} (h0 : 0 ≤ r) (h2 : r ≤ 2) : rd (ceils s l j) r = ceilN s l r j := by
  obtain rfl | rfl | rfl : r = 0 ∨ r = 1 ∨ r = 2 := by omega
  · rfl
  · rfl
  · rfl
theorem set_ceils (s : List Task) (l : List Section) {j : Nat} (h1 : (sec l j).f1 > 0) (h0 : 0 ≤ (sec l j).f2) (h2 : (sec l j).f2 ≤ 2) :
    (ceils s l j).set (sec l j).f2.toNat (mn (rd (ceils s l j) (sec l j).f2) (tk s j).f1) = ceils s l (j + 1) := by
  rw [rd_ceils _ _ _ h0 h2, ceil_yes h1 rfl]
  obtain e | e | e : (sec l j).f2 = 0 ∨ (sec l j).f2 = 1 ∨ (sec l j).f2 = 2 := by omega
  · have c1 := ceil_no (s := s) (l := l) (r := 1) (j := j) (fun h3 => by omega)
    have c2 := ceil_no (s := s) (l := l) (r := 2) (j := j) (fun h3 => by omega)
    rw [e]; unfold ceils; rw [c1, c2]; rfl
  · have c1 := ceil_no (s := s) (l := l) (r := 0) (j := j) (fun h3 => by omega)
    have c2 := ceil_no (s := s) (l := l) (r := 2) (j := j) (fun h3 => by omega)
    rw [e]; unfold ceils; rw [c1, c2]; rfl
  · have c1 := ceil_no (s := s) (l := l) (r := 0) (j := j) (fun h3 => by omega)
    have c2 := ceil_no (s := s) (l := l) (r := 1) (j := j) (fun h3 => by omega)
    rw [e]; unfold ceils; rw [c1, c2]; rfl
theorem impl_ceils_ev {s : List Task} {l : List Section} (h : okSecs s l = true) : Tl (fun k => impl_ceilings.f k s l) (ceils s l s.length) := by
  unfold impl_ceilings.f
  have h0 := okSecs_set h
  have hl := okSet_len h0.1
  refine Tl.iteT (by omega) (Tl.bind (Tl.ret _) ?_)
  have key : Tl (fun k => impl_ceilings.l1 k s (ceils s l 0) l (l.length : Int) 0) (ceils s l s.length) := by
    refine down (Q := fun j => Tl (fun k => impl_ceilings.l1 k s (ceils s l j) l (l.length : Int) (j : Int)) (ceils s l s.length)) s.length ?_ ?_
    · refine Tl.step ?_
      simp only [impl_ceilings.l1]
      exact Tl.iteF (by omega) (Tl.ret _)
    · intro j hj hh
      have hs := okSecs_at h (show j < l.length by omega)
      refine Tl.step ?_
      simp only [impl_ceilings.l1, rd_tk, rd_sec]
      refine Tl.iteT (by omega) (Tl.iteT (by omega) (Tl.iteT (by omega) ?_))
      rw [wrap_succ hj (by omega)]
      by_cases c1 : (sec l j).f1 > 0
      · rw [set_ceils s l c1 hs.2.2.2.1 hs.2.2.2.2]
        exact Tl.iteT c1 (Tl.iteT hs.2.2.2.1 (Tl.iteT (by show _ < ((3 : Nat) : Int); omega) (Tl.iteT (by omega) hh)))
      · have e : ceils s l j = ceils s l (j + 1) := by
          unfold ceils
          rw [← ceil_no (fun h3 => c1 h3.1), ← ceil_no (fun h3 => c1 h3.1), ← ceil_no (fun h3 => c1 h3.1)]
        rw [e]
        exact Tl.iteF c1 hh
  refine Tl.step ?_
  simp only [impl_ceilings.l0, List.length_replicate, List.length_set, w01, w12, w23]
  refine Tl.iteT (by omega) (Tl.iteT (by omega) (Tl.iteT (by omega) ?_))
  refine Tl.step ?_
  simp only [impl_ceilings.l0, List.length_replicate, List.length_set, w01, w12, w23]
  refine Tl.iteT (by decide) (Tl.iteT (by decide) (Tl.iteT (by decide) ?_))
  refine Tl.step ?_
  simp only [impl_ceilings.l0, List.length_replicate, List.length_set, w01, w12, w23]
  refine Tl.iteT (by decide) (Tl.iteT (by decide) (Tl.iteT (by decide) ?_))
  refine Tl.step ?_
  simp only [impl_ceilings.l0, List.length_replicate, List.length_set, w01, w12, w23]
  exact Tl.iteF (by decide) key
end Go.Proofs.Ytonifhkplniblaa.Print

namespace Go.Proofs.Ytonifhkplniblaa.Print
open Go.RowKit Go.Proofs.YtonifhkplniblaaW.PrintWords Go.Proofs.YtonifhkplniblaaW.PrintMore Go.Proofs.Ytonifhkplniblaa.Evs Go.Proofs.Ytonifhkplniblaa.Opens Go.Proofs.Ytonifhkplniblaa.Walk
set_option linter.unusedSimpArgs false
set_option linter.unusedVariables false
/-- The section of a job's task. -/
def jsec (c : List Section) (l : List S67) (j : Nat) : Section := rd_T64 c (jb l j).f0
/-- Whether a job holds its resource. -/
def heldJ (c : List Section) (l : List S67) (done : List Int) (j : Nat) : Bool :=
  decide ((jsec c l j).f1 > 0 ∧ done.getD j 0 > (jsec c l j).f0 ∧ done.getD j 0 < (jsec c l j).f0 + (jsec c l j).f1 ∧ done.getD j 0 < (jb l j).f3)
/-- The system ceiling, among the first jobs. -/
def sysN (s : List Task) (c : List Section) (l : List S67) (done : List Int) : Nat → Int
  | 0 => 13
  | j + 1 => if heldJ c l done j = true then mn (sysN s c l done j) (ceil s c (jsec c l j).f2) else sysN s c l done j
/-- What holds of the jobs' tasks and times. -/
def JobsOk (s : List Task) (l : List S67) : Prop := l.length ≤ 60 ∧ ∀ i, i < l.length → 0 ≤ (jb l i).f0 ∧ (jb l i).f0 < s.length ∧ 0 ≤ (jb l i).f1 ∧ 1 ≤ (jb l i).f3 ∧ (jb l i).f3 ≤ 8
theorem legal_ok {s : List Task} {l : List S67} (h : legal s l = true) : JobsOk s l := by
  have h1 := legal_jobs' h
  unfold legal at h
  rw [Bool.and_eq_true] at h
  have h2 := h.2
  unfold legalB at h2
  rw [Bool.and_eq_true] at h2
  obtain ⟨h3, h4⟩ := ordB_in h2.1
  refine ⟨h1.1, fun i hi => ?_⟩
  have h5 := h4 i hi
  have h6 := h1.2 i hi
  unfold jobIn at h5
  simp only [Bool.and_eq_true, decide_eq_true_eq] at h5
  have e : l.getD i z67 = jb l i := rfl
  rw [e] at h5 h6
  omega
theorem jsec_at {s : List Task} {c : List Section} {l : List S67} (h : okSecs s c = true) (hj : JobsOk s l) {i : Nat} (hi : i < l.length) :
    0 ≤ (jsec c l i).f0 ∧ 0 ≤ (jsec c l i).f1 ∧ (jsec c l i).f0 + (jsec c l i).f1 ≤ 8 ∧ 0 ≤ (jsec c l i).f2 ∧ (jsec c l i).f2 ≤ 2 := by
  have h0 := okSecs_set h
  obtain ⟨h1, h2, _⟩ := hj.2 i hi
  have h3 := okSecs_at h (j := (jb l i).f0.toNat) (by omega)
  have h4 := okSet_tk h0.1 (j := (jb l i).f0.toNat) (by omega)
  have e : jsec c l i = sec c (jb l i).f0.toNat := rfl
  rw [e]
  omega
/-- What the simulation keeps of the jobs' ticks. -/
def DoneOk (l : List S67) (done : List Int) (t : Nat) : Prop := ∀ i, i < l.length → 0 ≤ done.getD i 0 ∧ done.getD i 0 ≤ (jb l i).f3 ∧ (0 < done.getD i 0 → (jb l i).f1 ≤ (t : Int))
theorem res_pick_rdy (s : List Task) (l : List S67) (c : List Section) (top done : List Int) (t : Nat) (h : 0 ≤ (resPick s l c top () done t).1) : rdyB l done t (resPick s l c top () done t).1.toNat = true := by
  obtain ⟨b, hb⟩ : ∃ b, b = bestN (rdyB l done t) (fun i => (l.getD i z67).f2) l.length := ⟨_, rfl⟩
  obtain ⟨d, hd⟩ : ∃ d, d = bestN (fun i => rdyB l done t i && decide (done.getD i 0 > 0)) (fun i => (l.getD i z67).f2) l.length := ⟨_, rfl⟩
  have h1 : 0 ≤ b → rdyB l done t b.toNat = true := fun h => by rw [hb] at h ⊢; exact bestN_ok _ _ _ h
  have h2 : 0 ≤ d → rdyB l done t d.toNat = true := fun h => by
    rw [hd] at h ⊢
    have := bestN_ok _ _ _ h
    rw [Bool.and_eq_true] at this
    exact this.1
  unfold resPick at h ⊢
  simp only at h ⊢
  rw [← hb, ← hd] at h ⊢
  by_cases c1 : b < 0
  · rw [if_pos c1] at h ⊢; exact h1 h
  · rw [if_neg c1] at h ⊢
    by_cases c2 : done.getD b.toNat 0 > 0
    · rw [if_pos c2] at h ⊢; exact h1 h
    · rw [if_neg c2] at h ⊢
      by_cases c3 : (rd_T62 s (l.getD b.toNat z67).f0).f1 < lowN l c top done t l.length
      · rw [if_pos c3] at h ⊢; exact h1 h
      · rw [if_neg c3] at h ⊢; exact h2 h
theorem res_inv {s : List Task} {l : List S67} (hj : JobsOk s l) (c : List Section) (top : List Int) : ∀ t, DoneOk l (simN l (resPick s l c top) () t).2.1 t
  | 0 => by
    intro i hi
    have := hj.2 i hi
    unfold simN
    simp only [List.getD_eq_getElem?_getD, List.getElem?_replicate]
    rw [if_pos hi]
    simp only [Option.getD_some]
    omega
  | t + 1 => by
    have ih := res_inv hj c top t
    have hl := simN_len (jobs := l) (pick := resPick s l c top) (s0 := ()) t
    have hst : simN l (resPick s l c top) () (t + 1) = simStep l (resPick s l c top) t (simN l (resPick s l c top) () t) := rfl
    obtain ⟨X, hX⟩ : ∃ X, X = simN l (resPick s l c top) () t := ⟨_, rfl⟩
    rw [← hX] at hl hst ih
    rw [hst]
    clear hX hst
    obtain ⟨u, done, run, fin⟩ := X
    simp only at hl ih
    have hr := res_pick_rdy s l c top done t
    have hp := resPick_ok s l c top u done t hl.1
    obtain ⟨r, hr'⟩ : ∃ r, r = (resPick s l c top () done t).1 := ⟨_, rfl⟩
    rw [← hr'] at hr hp
    unfold simStep
    simp only
    rw [← hr']
    intro i hi
    have hi0 := ih i hi
    by_cases hn : r < 0
    · rw [if_pos hn]
      simp only
      omega
    · rw [if_neg hn]
      have h1 := hr (by omega)
      unfold rdyB at h1
      rw [Bool.and_eq_true, decide_eq_true_eq, decide_eq_true_eq] at h1
      have e : ∀ n, l.getD n z67 = jb l n := fun _ => rfl
      simp only [e] at h1
      have hg := getD_set' done r.toNat i (done.getD r.toNat 0 + 1)
      by_cases hri : r.toNat = i
      · rw [if_pos ⟨hri, by omega⟩] at hg
        subst hri
        split
        · simp only; rw [hg]; omega
        · simp only; rw [hg]; omega
      · rw [if_neg (by omega)] at hg
        split
        · simp only; rw [hg]; omega
        · simp only; rw [hg]; omega
theorem sys_low {s : List Task} {l : List S67} {c : List Section} (h : okSecs s c = true) (hj : JobsOk s l) {done : List Int} {t : Nat} (hd : DoneOk l done t) : ∀ j, j ≤ l.length → lowN l c (ceils s c s.length) done t j = sysN s c l done j
  | 0, _ => rfl
  | j + 1, hle => by
    have ih := sys_low h hj hd j (by omega)
    have h1 := jsec_at h hj (i := j) (by omega)
    have h2 := hd j (by omega)
    have h3 : rd (ceils s c s.length) (jsec c l j).f2 = ceil s c (jsec c l j).f2 := rd_ceils s c s.length h1.2.2.2.1 h1.2.2.2.2
    unfold lowN sysN
    have e : l.getD j z67 = jb l j := rfl
    have e2 : rd_T64 c (jb l j).f0 = jsec c l j := rfl
    unfold rdyB heldJ
    rw [e, e2, ih, h3]
    by_cases hc : (jsec c l j).f1 > 0 ∧ done.getD j 0 > (jsec c l j).f0 ∧ done.getD j 0 < (jsec c l j).f0 + (jsec c l j).f1 ∧ done.getD j 0 < (jb l j).f3
    · rw [decide_eq_true hc, if_pos rfl, if_pos (by simp only [Bool.and_eq_true, decide_eq_true_eq]; omega)]
    · rw [decide_eq_false hc, if_neg (by simp only [Bool.and_eq_true, decide_eq_true_eq]; omega), if_neg (by simp)]
theorem l6V_pick {s : List Task} {l : List S67} {c : List Section} (h : okSecs s c = true) (hj : JobsOk s l) {done : List Int} {t : Nat} (hd : DoneOk l done t) :
    l6V s l done (sysN s c l done l.length) t = (resPick s l c (ceils s c s.length) () done t).1 := by
  have e : ∀ n, l.getD n z67 = jb l n := fun _ => rfl
  have hok : ∀ i, i < l.length → okN l done t i = rdyB l done t i := fun i hi => by
    have := hd i hi
    unfold okN rdyB
    rw [e, Bool.eq_iff_iff]
    simp only [Bool.and_eq_true, Bool.not_eq_true', decide_eq_false_iff_not, decide_eq_true_eq, beq_eq_false_iff_ne, ne_eq]
    omega
  have e1 : bestN (okN l done t) (dlK l) l.length = bestN (rdyB l done t) (fun i => (l.getD i z67).f2) l.length := bestN_congr _ hok (fun _ _ => rfl)
  have e2 : bestN (okS l done t) (dlK l) l.length = bestN (fun i => rdyB l done t i && decide (done.getD i 0 > 0)) (fun i => (l.getD i z67).f2) l.length := bestN_congr _ (fun i hi => by unfold okS; rw [hok i hi]) (fun _ _ => rfl)
  have hin := bestN_in (rdyB l done t) (fun i => (l.getD i z67).f2) l.length
  unfold l6V resPick
  simp only
  rw [e1, e2, sys_low h hj hd l.length (Nat.le_refl _)]
  obtain ⟨b, hb⟩ : ∃ b, b = bestN (rdyB l done t) (fun i => (l.getD i z67).f2) l.length := ⟨_, rfl⟩
  rw [← hb] at hin ⊢
  by_cases c1 : b < 0
  · rw [if_pos c1, if_neg (by omega)]
  · have hb0 := hd b.toNat (by omega)
    rw [if_neg c1, if_pos (by omega)]
    by_cases c2 : done.getD b.toNat 0 > 0
    · rw [if_pos c2, if_neg (by omega)]
    · rw [if_neg c2, if_pos (by omega)]
      by_cases c3 : (rd_T62 s (l.getD b.toNat z67).f0).f1 < sysN s c l done l.length
      · rw [if_pos c3, if_neg (by rw [decide_eq_true_eq]; omega)]
      · rw [if_neg c3, if_pos (by rw [decide_eq_true_eq]; omega)]
theorem held_ev {c : List Section} {l : List S67} {done : List Int} {j : Nat} (h : 0 ≤ (jsec c l j).f0 ∧ 0 ≤ (jsec c l j).f1 ∧ (jsec c l j).f0 + (jsec c l j).f1 ≤ 8) :
    spec_l6Held.f (jsec c l j).f0 (jsec c l j).f1 (jsec c l j).f2 (done.getD j 0) (jb l j).f3 = some (heldJ c l done j) := by
  unfold spec_l6Held.f heldJ
  rw [wrap_id (n := (jsec c l j).f0 + (jsec c l j).f1) (by omega) (by omega)]
  by_cases c1 : (jsec c l j).f1 > 0
  · rw [if_pos c1]
    by_cases c2 : done.getD j 0 > (jsec c l j).f0
    · rw [if_pos c2]
      by_cases c3 : done.getD j 0 < (jsec c l j).f0 + (jsec c l j).f1
      · rw [if_pos c3]
        congr 1
        rw [decide_eq_decide]
        exact ⟨fun h => ⟨c1, c2, c3, h⟩, fun h => h.2.2.2⟩
      · rw [if_neg c3, decide_eq_false (fun h => c3 h.2.2.1)]
    · rw [if_neg c2, decide_eq_false (fun h => c2 h.2.1)]
  · rw [if_neg c1, decide_eq_false (fun h => c1 h.1)]
theorem spec_system_ev {s : List Task} {l : List S67} {c : List Section} (h : okSecs s c = true) (hj : JobsOk s l) {done : List Int} (hl : done.length = l.length) : Tl (fun k => spec_l6System.f k s c l done) (sysN s c l done l.length) := by
  unfold spec_l6System.f
  have h0 := okSecs_set h
  refine down (Q := fun j => Tl (fun k => spec_l6System.l0 k s c l done (sysN s c l done j) (j : Int)) (sysN s c l done l.length)) l.length ?_ ?_
  · refine Tl.step ?_
    simp only [spec_l6System.l0]
    exact Tl.iteF (by omega) (Tl.ret _)
  · intro j hj' hh
    have h1 := jsec_at h hj hj'
    have h2 := hj.2 j hj'
    have h60 := hj.1
    have hs : sysN s c l done (j + 1) = if heldJ c l done j = true then mn (sysN s c l done j) (ceil s c (jsec c l j).f2) else sysN s c l done j := rfl
    have e2 : rd_T64 c (jb l j).f0 = jsec c l j := rfl
    refine Tl.step ?_
    simp only [spec_l6System.l0, rd_jb, rd_lst]
    rw [wrap_succ (j := j) (n := l.length) (by omega) (by omega), e2, held_ev ⟨h1.1, h1.2.1, h1.2.2.1⟩]
    refine Tl.iteT (by omega) (Tl.iteT (by omega) (Tl.iteT (by omega) (Tl.iteT (by omega) (Tl.iteT (by omega) (Tl.bind (Tl.ret _) ?_)))))
    by_cases hc : heldJ c l done j = true
    · rw [if_pos hc] at hs
      rw [hs] at hh
      exact Tl.iteT hc (Tl.bind (spec_ceil_ev h _) hh)
    · rw [if_neg hc] at hs
      rw [hs] at hh
      exact Tl.iteF hc hh
theorem spec_best_f {s : List Task} {l : List S67} (hj : JobsOk s l) {done : List Int} (hl : done.length = l.length) (a b : Int) : spec_l6Best.f s l done a b = some (l6V s l done a b) := by
  unfold spec_l6Best.f
  rw [if_pos hl, if_pos hj.1, if_pos]
  unfold jobIds
  rw [List.all_eq_true]
  intro x hx
  obtain ⟨i, hi, e⟩ := List.mem_iff_getElem.1 hx
  have := hj.2 i hi
  have e2 : jb l i = x := by unfold jb; rw [List.getD_eq_getElem?_getD, List.getElem?_eq_getElem hi, ← e]; rfl
  rw [e2] at this
  simp only [Bool.and_eq_true, decide_eq_true_eq]
  omega
theorem spec_rr_ev {s : List Task} {l : List S67} {c : List Section} (h : okSecs s c = true) (hj : JobsOk s l) : ∀ d t, t + d = 120 →
    Tl (fun k => spec_RunResources.l1 k s c l (simN l (resPick s l c (ceils s c s.length)) () t).2.1 (t : Int) ((simN l (resPick s l c (ceils s c s.length)) () t).2.2.1.take t) (simN l (resPick s l c (ceils s c s.length)) () t).2.2.2)
      ((simN l (resPick s l c (ceils s c s.length)) () 120).2.2.1, (simN l (resPick s l c (ceils s c s.length)) () 120).2.2.2)
  | 0, t, ht => by
    obtain rfl : t = 120 := by omega
    have hl := simN_len (jobs := l) (pick := resPick s l c (ceils s c s.length)) (s0 := ()) 120
    refine Tl.step ?_
    simp only [spec_RunResources.l1]
    refine Tl.iteF (by omega) ?_
    rw [List.take_of_length_le (by omega)]
    exact Tl.ret _
  | d + 1, t, ht => by
    have hl := simN_len (jobs := l) (pick := resPick s l c (ceils s c s.length)) (s0 := ()) t
    have hdn := res_inv hj c (ceils s c s.length) t
    have ih := spec_rr_ev h hj d (t + 1) (by omega)
    have hst : simN l (resPick s l c (ceils s c s.length)) () (t + 1) = simStep l (resPick s l c (ceils s c s.length)) t (simN l (resPick s l c (ceils s c s.length)) () t) := rfl
    obtain ⟨X, hX⟩ : ∃ X, X = simN l (resPick s l c (ceils s c s.length)) () t := ⟨_, rfl⟩
    rw [← hX] at hl hdn hst ⊢
    rw [hst] at ih
    clear hX hst
    obtain ⟨u, done, run, fin⟩ := X
    obtain ⟨hl1, hl2, hl3⟩ := hl
    simp only at hl1 hl2 hl3 hdn ih ⊢
    have hpk := resPick_ok s l c (ceils s c s.length) u done t hl1
    have hv := l6V_pick h hj hdn
    unfold simStep at ih
    simp only at ih
    obtain ⟨r, hr⟩ : ∃ r, r = (resPick s l c (ceils s c s.length) () done t).1 := ⟨_, rfl⟩
    rw [← hr] at ih hpk hv
    refine Tl.step ?_
    simp only [spec_RunResources.l1]
    refine Tl.iteT (by omega) (Tl.bind (spec_system_ev h hj hl1) (Tl.bind (Tl.of_eq fun _ => spec_best_f hj hl1 _ _) ?_))
    rw [hv]
    refine Tl.iteT (by rw [List.length_take]; omega) ?_
    simp only [Option.bind_some]
    rw [wrap_succ (j := t) (n := 120) (by omega) (by omega)]
    rw [← set_take run t r (by omega)]
    by_cases hn : r < 0
    · rw [if_pos hn] at ih
      exact Tl.iteF (by omega) ih
    · rw [if_neg hn] at ih
      obtain ⟨n, rfl⟩ : ∃ n : Nat, r = (n : Int) := ⟨r.toNat, by omega⟩
      simp only [Int.toNat_natCast] at ih hpk ⊢
      have h3 := hpk.2.2 (by omega)
      have hn' : n < l.length := by omega
      have hx := hj.2 n hn'
      have hd' := hdn n hn'
      have hgj : l.getD n z67 = jb l n := rfl
      rw [hgj] at h3 ih
      refine Tl.iteT (by omega) (Tl.iteT (by omega) (Tl.iteT (by omega) (Tl.iteT (by omega) ?_)))
      have e2 : rd (done.set n (done.getD n 0 + 1)) (n : Int) = done.getD n 0 + 1 := by rw [rd_lst, getD_set', if_pos ⟨rfl, by omega⟩]
      rw [rd_lst done n, wrap_id (n := done.getD n 0 + 1) (by omega) (by omega), e2, rd_jb]
      by_cases he : done.getD n 0 + 1 = (jb l n).f3
      · rw [if_pos he] at ih
        exact Tl.iteT he (Tl.iteT (by omega) ih)
      · rw [if_neg he] at ih
        exact Tl.iteF he ih
/-- The schedule. -/
def resRun (s : List Task) (l : List S67) (c : List Section) : List Int × List Int := ((simN l (resPick s l c (ceils s c s.length)) () 120).2.2.1, (simN l (resPick s l c (ceils s c s.length)) () 120).2.2.2)
theorem spec_rrfill_ev {s : List Task} {l : List S67} {c : List Section} (h : okSecs s c = true) (hj : JobsOk s l) : Tl (fun k => spec_RunResources.l0 k s c l (List.replicate l.length 0) 0 []) (resRun s l c) := by
  have h60 := hj.1
  have key := down (Q := fun j => Tl (fun k => spec_RunResources.l0 k s c l (List.replicate l.length 0) (j : Int) ((List.replicate l.length (-1 : Int)).take j)) (resRun s l c)) l.length ?_ ?_
  · simpa using key
  · refine Tl.step ?_
    simp only [spec_RunResources.l0]
    refine Tl.iteF (by omega) ?_
    rw [List.take_of_length_le (by simp)]
    exact spec_rr_ev h hj 120 0 rfl
  · intro j hj' hh
    refine Tl.step ?_
    simp only [spec_RunResources.l0]
    rw [wrap_succ (j := j) (n := l.length) (by omega) (by omega)]
    refine Tl.iteT (by omega) (Tl.iteT (by rw [List.length_take]; simp; omega) ?_)
    have e2 : (List.replicate l.length (-1 : Int)).take j ++ [(-1 : Int)] = (List.replicate l.length (-1 : Int)).take (j + 1) := by
      simp only [List.take_replicate]
      rw [Nat.min_eq_left (by omega), Nat.min_eq_left (by omega), List.replicate_succ']
    rw [e2]
    exact hh
def runRes (s : List Task) (c : List Section) (l : List S67) : List Int × List Int := if okSecs s c = true then (if legal s l = true then resRun s l c else ([], [])) else ([], [])
theorem runRes_len (s : List Task) (c : List Section) (l : List S67) : (runRes s c l).1.length ≤ 120 ∧ (runRes s c l).2.length ≤ 60 := by
  unfold runRes
  split
  · split
    · rename_i h
      have hl := simN_len (jobs := l) (pick := resPick s l c (ceils s c s.length)) (s0 := ()) 120
      have h2 := (legal_jobs' h).1
      unfold resRun
      simp only
      omega
    · simp
  · simp
theorem spec_RunResources_ev (s : List Task) (c : List Section) (l : List S67) (hs : s.length ≤ 1048576) (hc : c.length ≤ 1048576) (hl : l.length ≤ 1048576) : Tl (fun k => spec_RunResources.f k s c l) (runRes s c l) := by
  unfold spec_RunResources.f runRes
  refine Tl.bind (spec_SectionsValid_ev s c hs hc) ?_
  by_cases ha : okSecs s c = true
  · rw [if_pos ha]
    refine Tl.iteT ha (Tl.bind (spec_JobsLegal_ev s l hs hl) (Tl.step ?_))
    simp only [spec_RunResources.j0]
    cases h : legal s l with
    | false => rw [if_neg (by simp)]; exact Tl.iteT (by simp) (Tl.ret _)
    | true =>
      rw [if_pos rfl]
      have h60 := (legal_ok h).1
      refine Tl.iteF (by simp) (Tl.iteT (by omega) (Tl.iteT (by omega) ?_))
      rw [Int.toNat_natCast]
      exact spec_rrfill_ev ha (legal_ok h)
  · rw [if_neg ha]
    refine Tl.iteF ha (Tl.step ?_)
    simp only [spec_RunResources.j0]
    exact Tl.iteT (by simp) (Tl.ret _)
theorem secsIn_ok {s : List Task} {c : List Section} (h : okSecs s c = true) : secsIn s c (ceils s c s.length) = true := by
  have h0 := okSecs_set h
  unfold secsIn
  rw [decide_eq_true (show (ceils s c s.length).length = 3 from rfl), decide_eq_true h0.2, Bool.true_and, Bool.true_and, List.all_eq_true]
  intro x hx
  obtain ⟨i, hi, e⟩ := List.mem_iff_getElem.1 hx
  have h1 := okSecs_at h hi
  have h2 := okSet_tk h0.1 (j := i) (by omega)
  have e2 : sec c i = x := by unfold sec; rw [List.getD_eq_getElem?_getD, List.getElem?_eq_getElem hi, ← e]; rfl
  rw [e2] at h1
  exact decide_eq_true (by omega)
theorem impl_RunResources_ev (s : List Task) (c : List Section) (l : List S67) (hs : s.length ≤ 1048576) (hc : c.length ≤ 1048576) (hl : l.length ≤ 1048576) : Tl (fun k => impl_RunResources.f k s c l) (runRes s c l) := by
  unfold impl_RunResources.f runRes
  refine Tl.bind (impl_SectionsValid_ev s c hs hc) ?_
  by_cases ha : okSecs s c = true
  · rw [if_pos ha]
    refine Tl.iteT ha (Tl.bind (Tl.of_eq fun _ => impl_JobsLegal_f s l) ?_)
    cases h : legal s l with
    | false => rw [if_neg (by simp)]; exact Tl.iteF (by simp) (Tl.ret _)
    | true =>
      rw [if_pos rfl]
      exact Tl.iteT rfl (Tl.bind (impl_ceils_ev ha) (Tl.iteT (secsIn_ok ha) (Tl.ret _)))
  · rw [if_neg ha]
    exact Tl.iteF ha (Tl.ret _)
end Go.Proofs.Ytonifhkplniblaa.Print

namespace Go.Proofs.Ytonifhkplniblaa.Print
open Go.RowKit Go.Proofs.YtonifhkplniblaaW.PrintWords Go.Proofs.Ytonifhkplniblaa.Evs Go.Proofs.Ytonifhkplniblaa.Opens
set_option linter.unusedSimpArgs false
set_option linter.unusedVariables false
theorem wrap3 {m : Int} (h0 : 0 ≤ m) (h1 : m ≤ 100000000) : wrap64 ((wrap64 ((wrap64 (m + 1)) + 1)) + 1) = m + 3 := by
  rw [wrap_id (n := m + 1) (by omega) (by omega), wrap_id (n := m + 1 + 1) (by omega) (by omega), wrap_id (n := m + 1 + 1 + 1) (by omega) (by omega)]
  omega
theorem markTaskS_at : ∀ (d j : Nat) (l : List Task) (m : Int), j + d = l.length → 0 ≤ m → m + 3 * d ≤ 100000000 → l.length ≤ 1048576 → ∃ l', Tl (fun k => laws_markTaskS.l0 k l m (j : Int)) (m + 3 * d, l')
  | 0, j, l, m, e, h0, h1, h2 => by
    refine ⟨l, Tl.step ?_⟩
    simp only [laws_markTaskS.l0]
    exact Tl.iteF (by omega) (Tl.cast (Tl.ret _) (by rw [show m + 3 * ((0 : Nat) : Int) = m by omega]))
  | d + 1, j, l, m, e, h0, h1, h2 => by
    have key : ∀ x : List Task, x.length = l.length → ∃ l', Tl (fun k => laws_markTaskS.l0 k x (m + 3) ((j + 1 : Nat) : Int)) (m + 3 + 3 * d, l') := fun x hx => markTaskS_at d (j + 1) x (m + 3) (by omega) (by omega) (by omega) (by omega)
    obtain ⟨l', hl'⟩ := key _ (show (((l.set j ⟨m, (tk l j).f1, (tk l j).f2⟩).set j ⟨(tk (l.set j ⟨m, (tk l j).f1, (tk l j).f2⟩) j).f0, wrap64 (m + 1), (tk (l.set j ⟨m, (tk l j).f1, (tk l j).f2⟩) j).f2⟩).set j ⟨(tk ((l.set j ⟨m, (tk l j).f1, (tk l j).f2⟩).set j ⟨(tk (l.set j ⟨m, (tk l j).f1, (tk l j).f2⟩) j).f0, wrap64 (m + 1), (tk (l.set j ⟨m, (tk l j).f1, (tk l j).f2⟩) j).f2⟩) j).f0, (tk ((l.set j ⟨m, (tk l j).f1, (tk l j).f2⟩).set j ⟨(tk (l.set j ⟨m, (tk l j).f1, (tk l j).f2⟩) j).f0, wrap64 (m + 1), (tk (l.set j ⟨m, (tk l j).f1, (tk l j).f2⟩) j).f2⟩) j).f1, wrap64 ((wrap64 (m + 1)) + 1)⟩).length = l.length by simp only [List.length_set])
    refine ⟨l', Tl.step ?_⟩
    simp only [laws_markTaskS.l0, rd_tk, Int.toNat_natCast, Option.bind_some]
    rw [wrap3 h0 (by omega), wrap_succ (n := l.length) (by omega) (by omega)]
    exact Tl.iteT (by omega) (Tl.iteT (by omega) (Tl.cast hl' (by rw [show m + 3 + 3 * (d : Int) = m + 3 * ((d + 1 : Nat) : Int) by omega])))
theorem markTaskS_ev (l : List Task) (m : Int) (h0 : 0 ≤ m) (h1 : m ≤ 10000000) (hl : l.length ≤ 1048576) : ∃ l', Tl (fun k => laws_markTaskS.f k l m) (m + 3 * l.length, l') :=
  markTaskS_at l.length 0 l m (by omega) h0 (by omega) hl
end Go.Proofs.Ytonifhkplniblaa.Print

namespace Go.Proofs.Ytonifhkplniblaa.Print
open Go.RowKit Go.Proofs.YtonifhkplniblaaW.PrintWords Go.Proofs.Ytonifhkplniblaa.Evs Go.Proofs.Ytonifhkplniblaa.Opens
set_option linter.unusedSimpArgs false
theorem eqIntS_ev (l : List Int) (hl : l.length ≤ 1048576) : Tl (fun k => laws_eqIntS.f k l l) true := by
  unfold laws_eqIntS.f
  simp only [if_true]
  refine down (Q := fun j => Tl (fun k => laws_eqIntS.l0 k l l (j : Int)) true) l.length ?_ ?_
  · refine Tl.step ?_
    have c3 := eq_false (show ¬ ((l.length : Int) < (l.length : Int)) by omega)
    simp only [laws_eqIntS.l0, c3, if_false]
    exact Tl.ret _
  · intro j hj h
    refine Tl.step ?_
    have c3 := eq_true (show (j : Int) < (l.length : Int) by omega)
    have c4 := eq_true (show 0 ≤ (j : Int) by omega)
    simp only [laws_eqIntS.l0, c3, c4, if_true]
    rw [wrap_succ hj (by omega)]
    exact h
end Go.Proofs.Ytonifhkplniblaa.Print

namespace Go.Proofs.Ytonifhkplniblaa.Print
open Go.RowKit Go.Proofs.YtonifhkplniblaaW.PrintWords Go.Proofs.Ytonifhkplniblaa.Evs Go.Proofs.Ytonifhkplniblaa.Opens
set_option linter.unusedSimpArgs false
set_option linter.unusedVariables false
/-- A row marked with m, m + 1, .. -/
structure Marked (l : List Int) (m : Int) (n : Nat) : Prop where
  len : l.length = n
  at_ : ∀ i, i < n → l.getD i 0 = m + i
theorem markIntS_at : ∀ (d j : Nat) (l : List Int) (m : Int), j + d = l.length → 0 ≤ m → m + l.length ≤ 100000000 → (∀ i, i < j → l.getD i 0 = m + i) → ∃ l', Marked l' m l.length ∧ Tl (fun k => laws_markIntS.l0 k l (m + j) (j : Int)) (m + l.length, l')
  | 0, j, l, m, e, h0, h1, hm => by
    refine ⟨l, ⟨rfl, fun i hi => hm i (by omega)⟩, Tl.step ?_⟩
    simp only [laws_markIntS.l0]
    exact Tl.iteF (by omega) (Tl.cast (Tl.ret _) (by rw [show m + (j : Int) = m + (l.length : Int) by omega]))
  | d + 1, j, l, m, e, h0, h1, hm => by
    obtain ⟨l', h2, h3⟩ := markIntS_at d (j + 1) (l.set j (m + j)) m (by rw [List.length_set]; omega) h0 (by rw [List.length_set]; exact h1) (fun i hi => by
      by_cases hij : i = j
      · subst hij
        simp [List.getD_eq_getElem?_getD, List.getElem?_set, show i < l.length by omega]
      · have := hm i (by omega)
        rw [← this]
        simp [List.getD_eq_getElem?_getD, List.getElem?_set, show ¬ j = i by omega])
    rw [List.length_set] at h2 h3
    refine ⟨l', h2, Tl.step ?_⟩
    simp only [laws_markIntS.l0, Int.toNat_natCast]
    rw [wrap_id (n := m + (j : Int) + 1) (by omega) (by omega), wrap_succ (n := l.length) (by omega) (by omega), show m + (j : Int) + 1 = m + ((j + 1 : Nat) : Int) by omega]
    exact Tl.iteT (by omega) (Tl.iteT (by omega) h3)
theorem markIntS_ev (l : List Int) (m : Int) (h0 : 0 ≤ m) (h1 : m ≤ 10000000) (hl : l.length ≤ 1048576) : ∃ l', Marked l' m l.length ∧ Tl (fun k => laws_markIntS.f k l m) (m + l.length, l') := by
  obtain ⟨l', h2, h3⟩ := markIntS_at l.length 0 l m (by omega) h0 (by omega) (fun i hi => by omega)
  rw [show m + ((0 : Nat) : Int) = m by omega] at h3
  exact ⟨l', h2, h3⟩
theorem heldIntS_ev {l : List Int} {m : Int} {n : Nat} (h : Marked l m n) (h0 : 0 ≤ m) (h1 : m ≤ 10000000) (hl : n ≤ 1048576) : Tl (fun k => laws_heldIntS.f k l m) (m + n) := by
  unfold laws_heldIntS.f
  have he := h.len
  have key := down (Q := fun j => Tl (fun k => laws_heldIntS.l0 k l (m + j) (j : Int)) (m + n)) n ?_ ?_
  · rw [show m + ((0 : Nat) : Int) = m by omega] at key; exact key
  · refine Tl.step ?_
    simp only [laws_heldIntS.l0]
    exact Tl.iteF (by omega) (Tl.ret _)
  · intro j hj hh
    refine Tl.step ?_
    have ha : rd l (j : Int) = m + j := h.at_ j hj
    simp only [laws_heldIntS.l0, ha]
    rw [wrap_id (n := m + (j : Int) + 1) (by omega) (by omega), wrap_succ hj (by omega), show m + (j : Int) + 1 = m + ((j + 1 : Nat) : Int) by omega]
    exact Tl.iteT (by omega) (Tl.iteT (by omega) (Tl.iteT (by trivial) hh))

theorem eqSched_ev (a b : List Int) (ha : a.length ≤ 1048576) (hb : b.length ≤ 1048576) : Tl (fun k => laws_eqSchedule.f k a b a b) true := by
  unfold laws_eqSchedule.f
  exact Tl.bind (eqIntS_ev a ha) (Tl.iteT rfl (Tl.bind (eqIntS_ev b hb) (Tl.iteT rfl (Tl.ret _))))
theorem markSchedM_ev (a b : List Int) (m : Int) (h0 : 0 ≤ m) (h1 : m ≤ 5000000) (ha : a.length ≤ 1048576) (hb : b.length ≤ 1048576) : ∃ t u, Marked t m a.length ∧ Marked u (m + a.length) b.length ∧ Tl (fun k => laws_markSchedule.f k a b m) (m + a.length + b.length, t, u) := by
  obtain ⟨t, mt, ht⟩ := markIntS_ev a m h0 (by omega) ha
  obtain ⟨u, mu, hu⟩ := markIntS_ev b (m + a.length) (by omega) (by omega) hb
  refine ⟨t, u, mt, mu, ?_⟩
  unfold laws_markSchedule.f
  exact Tl.bind ht (Tl.bind hu (Tl.ret _))
theorem heldSched_ev {t u : List Int} {m : Int} {p q : Nat} (ht : Marked t m p) (hu : Marked u (m + p) q) (h0 : 0 ≤ m) (h1 : m ≤ 5000000) (hp : p ≤ 1048576) (hq : q ≤ 1048576) : Tl (fun k => laws_heldSchedule.f k t u m) (m + p + q) := by
  unfold laws_heldSchedule.f
  exact Tl.bind (heldIntS_ev ht h0 (by omega) hp) (Tl.iteF (by omega) (Tl.bind (heldIntS_ev hu (by omega) (by omega) hq) (Tl.iteF (by omega) (Tl.ret _))))

theorem markSectionS_at : ∀ (d j : Nat) (l : List Section) (m : Int), j + d = l.length → 0 ≤ m → m + 3 * d ≤ 100000000 → l.length ≤ 1048576 → ∃ l', Tl (fun k => laws_markSectionS.l0 k l m (j : Int)) (m + 3 * d, l')
  | 0, j, l, m, e, h0, h1, h2 => by
    refine ⟨l, Tl.step ?_⟩
    simp only [laws_markSectionS.l0]
    exact Tl.iteF (by omega) (Tl.cast (Tl.ret _) (by rw [show m + 3 * ((0 : Nat) : Int) = m by omega]))
  | d + 1, j, l, m, e, h0, h1, h2 => by
    have key : ∀ x : List Section, x.length = l.length → ∃ l', Tl (fun k => laws_markSectionS.l0 k x (m + 3) ((j + 1 : Nat) : Int)) (m + 3 + 3 * d, l') := fun x hx => markSectionS_at d (j + 1) x (m + 3) (by omega) (by omega) (by omega) (by omega)
    obtain ⟨l', hl'⟩ := key _ (show (((l.set j ⟨m, (sec l j).f1, (sec l j).f2⟩).set j ⟨(sec (l.set j ⟨m, (sec l j).f1, (sec l j).f2⟩) j).f0, wrap64 (m + 1), (sec (l.set j ⟨m, (sec l j).f1, (sec l j).f2⟩) j).f2⟩).set j ⟨(sec ((l.set j ⟨m, (sec l j).f1, (sec l j).f2⟩).set j ⟨(sec (l.set j ⟨m, (sec l j).f1, (sec l j).f2⟩) j).f0, wrap64 (m + 1), (sec (l.set j ⟨m, (sec l j).f1, (sec l j).f2⟩) j).f2⟩) j).f0, (sec ((l.set j ⟨m, (sec l j).f1, (sec l j).f2⟩).set j ⟨(sec (l.set j ⟨m, (sec l j).f1, (sec l j).f2⟩) j).f0, wrap64 (m + 1), (sec (l.set j ⟨m, (sec l j).f1, (sec l j).f2⟩) j).f2⟩) j).f1, wrap64 ((wrap64 (m + 1)) + 1)⟩).length = l.length by simp only [List.length_set])
    refine ⟨l', Tl.step ?_⟩
    simp only [laws_markSectionS.l0, rd_sec, Int.toNat_natCast, Option.bind_some]
    rw [wrap3 h0 (by omega), wrap_succ (n := l.length) (by omega) (by omega)]
    exact Tl.iteT (by omega) (Tl.iteT (by omega) (Tl.cast hl' (by rw [show m + 3 + 3 * (d : Int) = m + 3 * ((d + 1 : Nat) : Int) by omega])))
theorem markSectionS_ev (l : List Section) (m : Int) (h0 : 0 ≤ m) (h1 : m ≤ 10000000) (hl : l.length ≤ 1048576) : ∃ l', Tl (fun k => laws_markSectionS.f k l m) (m + 3 * l.length, l') :=
  markSectionS_at l.length 0 l m (by omega) h0 (by omega) hl
end Go.Proofs.Ytonifhkplniblaa.Print

namespace Go.Proofs.Ytonifhkplniblaa.Print
open Go.RowKit Go.Proofs.YtonifhkplniblaaW.PrintWords Go.Proofs.Ytonifhkplniblaa.Evs Go.Proofs.Ytonifhkplniblaa.Opens
set_option linter.unusedSimpArgs false
abbrev Job := S67
theorem eqJob_self (x : Job) : laws_eqJob.f x.f0 x.f1 x.f2 x.f3 x.f0 x.f1 x.f2 x.f3 = some true := by simp [laws_eqJob.f]
theorem eqJobS_ev (l : List Job) (hl : l.length ≤ 1048576) : Tl (fun k => laws_eqJobS.f k l l) true := by
  unfold laws_eqJobS.f
  simp only [if_true]
  refine down (Q := fun j => Tl (fun k => laws_eqJobS.l0 k l l (j : Int)) true) l.length ?_ ?_
  · refine Tl.step ?_
    have c3 := eq_false (show ¬ ((l.length : Int) < (l.length : Int)) by omega)
    simp only [laws_eqJobS.l0, c3, if_false]
    exact Tl.ret _
  · intro j hj h
    refine Tl.step ?_
    have c3 := eq_true (show (j : Int) < (l.length : Int) by omega)
    have c4 := eq_true (show 0 ≤ (j : Int) by omega)
    simp only [laws_eqJobS.l0, c3, c4, if_true, eqJob_self, Option.bind_some]
    rw [wrap_succ hj (by omega)]
    exact h
end Go.Proofs.Ytonifhkplniblaa.Print

namespace Go.Proofs.Ytonifhkplniblaa.Print
open Go.RowKit Go.Proofs.YtonifhkplniblaaW.PrintWords Go.Proofs.Ytonifhkplniblaa.Evs Go.Proofs.Ytonifhkplniblaa.Opens
set_option linter.unusedSimpArgs false
set_option linter.unusedVariables false
theorem wrap4 {m : Int} (h0 : 0 ≤ m) (h1 : m ≤ 100000000) : wrap64 ((wrap64 ((wrap64 ((wrap64 (m + 1)) + 1)) + 1)) + 1) = m + 4 := by
  rw [wrap_id (n := m + 1) (by omega) (by omega), wrap_id (n := m + 1 + 1) (by omega) (by omega), wrap_id (n := m + 1 + 1 + 1) (by omega) (by omega), wrap_id (n := m + 1 + 1 + 1 + 1) (by omega) (by omega)]
  omega
def jm (l : List Job) (j : Nat) : Job := l.getD j z67
theorem rd_jm (l : List Job) (j : Nat) : rd_T67 l (j : Int) = jm l j := rfl
theorem jm_set (l : List Job) (v : Job) {j : Nat} (h : j < l.length) : jm (l.set j v) j = v := by
  unfold jm; simp [List.getD_eq_getElem?_getD, List.getElem?_set, h]
theorem markJobS_at : ∀ (d j : Nat) (l : List Job) (m : Int), j + d = l.length → 0 ≤ m → m + 4 * d ≤ 100000000 → l.length ≤ 1048576 → ∃ l', Tl (fun k => laws_markJobS.l0 k l m (j : Int)) (m + 4 * d, l')
  | 0, j, l, m, e, h0, h1, h2 => by
    refine ⟨l, Tl.step ?_⟩
    simp only [laws_markJobS.l0]
    exact Tl.iteF (by omega) (Tl.cast (Tl.ret _) (by rw [show m + 4 * ((0 : Nat) : Int) = m by omega]))
  | d + 1, j, l, m, e, h0, h1, h2 => by
    have key : ∀ x : List Job, x.length = l.length → ∃ l', Tl (fun k => laws_markJobS.l0 k x (m + 4) ((j + 1 : Nat) : Int)) (m + 4 + 4 * d, l') := fun x hx => markJobS_at d (j + 1) x (m + 4) (by omega) (by omega) (by omega) (by omega)
    have hj : j < l.length := by omega
    obtain ⟨l', hl'⟩ := key (l.set j ⟨m, wrap64 (m + 1), wrap64 ((wrap64 (m + 1)) + 1), wrap64 ((wrap64 ((wrap64 (m + 1)) + 1)) + 1)⟩) (by rw [List.length_set])
    refine ⟨l', Tl.step ?_⟩
    simp only [laws_markJobS.l0, rd_jm, Int.toNat_natCast, Option.bind_some]
    simp only [List.set_set, jm_set _ _ hj, List.length_set]
    rw [wrap4 h0 (by omega), wrap_succ (n := l.length) (by omega) (by omega)]
    exact Tl.iteT (by omega) (Tl.iteT (by omega) (Tl.cast hl' (by rw [show m + 4 + 4 * (d : Int) = m + 4 * ((d + 1 : Nat) : Int) by omega])))
theorem markJobS_ev (l : List Job) (m : Int) (h0 : 0 ≤ m) (h1 : m ≤ 10000000) (hl : l.length ≤ 1048576) : ∃ l', Tl (fun k => laws_markJobS.f k l m) (m + 4 * l.length, l') :=
  markJobS_at l.length 0 l m (by omega) h0 (by omega) hl
end Go.Proofs.Ytonifhkplniblaa.Print

namespace Go.Proofs.Ytonifhkplniblaa.Print
open Go.RowKit Go.Proofs.YtonifhkplniblaaW.PrintWords Go.Proofs.Ytonifhkplniblaa.Evs Go.Proofs.Ytonifhkplniblaa.Opens
set_option linter.unusedSimpArgs false
abbrev LJob := S107
def cvJob (x : LJob) : Job := ⟨x.f0, x.f1, x.f2, x.f3⟩
theorem toJobS_ev (l : List LJob) (hl : l.length ≤ 1048576) : Tl (fun k => laws_toJobS.f k l) (l.map cvJob) := by
  unfold laws_toJobS.f
  have c1 := eq_true (show 0 ≤ (l.length : Int) by omega)
  have c2 := eq_true (show l.length ≤ 8796093022208 by omega)
  simp only [c1, c2, if_true, Int.toNat_natCast]
  have hlen : (l.map cvJob).length = l.length := by simp
  have key := down (Q := fun j => Tl (fun k => laws_toJobS.l0 k l ((l.map cvJob).take j ++ List.replicate ((l.map cvJob).length - j) z67) (j : Int)) (l.map cvJob)) l.length ?_ ?_
  · rw [fill_zero, hlen] at key; exact key
  · refine Tl.step ?_
    have c3 := eq_false (show ¬ ((l.length : Int) < (l.length : Int)) by omega)
    rw [← hlen, fill_end]
    simp only [hlen]
    simp only [laws_toJobS.l0, c3, if_false]
    exact Tl.ret _
  · intro j hj h
    refine Tl.step ?_
    have c3 := eq_true (show (j : Int) < (l.length : Int) by omega)
    have c4 := eq_true (show 0 ≤ (j : Int) by omega)
    have c5 := eq_true (show (j : Int) < (((l.map cvJob).take j ++ List.replicate ((l.map cvJob).length - j) z67).length : Int) by rw [fill_len _ _ (by omega)]; omega)
    simp only [laws_toJobS.l0, c3, c4, c5, if_true, laws_toJob.f, Option.bind_some, Int.toNat_natCast]
    rw [fill_set _ _ (by omega) _ (by rw [getD_map cvJob l j z107 _ hj]; rfl), wrap_succ hj (by omega)]
    exact h
theorem szJobS_f (l : List LJob) (a : Int) (h0 : 0 ≤ a) (h1 : a ≤ 1048576) (hl : l.length ≤ 9223372036854775807) : laws_szJobS.f l a = some (if a < l.length then -1 else a - l.length) := by
  unfold laws_szJobS.f
  rw [wrap_id (by omega) (by omega)]
  by_cases h : a < l.length
  · rw [if_pos (by omega), if_pos h]
  · rw [if_neg (by omega), if_neg h]
end Go.Proofs.Ytonifhkplniblaa.Print

namespace Go.Proofs.Ytonifhkplniblaa.Print
open Go.RowKit Go.Proofs.YtonifhkplniblaaW.PrintWords Go.Proofs.Ytonifhkplniblaa.Evs Go.Proofs.Ytonifhkplniblaa.Opens
set_option linter.unusedSimpArgs false
set_option linter.unusedVariables false
set_option maxHeartbeats 1000000 in
theorem FnExactRunResources_pure : PureFnExactRunResources := by
  intro x0 x1 x2 w0 w1 w2
  apply Tl.once
  unfold laws_FnExactRunResources.f
  refine Tl.bind (Tl.of_eq fun _ => szTaskS_f x0 _ (by omega) (by omega) w0.1) ?_
  by_cases g0 : (1048576 : Int) < x0.length
  · rw [if_pos g0]; exact Tl.iteT (by omega) (Tl.ret _)
  rw [if_neg g0]
  refine Tl.iteF (by omega) ?_
  refine Tl.bind (Tl.of_eq fun _ => szSectionS_f x1 _ (by omega) (by omega) w1.1) ?_
  by_cases g1 : (1048576 - x0.length : Int) < x1.length
  · rw [if_pos g1]; exact Tl.iteT (by omega) (Tl.ret _)
  rw [if_neg g1]
  refine Tl.iteF (by omega) ?_
  refine Tl.bind (Tl.of_eq fun _ => szJobS_f x2 _ (by omega) (by omega) w2.1) ?_
  by_cases g2 : (1048576 - x0.length - x1.length : Int) < x2.length
  · rw [if_pos g2]; exact Tl.iteT (by omega) (Tl.ret _)
  rw [if_neg g2]
  refine Tl.iteF (by omega) ?_
  have hl0 : x0.length ≤ 1048576 := by omega
  have hm0 : (x0.map cvTask).length ≤ 1048576 := by simpa using hl0
  have hl1 : x1.length ≤ 1048576 := by omega
  have hm1 : (x1.map cvSection).length ≤ 1048576 := by simpa using hl1
  have hl2 : x2.length ≤ 1048576 := by omega
  have hm2 : (x2.map cvJob).length ≤ 1048576 := by simpa using hl2
  have HS := spec_RunResources_ev (x0.map cvTask) (x1.map cvSection) (x2.map cvJob) hm0 hm1 hm2
  have HI := impl_RunResources_ev (x0.map cvTask) (x1.map cvSection) (x2.map cvJob) hm0 hm1 hm2
  have hd := runRes_len (x0.map cvTask) (x1.map cvSection) (x2.map cvJob)
  generalize runRes (x0.map cvTask) (x1.map cvSection) (x2.map cvJob) = D at HS HI hd
  obtain ⟨D1, D2⟩ := D
  simp only at hd
  have HE := eqSched_ev D1 D2 (by omega) (by omega)
  obtain ⟨t1, m1⟩ := markTaskS_ev (x0.map cvTask) 1 (by omega) (by omega) hm0
  obtain ⟨t5, m5⟩ := markSectionS_ev (x1.map cvSection) (1 + 3 * ((x0.map cvTask).length : Int)) (by omega) (by omega) hm1
  obtain ⟨t2, m2⟩ := markJobS_ev (x2.map cvJob) (1 + 3 * ((x0.map cvTask).length : Int) + 3 * ((x1.map cvSection).length : Int)) (by omega) (by omega) hm2
  obtain ⟨t3, t4, mk3, mk4, m3⟩ := markSchedM_ev D1 D2 1 (by omega) (by omega) (by omega) (by omega)
  have m4 := heldSched_ev mk3 mk4 (by omega) (by omega) (by omega) (by omega)
  repeat (first
    | exact Tl.ret _
    | with_reducible refine Tl.bind (toTaskS_ev x0 hl0) ?_
    | with_reducible refine Tl.bind (eqTaskS_ev (x0.map cvTask) hm0) ?_
    | with_reducible refine Tl.bind (toSectionS_ev x1 hl1) ?_
    | with_reducible refine Tl.bind (eqSectionS_ev (x1.map cvSection) hm1) ?_
    | with_reducible refine Tl.bind (toJobS_ev x2 hl2) ?_
    | with_reducible refine Tl.bind (eqJobS_ev (x2.map cvJob) hm2) ?_
    | with_reducible refine Tl.bind HE ?_
    | with_reducible refine Tl.bind m1 ?_
    | with_reducible refine Tl.bind m5 ?_
    | with_reducible refine Tl.bind m2 ?_
    | with_reducible refine Tl.bind m3 ?_
    | with_reducible refine Tl.bind m4 ?_
    | with_reducible refine Tl.iteF (by omega) ?_
    | with_reducible refine Tl.bind HS ?_
    | with_reducible refine Tl.bind HI ?_
    | with_reducible refine Tl.iteT rfl ?_
    | with_reducible refine Tl.iteF (by simp) ?_
    | dsimp only
    | (refine Tl.step ?_; simp only [laws_FnExactRunResources.j0]))
end Go.Proofs.Ytonifhkplniblaa.Print
