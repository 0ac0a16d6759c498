/- What the program and the reference compute, and that both agree. No condition. -/
import Derived.Test.YtonifhkplniblaaPO
import Derived.Test.YtonifhkplniblaaZFnExactJobsLegalP2
import Derived.RowKit
import Derived.WalkKit
import Derived.Test.YtonifhkplniblaaZFnExactJobsLegalP1
import Derived.Test.YtonifhkplniblaaZFnExactJobsLegalP0
namespace Go.Proofs.Ytonifhkplniblaa.Print
open Go.RowKit Go.Proofs.YtonifhkplniblaaW.PrintWords Go.Proofs.YtonifhkplniblaaW.PrintLast Go.Proofs.YtonifhkplniblaaW.PrintMore
attribute [local go_sem] max2_int min2_int max_two min_two max_three min_three max_four min_four   -- for this text's walks alone
set_option linter.unusedVariables false
set_option linter.unusedSimpArgs false

open Go.Proofs.Ytonifhkplniblaa.Opens
/-- The pure statement of FnExactJobsLegal. -/
def PureFnExactJobsLegal : Prop := ∀ (x0 : List (S105)) (x1 : List (S107)), (wfL wf105) x0 → (wfL wf107) x1 → ∃ k, laws_FnExactJobsLegal.f k x0 x1 = some true
end Go.Proofs.Ytonifhkplniblaa.Print

namespace Go.Proofs.Ytonifhkplniblaa.Evs
open Go.RowKit
set_option linter.unusedSimpArgs false
set_option linter.unusedVariables false

/-- From some number of rounds on, g tells r. -/
def Tl {α : Type} (g : Nat → Option α) (r : α) : Prop := ∃ k0, ∀ k, k0 ≤ k → g k = some r

theorem Tl.ret {α : Type} (r : α) : Tl (fun _ => some r) r := ⟨0, fun _ _ => rfl⟩
theorem Tl.of_eq {α : Type} {g : Nat → Option α} {r : α} (h : ∀ k, g k = some r) : Tl g r := ⟨0, fun k _ => h k⟩
theorem Tl.step {α : Type} {g : Nat → Option α} {r : α} (h : Tl (fun k => g (k + 1)) r) : Tl g r := by
  obtain ⟨k0, hk⟩ := h
  refine ⟨k0 + 1, fun k hle => ?_⟩
  obtain ⟨m, rfl⟩ : ∃ m, k = m + 1 := ⟨k - 1, by omega⟩
  exact hk m (by omega)
theorem Tl.bind {α β : Type} {g : Nat → Option α} {a : α} {f : α → Nat → Option β} {r : β} (h : Tl g a) (h2 : Tl (f a) r) : Tl (fun k => (g k).bind fun x => f x k) r := by
  obtain ⟨k0, hk⟩ := h
  obtain ⟨k1, hk1⟩ := h2
  refine ⟨max k0 k1, fun k hle => ?_⟩
  show (g k).bind (fun x => f x k) = some r
  rw [hk k (by omega), Option.bind_some]
  exact hk1 k (by omega)
theorem Tl.once {α : Type} {g : Nat → Option α} {r : α} (h : Tl g r) : ∃ k, g k = some r := by
  obtain ⟨k0, hk⟩ := h
  exact ⟨k0, hk k0 (Nat.le_refl _)⟩
theorem Tl.cast {α : Type} {g : Nat → Option α} {r r' : α} (h : Tl g r) (e : r = r') : Tl g r' := e ▸ h
theorem Tl.iteT {α : Type} {c : Prop} [Decidable c] {g g' : Nat → Option α} {r : α} (hc : c) (h : Tl g r) : Tl (fun k => if c then g k else g' k) r := by simpa only [if_pos hc] using h
theorem Tl.iteF {α : Type} {c : Prop} [Decidable c] {g g' : Nat → Option α} {r : α} (hc : ¬ c) (h : Tl g' r) : Tl (fun k => if c then g k else g' k) r := by simpa only [if_neg hc] using h

/-- Downwards. -/
theorem down {Q : Nat → Prop} (n : Nat) (he : Q n) (hs : ∀ j, j < n → Q (j + 1) → Q j) : Q 0 := by
  induction n with
  | zero => exact he
  | succ n ih => exact ih (hs n (by omega) he) (fun j hj => hs j (by omega))
theorem downFrom {Q : Nat → Prop} {m n : Nat} (hm : m ≤ n) (he : Q n) (hs : ∀ j, m ≤ j → j < n → Q (j + 1) → Q j) : Q m := by
  obtain ⟨d, rfl⟩ : ∃ d, n = m + d := ⟨n - m, by omega⟩
  induction d with
  | zero => exact he
  | succ d ih => exact ih (by omega) (hs (m + d) (by omega) (by omega) he) (fun j h1 h2 => hs j h1 (by omega))

/-- A loop that asks something of each index, and stops at the first 'no'. -/
theorem Tl.all {F : Nat → Int → Option Bool} {n : Nat} {P : Nat → Bool} {fin : Bool}
    (ht : ∀ j, j < n → P j = true → ∀ r, Tl (fun k => F k ((j + 1 : Nat) : Int)) r → Tl (fun k => F k (j : Int)) r)
    (hf : ∀ j, j < n → P j = false → Tl (fun k => F k (j : Int)) false) (he : Tl (fun k => F k (n : Int)) fin) :
    Tl (fun k => F k 0) ((List.range n).all P && fin) := by
  by_cases hall : ∀ j, j < n → P j = true
  · have h1 : ((List.range n).all P) = true := by simpa using hall
    rw [h1, Bool.true_and]
    exact down (Q := fun j => Tl (fun k => F k (j : Int)) fin) n he (fun j hj h => ht j hj (hall j hj) _ h)
  · have h1 : ((List.range n).all P) = false := by simpa using hall
    rw [h1, Bool.false_and]
    clear h1
    have key : ∀ m, m ≤ n → (∃ j, j < m ∧ P j = false) → Tl (fun k => F k 0) false := by
      intro m
      induction m with
      | zero => rintro _ ⟨j, hj, _⟩; omega
      | succ m ih =>
        rintro hm ⟨j, hj, hp⟩
        by_cases hlow : ∃ j, j < m ∧ P j = false
        · exact ih (by omega) hlow
        · have hjm : j = m := by
            rcases Nat.lt_or_ge j m with h | h
            · exact absurd ⟨j, h, hp⟩ hlow
            · omega
          subst hjm
          refine down (Q := fun j => Tl (fun k => F k (j : Int)) false) j (hf j (by omega) hp) (fun i hi h => ht i (by omega) ?_ _ h)
          cases hpi : P i
          · exact absurd ⟨i, hi, hpi⟩ hlow
          · rfl
    refine key n (Nat.le_refl _) ?_
    apply Classical.byContradiction
    intro hno
    refine hall (fun j hj => ?_)
    cases hp : P j
    · exact absurd ⟨j, hj, hp⟩ hno
    · rfl

theorem wrap_id {n : Int} (h1 : -9223372036854775808 ≤ n) (h2 : n ≤ 9223372036854775807) : wrap64 n = n := by unfold wrap64; omega
theorem wrap_succ {j n : Nat} (h : j < n) (hn : n ≤ 9223372036854775807) : wrap64 ((j : Int) + 1) = ((j + 1 : Nat) : Int) := by unfold wrap64; omega
theorem wrap_pred {j n : Nat} (h : j < n) (h0 : 0 < j) (hn : n ≤ 9223372036854775807) : wrap64 ((j : Int) - 1) = ((j - 1 : Nat) : Int) := by unfold wrap64; omega
end Go.Proofs.Ytonifhkplniblaa.Evs

namespace Go.Proofs.Ytonifhkplniblaa.Evs
theorem fill_zero {α : Type} (xs : List α) (z : α) : xs.take 0 ++ List.replicate (xs.length - 0) z = List.replicate xs.length z := by simp
theorem fill_set {α : Type} (xs : List α) (z : α) {j : Nat} (hj : j < xs.length) (x : α) (hx : x = xs.getD j z) :
    (xs.take j ++ List.replicate (xs.length - j) z).set j x = xs.take (j + 1) ++ List.replicate (xs.length - (j + 1)) z := by
  have h1 : (xs.take j).length = j := by simp; omega
  rw [List.set_append_right _ _ (by omega), h1, Nat.sub_self]
  obtain ⟨m, hm⟩ : ∃ m, xs.length - j = m + 1 := ⟨xs.length - j - 1, by omega⟩
  rw [hm, List.replicate_succ, List.set_cons_zero, List.take_succ_eq_append_getElem hj, List.append_assoc, hx]
  have h2 : xs.length - (j + 1) = m := by omega
  rw [h2]
  simp [List.getD_eq_getElem?_getD, hj]
theorem fill_len {α : Type} (xs : List α) (z : α) {j : Nat} (hj : j ≤ xs.length) : (xs.take j ++ List.replicate (xs.length - j) z).length = xs.length := by simp; omega
theorem fill_end {α : Type} (xs : List α) (z : α) : xs.take xs.length ++ List.replicate (xs.length - xs.length) z = xs := by simp
theorem getD_map {α β : Type} (f : α → β) (l : List α) (j : Nat) (z : α) (z' : β) (hj : j < l.length) : (l.map f).getD j z' = f (l.getD j z) := by simp [List.getD_eq_getElem?_getD, hj]
theorem all_range {α : Type} (l : List α) (z : α) (p : α → Bool) : (List.range l.length).all (fun j => p (l.getD j z)) = l.all p := by
  rw [Bool.eq_iff_iff, List.all_eq_true, List.all_eq_true]
  constructor
  · intro h x hx
    obtain ⟨i, hi, rfl⟩ := List.getElem_of_mem hx
    have := h i (by simpa using hi)
    simpa [List.getD_eq_getElem?_getD, hi] using this
  · intro h j hj
    have hj' : j < l.length := by simpa using hj
    have := h l[j] (List.getElem_mem hj')
    simpa [List.getD_eq_getElem?_getD, hj'] using this
end Go.Proofs.Ytonifhkplniblaa.Evs

namespace Go.Proofs.Ytonifhkplniblaa.Print
open Go.RowKit Go.Proofs.YtonifhkplniblaaW.PrintWords Go.Proofs.Ytonifhkplniblaa.Evs Go.Proofs.Ytonifhkplniblaa.Opens
set_option linter.unusedSimpArgs false
abbrev LTask := S105
abbrev Task := S62
def cvTask (x : LTask) : Task := ⟨x.f0, x.f1, x.f2⟩
theorem toTaskS_ev (l : List LTask) (hl : l.length ≤ 1048576) : Tl (fun k => laws_toTaskS.f k l) (l.map cvTask) := by
  unfold laws_toTaskS.f
  have c1 := eq_true (show 0 ≤ (l.length : Int) by omega)
  have c2 := eq_true (show l.length ≤ 11728124029610 by omega)
  simp only [c1, c2, if_true, Int.toNat_natCast]
  have hlen : (l.map cvTask).length = l.length := by simp
  have key := down (Q := fun j => Tl (fun k => laws_toTaskS.l0 k l ((l.map cvTask).take j ++ List.replicate ((l.map cvTask).length - j) z62) (j : Int)) (l.map cvTask)) l.length ?_ ?_
  · rw [fill_zero, hlen] at key; exact key
  · refine Tl.step ?_
    have c3 := eq_false (show ¬ ((l.length : Int) < (l.length : Int)) by omega)
    rw [← hlen, fill_end]
    simp only [hlen]
    simp only [laws_toTaskS.l0, c3, if_false]
    exact Tl.ret _
  · intro j hj h
    refine Tl.step ?_
    have c3 := eq_true (show (j : Int) < (l.length : Int) by omega)
    have c4 := eq_true (show 0 ≤ (j : Int) by omega)
    have c5 := eq_true (show (j : Int) < (((l.map cvTask).take j ++ List.replicate ((l.map cvTask).length - j) z62).length : Int) by rw [fill_len _ _ (by omega)]; omega)
    simp only [laws_toTaskS.l0, c3, c4, c5, if_true, laws_toTask.f, Option.bind_some, Int.toNat_natCast]
    rw [fill_set _ _ (by omega) _ (by rw [getD_map cvTask l j z105 _ hj]; rfl), wrap_succ hj (by omega)]
    exact h
theorem eqTask_self (x : Task) : laws_eqTask.f x.f0 x.f1 x.f2 x.f0 x.f1 x.f2 = some true := by simp [laws_eqTask.f]
theorem eqTaskS_ev (l : List Task) (hl : l.length ≤ 1048576) : Tl (fun k => laws_eqTaskS.f k l l) true := by
  unfold laws_eqTaskS.f
  simp only [if_true]
  refine down (Q := fun j => Tl (fun k => laws_eqTaskS.l0 k l l (j : Int)) true) l.length ?_ ?_
  · refine Tl.step ?_
    have c3 := eq_false (show ¬ ((l.length : Int) < (l.length : Int)) by omega)
    simp only [laws_eqTaskS.l0, c3, if_false]
    exact Tl.ret _
  · intro j hj h
    refine Tl.step ?_
    have c3 := eq_true (show (j : Int) < (l.length : Int) by omega)
    have c4 := eq_true (show 0 ≤ (j : Int) by omega)
    simp only [laws_eqTaskS.l0, c3, c4, if_true, eqTask_self, Option.bind_some]
    rw [wrap_succ hj (by omega)]
    exact h
theorem szTaskS_f (l : List LTask) (a : Int) (h0 : 0 ≤ a) (h1 : a ≤ 1048576) (hl : l.length ≤ 9223372036854775807) : laws_szTaskS.f l a = some (if a < l.length then -1 else a - l.length) := by
  unfold laws_szTaskS.f
  rw [wrap_id (by omega) (by omega)]
  by_cases h : a < l.length
  · rw [if_pos (by omega), if_pos h]
  · rw [if_neg (by omega), if_neg h]
end Go.Proofs.Ytonifhkplniblaa.Print

namespace Go.Proofs.Ytonifhkplniblaa.Print
open Go.RowKit Go.Proofs.YtonifhkplniblaaW.PrintWords Go.Proofs.Ytonifhkplniblaa.Evs Go.Proofs.Ytonifhkplniblaa.Opens
set_option linter.unusedSimpArgs false
set_option linter.unusedVariables false
theorem spec_l1In_f (a b c : Int) : spec_l1In.f a b c = some (decide (b ≤ a ∧ a ≤ c)) := by
  unfold spec_l1In.f
  by_cases h : a ≥ b
  · have h' : b ≤ a := h
    simp [h, h']
  · have h' : ¬ b ≤ a := h
    simp [h, h']
theorem spec_TaskValid_f (x : Task) : spec_TaskValid.f x.f0 x.f1 x.f2 = some (okTask x) := by
  unfold spec_TaskValid.f okTask
  simp only [spec_l1In_f, Option.bind_some, decide_eq_true_eq]
  split
  · split
    · congr 1; rw [Bool.eq_iff_iff]; simp only [decide_eq_true_eq, Bool.false_eq_true, false_iff]; omega
    · congr 1; rw [Bool.eq_iff_iff]; simp only [decide_eq_true_eq, Bool.false_eq_true, false_iff]; omega
  · congr 1; rw [Bool.eq_iff_iff]; simp only [decide_eq_true_eq, Bool.false_eq_true, false_iff]; omega
/-- A valid set. -/
def okSet (l : List Task) : Bool := decide (l.length ≤ 5) && l.all okTask
theorem impl_SetValid_f (l : List Task) : impl_SetValid.f l = some (okSet l) := rfl
theorem impl_SetValid_ev (l : List Task) (_ : l.length ≤ 1048576) : Tl (fun _ => impl_SetValid.f l) (okSet l) := Tl.of_eq fun _ => impl_SetValid_f l
theorem spec_SetValid_ev (l : List Task) (hl : l.length ≤ 1048576) : Tl (fun k => spec_SetValid.f k l) (okSet l) := by
  have key := Tl.all (F := fun k i => spec_SetValid.l0 k l i) (n := l.length) (P := fun j => okTask (l.getD j z62)) (fin := decide (l.length ≤ 5)) ?_ ?_ ?_
  · rw [all_range] at key
    unfold okSet
    rw [Bool.and_comm]
    exact key
  · intro j hj hp r h
    refine Tl.step ?_
    have c3 := eq_true (show (j : Int) < (l.length : Int) by omega)
    have c4 := eq_true (show 0 ≤ (j : Int) by omega)
    have c5 : spec_TaskValid.f (rd_T62 l (j : Int)).f0 (rd_T62 l (j : Int)).f1 (rd_T62 l (j : Int)).f2 = some true := by rw [spec_TaskValid_f]; exact congrArg some hp
    simp only [spec_SetValid.l0, c3, c4, c5, if_true, Option.bind_some]
    rw [wrap_succ hj (by omega)]
    exact h
  · intro j hj hp
    refine Tl.step ?_
    have c3 := eq_true (show (j : Int) < (l.length : Int) by omega)
    have c4 := eq_true (show 0 ≤ (j : Int) by omega)
    have c5 : spec_TaskValid.f (rd_T62 l (j : Int)).f0 (rd_T62 l (j : Int)).f1 (rd_T62 l (j : Int)).f2 = some false := by rw [spec_TaskValid_f]; exact congrArg some hp
    simp only [spec_SetValid.l0, c3, c4, c5, if_true, Option.bind_some, Bool.false_eq_true, if_false]
    exact Tl.ret _
  · refine Tl.step ?_
    have c3 := eq_false (show ¬ ((l.length : Int) < (l.length : Int)) by omega)
    simp only [spec_SetValid.l0, c3, if_false]
    have : decide ((l.length : Int) ≤ 5) = decide (l.length ≤ 5) := by rw [decide_eq_decide]; omega
    rw [this]
    exact Tl.ret _
end Go.Proofs.Ytonifhkplniblaa.Print

namespace Go.Proofs.Ytonifhkplniblaa.Print
open Go.RowKit Go.Proofs.YtonifhkplniblaaW.PrintWords Go.Proofs.Ytonifhkplniblaa.Evs Go.Proofs.Ytonifhkplniblaa.Opens
set_option linter.unusedSimpArgs false
set_option linter.unusedVariables false
theorem tmod_pos {a b : Int} (ha : 0 ≤ a) (_hb : 0 < b) : Int.tmod a b = a % b := Int.tmod_eq_emod_of_nonneg ha
theorem tdiv_pos {a b : Int} (ha : 0 ≤ a) : Int.tdiv a b = a / b := Int.tdiv_eq_ediv_of_nonneg ha
/-- Task j of a list. -/
def tk (l : List Task) (j : Nat) : Task := l.getD j z62
theorem rd_tk (l : List Task) (j : Nat) : rd_T62 l (j : Int) = tk l j := rfl
theorem okSet_len {l : List Task} (h : okSet l = true) : l.length ≤ 5 := by unfold okSet at h; simp at h; exact h.1
theorem okSet_tk {l : List Task} (h : okSet l = true) {j : Nat} (hj : j < l.length) : 1 ≤ (tk l j).f0 ∧ (tk l j).f0 ≤ 8 ∧ (tk l j).f0 ≤ (tk l j).f1 ∧ (tk l j).f1 ≤ (tk l j).f2 ∧ (tk l j).f2 ≤ 12 := by
  unfold okSet at h
  rw [Bool.and_eq_true, List.all_eq_true] at h
  have h1 : tk l j ∈ l := by unfold tk; simp [List.getD_eq_getElem?_getD, hj]
  have := h.2 _ h1
  unfold okTask at this
  exact of_decide_eq_true this
end Go.Proofs.Ytonifhkplniblaa.Print

namespace Go.Proofs.Ytonifhkplniblaa.Print
open Go.RowKit Go.Proofs.YtonifhkplniblaaW.PrintWords Go.Proofs.YtonifhkplniblaaW.PrintMore Go.Proofs.Ytonifhkplniblaa.Evs Go.Proofs.Ytonifhkplniblaa.Opens
set_option linter.unusedSimpArgs false
set_option linter.unusedVariables false
/-- Job j of a list. -/
def jb (l : List S67) (j : Nat) : S67 := l.getD j z67
theorem rd_jb (l : List S67) (j : Nat) : rd_T67 l (j : Int) = jb l j := rfl
theorem rd_jb' (l : List S67) (i : Int) : rd_T67 l i = jb l i.toNat := rfl
theorem rd_tk' (l : List Task) (i : Int) : rd_T62 l i = tk l i.toNat := rfl
/-- When the next job of each task may come. -/
def nextL (s : List Task) (l : List S67) : Nat → List Int
  | 0 => List.replicate s.length 0
  | i + 1 => (nextL s l i).set (jb l i).f0.toNat (wrap64 ((jb l i).f1 + (rd_T62 s (jb l i).f0).f2))
theorem nextL_len (s : List Task) (l : List S67) : ∀ i, (nextL s l i).length = s.length
  | 0 => by simp [nextL]
  | i + 1 => by simp [nextL, nextL_len s l i]
def specAt (s : List Task) (l : List S67) (i : Nat) : Bool :=
  (decide (0 ≤ (jb l i).f0 ∧ (jb l i).f0 ≤ (s.length : Int) - 1) && decide (0 ≤ (jb l i).f1 ∧ (jb l i).f1 ≤ 119)) &&
  ((!decide ((jb l i).f1 < rd (nextL s l i) (jb l i).f0) && (dlOk s (jb l i) && decide (1 ≤ (jb l i).f3 ∧ (jb l i).f3 ≤ (rd_T62 s (jb l i).f0).f0))) &&
  !(decide (0 < i) && jobBad (jb l (i - 1)) (jb l i)))
theorem nextL_says {s : List Task} {l : List S67} (hok : okSet s = true) {n : Nat} (hin : ∀ i, i < n → (0 ≤ (jb l i).f0 ∧ (jb l i).f0 < s.length) ∧ 0 ≤ (jb l i).f1 ∧ (jb l i).f1 ≤ 119) :
    ∀ i, i ≤ n → ∀ t : Int, 0 ≤ t → t < s.length → rd (nextL s l i) t = match lastT l i t with | none => 0 | some b => b + (rd_T62 s t).f2
  | 0, _, t, h0, h1 => by
    show (List.replicate s.length (0 : Int)).getD t.toNat 0 = 0
    simp [List.getD_eq_getElem?_getD, List.getElem?_replicate]
    split <;> rfl
  | i + 1, hi, t, h0, h1 => by
    obtain ⟨⟨a1, a2⟩, a3, a4⟩ := hin i (by omega)
    have ih := nextL_says hok hin i (by omega) t h0 h1
    have hlen := nextL_len s l i
    have hgj : l.getD i z67 = jb l i := rfl
    unfold lastT
    rw [hgj]
    show ((nextL s l i).set (jb l i).f0.toNat _).getD t.toNat 0 = _
    rw [List.getD_eq_getElem?_getD, List.getElem?_set]
    by_cases e : (jb l i).f0 = t
    · rw [if_pos (by omega), if_pos (by omega), if_pos e]
      simp only [Option.getD_some]
      rw [e, rd_tk']
      have hv := okSet_tk hok (j := t.toNat) (by omega)
      exact wrap_id (by omega) (by omega)
    · rw [if_neg (by omega), if_neg e]
      rw [← List.getD_eq_getElem?_getD]
      exact ih
theorem spec_legal_ev {s : List Task} (hok : okSet s = true) (l : List S67) (hl : l.length ≤ 60) : Tl (fun k => spec_JobsLegal.l0 k s l (List.replicate s.length 0) 0) ((List.range l.length).all (specAt s l)) := by
  have hs5 := okSet_len hok
  have key := Tl.all (F := fun k i => spec_JobsLegal.l0 k s l (nextL s l i.toNat) i) (n := l.length) (P := specAt s l) (fin := true) ?_ ?_ ?_
  · rw [Bool.and_true] at key
    exact key
  · intro j hj hp r h
    simp only [Int.toNat_natCast] at h ⊢
    have hlen := nextL_len s l j
    have hnx : nextL s l (j + 1) = (nextL s l j).set (jb l j).f0.toNat (wrap64 ((jb l j).f1 + (rd_T62 s (jb l j).f0).f2)) := rfl
    unfold specAt dlOk at hp
    simp only [Bool.and_eq_true, Bool.not_eq_true', decide_eq_true_eq, decide_eq_false_iff_not] at hp
    obtain ⟨⟨h1, h2⟩, ⟨h3, h4, h5⟩, h6⟩ := hp
    refine Tl.step ?_
    simp only [spec_JobsLegal.l0, rd_jb, spec_l1In_f, Option.bind_some]
    rw [wrap_id (n := (s.length : Int) - 1) (by omega) (by omega)]
    refine Tl.iteT (by omega) (Tl.iteT (by omega) ?_)
    rw [decide_eq_true h1, decide_eq_true h2]
    refine Tl.iteT (by simp) ?_
    refine Tl.step ?_
    simp only [spec_JobsLegal.j2, spec_l1In_f, Option.bind_some]
    refine Tl.iteF (by simp) (Tl.iteT (by omega) (Tl.iteT (by omega) (Tl.iteT (by omega) (Tl.iteF h3 (Tl.iteT h4 ?_)))))
    rw [decide_eq_true h5]
    refine Tl.step ?_
    simp only [spec_JobsLegal.j3]
    refine Tl.iteF (by simp) ?_
    rw [wrap_succ (j := j) (n := l.length) (by omega) (by omega), ← hnx]
    by_cases h0 : 0 < j
    · have hb : jobBad (jb l (j - 1)) (jb l j) = false := by rw [decide_eq_true h0, Bool.true_and] at h6; exact h6
      unfold jobBad at hb
      simp only [Bool.or_eq_false_iff, Bool.and_eq_false_iff, decide_eq_false_iff_not] at hb
      rw [wrap_pred (j := j) (n := l.length) (by omega) (by omega) (by omega), rd_jb]
      refine Tl.iteT (by omega) (Tl.iteT (by omega) (Tl.iteT (by omega) (Tl.iteF hb.1 ?_)))
      by_cases he : (jb l (j - 1)).f1 = (jb l j).f1
      · refine Tl.iteT he (Tl.iteF ?_ (Tl.iteT (by omega) (Tl.iteT (by omega) h)))
        rcases hb.2 with hb | hb
        · exact absurd he hb
        · exact hb
      · exact Tl.iteF he (Tl.iteT (by omega) (Tl.iteT (by omega) h))
    · exact Tl.iteF (by omega) (Tl.iteT (by omega) (Tl.iteT (by omega) h))
  · intro j hj hp
    simp only [Int.toNat_natCast]
    have hlen := nextL_len s l j
    refine Tl.step ?_
    simp only [spec_JobsLegal.l0, rd_jb, spec_l1In_f, Option.bind_some]
    rw [wrap_id (n := (s.length : Int) - 1) (by omega) (by omega)]
    refine Tl.iteT (by omega) (Tl.iteT (by omega) ?_)
    by_cases h1 : 0 ≤ (jb l j).f0 ∧ (jb l j).f0 ≤ (s.length : Int) - 1
    · rw [decide_eq_true h1]
      refine Tl.iteT (by simp) ?_
      by_cases h2 : 0 ≤ (jb l j).f1 ∧ (jb l j).f1 ≤ 119
      · rw [decide_eq_true h2]
        refine Tl.step ?_
        simp only [spec_JobsLegal.j2, spec_l1In_f, Option.bind_some]
        refine Tl.iteF (by simp) (Tl.iteT (by omega) (Tl.iteT (by omega) (Tl.iteT (by omega) ?_)))
        by_cases h3 : (jb l j).f1 < rd (nextL s l j) (jb l j).f0
        · refine Tl.iteT h3 (Tl.step ?_)
          simp only [spec_JobsLegal.j3]
          exact Tl.iteT (by simp) (Tl.ret _)
        · refine Tl.iteF h3 ?_
          by_cases h4 : (jb l j).f2 = wrap64 ((jb l j).f1 + (rd_T62 s (jb l j).f0).f1)
          · refine Tl.iteT h4 ?_
            by_cases h5 : 1 ≤ (jb l j).f3 ∧ (jb l j).f3 ≤ (rd_T62 s (jb l j).f0).f0
            · rw [decide_eq_true h5]
              refine Tl.step ?_
              simp only [spec_JobsLegal.j3]
              refine Tl.iteF (by simp) ?_
              have h6 : 0 < j ∧ jobBad (jb l (j - 1)) (jb l j) = true := by
                unfold specAt dlOk at hp
                rw [decide_eq_true h1, decide_eq_true h2, decide_eq_false h3, decide_eq_true h4, decide_eq_true h5] at hp
                simpa using hp
              obtain ⟨h0, hb⟩ := h6
              unfold jobBad at hb
              simp only [Bool.or_eq_true, Bool.and_eq_true, decide_eq_true_eq] at hb
              rw [wrap_pred (j := j) (n := l.length) (by omega) (by omega) (by omega), rd_jb]
              refine Tl.iteT (by omega) (Tl.iteT (by omega) (Tl.iteT (by omega) ?_))
              by_cases hb1 : (jb l (j - 1)).f1 > (jb l j).f1
              · exact Tl.iteT hb1 (Tl.ret _)
              · rcases hb with hb | hb
                · exact absurd hb hb1
                · exact Tl.iteF hb1 (Tl.iteT hb.1 (Tl.iteT hb.2 (Tl.ret _)))
            · rw [decide_eq_false h5]
              refine Tl.step ?_
              simp only [spec_JobsLegal.j3]
              exact Tl.iteT (by simp) (Tl.ret _)
          · refine Tl.iteF h4 (Tl.step ?_)
            simp only [spec_JobsLegal.j3]
            exact Tl.iteT (by simp) (Tl.ret _)
      · rw [decide_eq_false h2]
        refine Tl.step ?_
        simp only [spec_JobsLegal.j2]
        exact Tl.iteT (by simp) (Tl.ret _)
    · rw [decide_eq_false h1]
      refine Tl.iteF (by simp) (Tl.step ?_)
      simp only [spec_JobsLegal.j2]
      exact Tl.iteT (by simp) (Tl.ret _)
  · refine Tl.step ?_
    simp only [spec_JobsLegal.l0]
    exact Tl.iteF (by omega) (Tl.ret _)
theorem spec_JobsLegal_ev0 (s : List Task) (l : List S67) (hs : s.length ≤ 1048576) (hl : l.length ≤ 1048576) :
    Tl (fun k => spec_JobsLegal.f k s l) (okSet s && (decide (l.length ≤ 60) && (List.range l.length).all (specAt s l))) := by
  unfold spec_JobsLegal.f
  refine Tl.bind (spec_SetValid_ev s hs) ?_
  cases hok : okSet s with
  | false =>
    refine Tl.iteF (by simp) (Tl.step ?_)
    simp only [spec_JobsLegal.j0]
    exact Tl.iteT (by simp) (Tl.ret _)
  | true =>
    refine Tl.iteT rfl (Tl.step ?_)
    simp only [spec_JobsLegal.j0]
    have hs5 := okSet_len hok
    by_cases h : l.length ≤ 60
    · refine Tl.iteF (by simp; omega) (Tl.iteT (by omega) (Tl.iteT (by omega) ?_))
      rw [decide_eq_true h]
      exact spec_legal_ev hok l h
    · refine Tl.iteT (by simp; omega) ?_
      rw [decide_eq_false h]
      exact Tl.ret _
theorem legal_eq {s : List Task} (hok : okSet s = true) (l : List S67) : legalB s l = (decide (l.length ≤ 60) && (List.range l.length).all (specAt s l)) := by
  have hgj : ∀ i, l.getD i z67 = jb l i := fun _ => rfl
  have hdl : l.all (dlOk s) = (List.range l.length).all (fun i => dlOk s (jb l i)) := by
    rw [Bool.eq_iff_iff, List.all_eq_true, List.all_eq_true]
    constructor
    · intro h i hi
      have hi := List.mem_range.1 hi
      refine h _ ?_
      unfold jb
      simp [List.getD_eq_getElem?_getD, hi]
    · intro h x hx
      obtain ⟨i, hi, rfl⟩ := List.getElem_of_mem hx
      have := h i (List.mem_range.2 hi)
      simpa [jb, List.getD_eq_getElem?_getD, hi] using this
  have spc : ∀ i, i < l.length → (∀ i, i < l.length → (0 ≤ (jb l i).f0 ∧ (jb l i).f0 < s.length) ∧ 0 ≤ (jb l i).f1 ∧ (jb l i).f1 ≤ 119) → (spcAt s l i = true ↔ ¬ (jb l i).f1 < rd (nextL s l i) (jb l i).f0) := by
    intro i hi hin
    obtain ⟨⟨a1, a2⟩, a3, a4⟩ := hin i hi
    rw [nextL_says hok hin i (by omega) _ a1 a2]
    unfold spcAt
    rw [hgj]
    cases lastT l i (jb l i).f0 with
    | none => simp; omega
    | some b => simp; omega
  unfold legalB ordB
  rw [hdl, Bool.eq_iff_iff]
  simp only [Bool.and_eq_true, List.all_eq_true, List.mem_range, decide_eq_true_eq]
  constructor
  · rintro ⟨⟨h1, h2⟩, h3, h4⟩
    have hin : ∀ i, i < l.length → (0 ≤ (jb l i).f0 ∧ (jb l i).f0 < s.length) ∧ 0 ≤ (jb l i).f1 ∧ (jb l i).f1 ≤ 119 := by
      intro i hi
      have := h1 i hi
      unfold ordAt at this
      rw [Bool.and_eq_true, hgj] at this
      exact ⟨jobIn_f0 this.1, jobIn_f1 this.1⟩
    refine ⟨h2, fun i hi => ?_⟩
    have g1 := h1 i hi
    have g3 := (spc i hi hin).1 (h3 i hi)
    have g4 := h4 i hi
    unfold ordAt at g1
    rw [Bool.and_eq_true] at g1
    simp only [hgj] at g1
    obtain ⟨ga, gb⟩ := g1
    unfold jobIn at ga
    simp only [Bool.and_eq_true, decide_eq_true_eq] at ga
    unfold specAt
    rw [decide_eq_true ga.1, decide_eq_true ga.2.1, decide_eq_true ga.2.2, decide_eq_false g3, g4]
    simpa using gb
  · rintro ⟨h2, h1⟩
    have hx : ∀ i, i < l.length → (0 ≤ (jb l i).f0 ∧ (jb l i).f0 ≤ (s.length : Int) - 1) ∧ (0 ≤ (jb l i).f1 ∧ (jb l i).f1 ≤ 119) ∧ ¬ (jb l i).f1 < rd (nextL s l i) (jb l i).f0 ∧ dlOk s (jb l i) = true ∧ (1 ≤ (jb l i).f3 ∧ (jb l i).f3 ≤ (rd_T62 s (jb l i).f0).f0) ∧ (decide (0 < i) && jobBad (jb l (i - 1)) (jb l i)) = false := by
      intro i hi
      have := h1 i hi
      unfold specAt at this
      simp only [Bool.and_eq_true, Bool.not_eq_true', decide_eq_true_eq, decide_eq_false_iff_not] at this
      obtain ⟨⟨a, b⟩, ⟨c, d, e⟩, f⟩ := this
      exact ⟨a, b, c, d, e, f⟩
    have hin : ∀ i, i < l.length → (0 ≤ (jb l i).f0 ∧ (jb l i).f0 < s.length) ∧ 0 ≤ (jb l i).f1 ∧ (jb l i).f1 ≤ 119 := fun i hi => by
      obtain ⟨a, b, _⟩ := hx i hi
      exact ⟨by omega, b⟩
    refine ⟨⟨fun i hi => ?_, h2⟩, fun i hi => (spc i hi hin).2 (hx i hi).2.2.1, fun i hi => (hx i hi).2.2.2.1⟩
    obtain ⟨a, b, c, d, e, f⟩ := hx i hi
    unfold ordAt jobIn
    rw [hgj, hgj, decide_eq_true a, decide_eq_true b, decide_eq_true e, f]
    rfl
/-- A legal release pattern of a valid set. -/
def legal (s : List Task) (l : List S67) : Bool := okSet s && legalB s l
theorem impl_JobsLegal_f (s : List Task) (l : List S67) : impl_JobsLegal.f s l = some (legal s l) := by
  unfold impl_JobsLegal.f legal
  rw [impl_SetValid_f, Option.bind_some]
theorem impl_JobsLegal_ev (s : List Task) (l : List S67) (hs : s.length ≤ 1048576) (hl : l.length ≤ 1048576) : Tl (fun _ => impl_JobsLegal.f s l) (legal s l) := Tl.of_eq fun _ => impl_JobsLegal_f s l
theorem spec_JobsLegal_ev (s : List Task) (l : List S67) (hs : s.length ≤ 1048576) (hl : l.length ≤ 1048576) : Tl (fun k => spec_JobsLegal.f k s l) (legal s l) := by
  refine (spec_JobsLegal_ev0 s l hs hl).cast ?_
  unfold legal
  cases hok : okSet s with
  | false => rfl
  | true => rw [Bool.true_and, Bool.true_and, legal_eq hok]
end Go.Proofs.Ytonifhkplniblaa.Print

namespace Go.Proofs.Ytonifhkplniblaa.Print
open Go.RowKit Go.Proofs.YtonifhkplniblaaW.PrintWords Go.Proofs.Ytonifhkplniblaa.Evs Go.Proofs.Ytonifhkplniblaa.Opens
set_option linter.unusedSimpArgs false
abbrev Job := S67
theorem eqJob_self (x : Job) : laws_eqJob.f x.f0 x.f1 x.f2 x.f3 x.f0 x.f1 x.f2 x.f3 = some true := by simp [laws_eqJob.f]
theorem eqJobS_ev (l : List Job) (hl : l.length ≤ 1048576) : Tl (fun k => laws_eqJobS.f k l l) true := by
  unfold laws_eqJobS.f
  simp only [if_true]
  refine down (Q := fun j => Tl (fun k => laws_eqJobS.l0 k l l (j : Int)) true) l.length ?_ ?_
  · refine Tl.step ?_
    have c3 := eq_false (show ¬ ((l.length : Int) < (l.length : Int)) by omega)
    simp only [laws_eqJobS.l0, c3, if_false]
    exact Tl.ret _
  · intro j hj h
    refine Tl.step ?_
    have c3 := eq_true (show (j : Int) < (l.length : Int) by omega)
    have c4 := eq_true (show 0 ≤ (j : Int) by omega)
    simp only [laws_eqJobS.l0, c3, c4, if_true, eqJob_self, Option.bind_some]
    rw [wrap_succ hj (by omega)]
    exact h
end Go.Proofs.Ytonifhkplniblaa.Print

namespace Go.Proofs.Ytonifhkplniblaa.Print
open Go.RowKit Go.Proofs.YtonifhkplniblaaW.PrintWords Go.Proofs.Ytonifhkplniblaa.Evs Go.Proofs.Ytonifhkplniblaa.Opens
set_option linter.unusedSimpArgs false
abbrev LJob := S107
def cvJob (x : LJob) : Job := ⟨x.f0, x.f1, x.f2, x.f3⟩
theorem toJobS_ev (l : List LJob) (hl : l.length ≤ 1048576) : Tl (fun k => laws_toJobS.f k l) (l.map cvJob) := by
  unfold laws_toJobS.f
  have c1 := eq_true (show 0 ≤ (l.length : Int) by omega)
  have c2 := eq_true (show l.length ≤ 8796093022208 by omega)
  simp only [c1, c2, if_true, Int.toNat_natCast]
  have hlen : (l.map cvJob).length = l.length := by simp
  have key := down (Q := fun j => Tl (fun k => laws_toJobS.l0 k l ((l.map cvJob).take j ++ List.replicate ((l.map cvJob).length - j) z67) (j : Int)) (l.map cvJob)) l.length ?_ ?_
  · rw [fill_zero, hlen] at key; exact key
  · refine Tl.step ?_
    have c3 := eq_false (show ¬ ((l.length : Int) < (l.length : Int)) by omega)
    rw [← hlen, fill_end]
    simp only [hlen]
    simp only [laws_toJobS.l0, c3, if_false]
    exact Tl.ret _
  · intro j hj h
    refine Tl.step ?_
    have c3 := eq_true (show (j : Int) < (l.length : Int) by omega)
    have c4 := eq_true (show 0 ≤ (j : Int) by omega)
    have c5 := eq_true (show (j : Int) < (((l.map cvJob).take j ++ List.replicate ((l.map cvJob).length - j) z67).length : Int) by rw [fill_len _ _ (by omega)]; omega)
    simp only [laws_toJobS.l0, c3, c4, c5, if_true, laws_toJob.f, Option.bind_some, Int.toNat_natCast]
    rw [fill_set _ _ (by omega) _ (by rw [getD_map cvJob l j z107 _ hj]; rfl), wrap_succ hj (by omega)]
    exact h
theorem szJobS_f (l : List LJob) (a : Int) (h0 : 0 ≤ a) (h1 : a ≤ 1048576) (hl : l.length ≤ 9223372036854775807) : laws_szJobS.f l a = some (if a < l.length then -1 else a - l.length) := by
  unfold laws_szJobS.f
  rw [wrap_id (by omega) (by omega)]
  by_cases h : a < l.length
  · rw [if_pos (by omega), if_pos h]
  · rw [if_neg (by omega), if_neg h]
end Go.Proofs.Ytonifhkplniblaa.Print

namespace Go.Proofs.Ytonifhkplniblaa.Print
open Go.RowKit Go.Proofs.YtonifhkplniblaaW.PrintWords Go.Proofs.Ytonifhkplniblaa.Evs Go.Proofs.Ytonifhkplniblaa.Opens
set_option linter.unusedSimpArgs false
set_option linter.unusedVariables false
set_option maxHeartbeats 1000000 in
theorem FnExactJobsLegal_pure : PureFnExactJobsLegal := by
  intro x0 x1 w0 w1
  apply Tl.once
  unfold laws_FnExactJobsLegal.f
  refine Tl.bind (Tl.of_eq fun _ => szTaskS_f x0 _ (by omega) (by omega) w0.1) ?_
  by_cases g0 : (1048576 : Int) < x0.length
  · rw [if_pos g0]; exact Tl.iteT (by omega) (Tl.ret _)
  rw [if_neg g0]
  refine Tl.iteF (by omega) ?_
  refine Tl.bind (Tl.of_eq fun _ => szJobS_f x1 _ (by omega) (by omega) w1.1) ?_
  by_cases g1 : (1048576 - x0.length : Int) < x1.length
  · rw [if_pos g1]; exact Tl.iteT (by omega) (Tl.ret _)
  rw [if_neg g1]
  refine Tl.iteF (by omega) ?_
  have hl0 : x0.length ≤ 1048576 := by omega
  have hm0 : (x0.map cvTask).length ≤ 1048576 := by simpa using hl0
  have hl1 : x1.length ≤ 1048576 := by omega
  have hm1 : (x1.map cvJob).length ≤ 1048576 := by simpa using hl1
  have HS := spec_JobsLegal_ev (x0.map cvTask) (x1.map cvJob) hm0 hm1
  have HI := impl_JobsLegal_ev (x0.map cvTask) (x1.map cvJob) hm0 hm1
  repeat (first
    | exact Tl.ret _
    | with_reducible refine Tl.bind (toTaskS_ev x0 hl0) ?_
    | with_reducible refine Tl.bind (eqTaskS_ev (x0.map cvTask) hm0) ?_
    | with_reducible refine Tl.bind (toJobS_ev x1 hl1) ?_
    | with_reducible refine Tl.bind (eqJobS_ev (x1.map cvJob) hm1) ?_
    | with_reducible refine Tl.bind HS ?_
    | with_reducible refine Tl.bind HI ?_
    | with_reducible refine Tl.iteT rfl ?_
    | with_reducible refine Tl.iteF (by simp) ?_
    | dsimp only)
end Go.Proofs.Ytonifhkplniblaa.Print
