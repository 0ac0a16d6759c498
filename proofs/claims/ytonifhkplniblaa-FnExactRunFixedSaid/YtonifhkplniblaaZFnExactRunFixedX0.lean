/- What the program and the reference compute, and that both agree. No condition. -/
import Derived.Test.YtonifhkplniblaaPO
import Derived.Test.YtonifhkplniblaaZFnExactRunFixedP4
import Derived.RowKit
import Derived.WalkKit
import Derived.Test.YtonifhkplniblaaZFnExactRunFixedP2
import Derived.Test.YtonifhkplniblaaZFnExactRunFixedP1
import Derived.Test.YtonifhkplniblaaZFnExactRunFixedP0
import Derived.Test.YtonifhkplniblaaZFnExactRunFixedP3
namespace Go.Proofs.Ytonifhkplniblaa.Print
open Go.RowKit Go.Proofs.YtonifhkplniblaaW.PrintWords Go.Proofs.YtonifhkplniblaaW.PrintLast Go.Proofs.YtonifhkplniblaaW.PrintMore
attribute [local go_sem] max2_int min2_int max_two min_two max_three min_three max_four min_four
set_option linter.unusedVariables false
set_option linter.unusedSimpArgs false
open Go.Proofs.Ytonifhkplniblaa.Opens
def PureFnExactRunFixed : Prop := ∀ (x0 : List (S105)) (x1 : List Int) (x2 : List (S107)), (wfL wf105) x0 → (wfL wfI) x1 → (wfL wf107) x2 → ∃ k, laws_FnExactRunFixed.f k x0 x1 x2 = some true
end Go.Proofs.Ytonifhkplniblaa.Print
namespace Go.Proofs.Ytonifhkplniblaa.Evs
open Go.RowKit
set_option linter.unusedSimpArgs false
set_option linter.unusedVariables false
def Tl {α : Type} (g : Nat → Option α) (r : α) : Prop := ∃ k0, ∀ k, k0 ≤ k → g k = some r
theorem Tl.ret {α : Type} (r : α) : Tl (fun _ => some r) r := ⟨0, fun _ _ => rfl⟩
theorem Tl.of_eq {α : Type} {g : Nat → Option α} {r : α} (h : ∀ k, g k = some r) : Tl g r := ⟨0, fun k _ => h k⟩
theorem Tl.step {α : Type} {g : Nat → Option α} {r : α} (h : Tl (fun k => g (k + 1)) r) : Tl g r := by
 obtain ⟨k0, hk⟩ := h
 refine ⟨k0 + 1, fun k hle => ?_⟩
 obtain ⟨m, rfl⟩ : ∃ m, k = m + 1 := ⟨k - 1, by omega⟩
 exact hk m (by omega)
theorem Tl.bind {α β : Type} {g : Nat → Option α} {a : α} {f : α → Nat → Option β} {r : β} (h : Tl g a) (h2 : Tl (f a) r) : Tl (fun k => (g k).bind fun x => f x k) r := by
 obtain ⟨k0, hk⟩ := h
 obtain ⟨k1, hk1⟩ := h2
 refine ⟨max k0 k1, fun k hle => ?_⟩
 show (g k).bind (fun x => f x k) = some r
 rw [hk k (by omega), Option.bind_some]
 exact hk1 k (by omega)
theorem Tl.once {α : Type} {g : Nat → Option α} {r : α} (h : Tl g r) : ∃ k, g k = some r := by
 obtain ⟨k0, hk⟩ := h
 exact ⟨k0, hk k0 (Nat.le_refl _)⟩
theorem Tl.cast {α : Type} {g : Nat → Option α} {r r' : α} (h : Tl g r) (e : r = r') : Tl g r' := e ▸ h
theorem Tl.iteT {α : Type} {c : Prop} [Decidable c] {g g' : Nat → Option α} {r : α} (hc : c) (h : Tl g r) : Tl (fun k => if c then g k else g' k) r := by simpa only [if_pos hc] using h
theorem Tl.iteF {α : Type} {c : Prop} [Decidable c] {g g' : Nat → Option α} {r : α} (hc : ¬ c) (h : Tl g' r) : Tl (fun k => if c then g k else g' k) r := by simpa only [if_neg hc] using h
theorem down {Q : Nat → Prop} (n : Nat) (he : Q n) (hs : ∀ j, j < n → Q (j + 1) → Q j) : Q 0 := by
 induction n with
 | zero => exact he
 | succ n ih => exact ih (hs n (by omega) he) (fun j hj => hs j (by omega))
theorem downFrom {Q : Nat → Prop} {m n : Nat} (hm : m ≤ n) (he : Q n) (hs : ∀ j, m ≤ j → j < n → Q (j + 1) → Q j) : Q m := by
 obtain ⟨d, rfl⟩ : ∃ d, n = m + d := ⟨n - m, by omega⟩
 induction d with
 | zero => exact he
 | succ d ih => exact ih (by omega) (hs (m + d) (by omega) (by omega) he) (fun j h1 h2 => hs j h1 (by omega))
theorem Tl.all {F : Nat → Int → Option Bool} {n : Nat} {P : Nat → Bool} {fin : Bool}
  (ht : ∀ j, j < n → P j = true → ∀ r, Tl (fun k => F k ((j + 1 : Nat) : Int)) r → Tl (fun k => F k (j : Int)) r)
  (hf : ∀ j, j < n → P j = false → Tl (fun k => F k (j : Int)) false) (he : Tl (fun k => F k (n : Int)) fin) :
  Tl (fun k => F k 0) ((List.range n).all P && fin) := by
 by_cases hall : ∀ j, j < n → P j = true
 ·have h1 : ((List.range n).all P) = true := by simpa using hall
  rw [h1, Bool.true_and]
  exact down (Q := fun j => Tl (fun k => F k (j : Int)) fin) n he (fun j hj h => ht j hj (hall j hj) _ h)
 ·have h1 : ((List.range n).all P) = false := by simpa using hall
  rw [h1, Bool.false_and]
  clear h1
  have key : ∀ m, m ≤ n → (∃ j, j < m ∧ P j = false) → Tl (fun k => F k 0) false := by
   intro m
   induction m with
   | zero => rintro _ ⟨j, hj, _⟩; omega
   | succ m ih =>
    rintro hm ⟨j, hj, hp⟩
    by_cases hlow : ∃ j, j < m ∧ P j = false
    ·exact ih (by omega) hlow
    ·have hjm : j = m := by
      rcases Nat.lt_or_ge j m with h | h
      ·exact absurd ⟨j, h, hp⟩ hlow
      ·omega
     subst hjm
     refine down (Q := fun j => Tl (fun k => F k (j : Int)) false) j (hf j (by omega) hp) (fun i hi h => ht i (by omega) ?_ _ h)
     cases hpi : P i
     ·exact absurd ⟨i, hi, hpi⟩ hlow
     ·rfl
  refine key n (Nat.le_refl _) ?_
  apply Classical.byContradiction
  intro hno
  refine hall (fun j hj => ?_)
  cases hp : P j
  ·exact absurd ⟨j, hj, hp⟩ hno
  ·rfl
theorem wrap_id {n : Int} (h1 : -9223372036854775808 ≤ n) (h2 : n ≤ 9223372036854775807) : wrap64 n = n := by unfold wrap64; omega
theorem wrap_succ {j n : Nat} (h : j < n) (hn : n ≤ 9223372036854775807) : wrap64 ((j : Int) + 1) = ((j + 1 : Nat) : Int) := by unfold wrap64; omega
theorem wrap_pred {j n : Nat} (h : j < n) (h0 : 0 < j) (hn : n ≤ 9223372036854775807) : wrap64 ((j : Int) - 1) = ((j - 1 : Nat) : Int) := by unfold wrap64; omega
end Go.Proofs.Ytonifhkplniblaa.Evs
namespace Go.Proofs.Ytonifhkplniblaa.Evs
theorem fill_zero {α : Type} (xs : List α) (z : α) : xs.take 0 ++ List.replicate (xs.length - 0) z = List.replicate xs.length z := by simp
theorem fill_set {α : Type} (xs : List α) (z : α) {j : Nat} (hj : j < xs.length) (x : α) (hx : x = xs.getD j z) :
  (xs.take j ++ List.replicate (xs.length - j) z).set j x = xs.take (j + 1) ++ List.replicate (xs.length - (j + 1)) z := by
 have h1 : (xs.take j).length = j := by simp; omega
 rw [List.set_append_right _ _ (by omega), h1, Nat.sub_self]
 obtain ⟨m, hm⟩ : ∃ m, xs.length - j = m + 1 := ⟨xs.length - j - 1, by omega⟩
 rw [hm, List.replicate_succ, List.set_cons_zero, List.take_succ_eq_append_getElem hj, List.append_assoc, hx]
 have h2 : xs.length - (j + 1) = m := by omega
 rw [h2]
 simp [List.getD_eq_getElem?_getD, hj]
theorem fill_len {α : Type} (xs : List α) (z : α) {j : Nat} (hj : j ≤ xs.length) : (xs.take j ++ List.replicate (xs.length - j) z).length = xs.length := by simp; omega
theorem fill_end {α : Type} (xs : List α) (z : α) : xs.take xs.length ++ List.replicate (xs.length - xs.length) z = xs := by simp
theorem getD_map {α β : Type} (f : α → β) (l : List α) (j : Nat) (z : α) (z' : β) (hj : j < l.length) : (l.map f).getD j z' = f (l.getD j z) := by simp [List.getD_eq_getElem?_getD, hj]
theorem all_range {α : Type} (l : List α) (z : α) (p : α → Bool) : (List.range l.length).all (fun j => p (l.getD j z)) = l.all p := by
 rw [Bool.eq_iff_iff, List.all_eq_true, List.all_eq_true]
 constructor
 ·intro h x hx
  obtain ⟨i, hi, rfl⟩ := List.getElem_of_mem hx
  have := h i (by simpa using hi)
  simpa [List.getD_eq_getElem?_getD, hi] using this
 ·intro h j hj
  have hj' : j < l.length := by simpa using hj
  have := h l[j] (List.getElem_mem hj')
  simpa [List.getD_eq_getElem?_getD, hj'] using this
end Go.Proofs.Ytonifhkplniblaa.Evs
namespace Go.Proofs.Ytonifhkplniblaa.Print
open Go.RowKit Go.Proofs.YtonifhkplniblaaW.PrintWords Go.Proofs.Ytonifhkplniblaa.Evs Go.Proofs.Ytonifhkplniblaa.Opens
set_option linter.unusedSimpArgs false
abbrev LTask := S105
abbrev Task := S62
def cvTask (x : LTask) : Task := ⟨x.f0, x.f1, x.f2⟩
theorem toTaskS_ev (l : List LTask) (hl : l.length ≤ 1048576) : Tl (fun k => laws_toTaskS.f k l) (l.map cvTask) := by
 unfold laws_toTaskS.f
 have c1 := eq_true (show 0 ≤ (l.length : Int) by omega)
 have c2 := eq_true (show l.length ≤ 11728124029610 by omega)
 simp only [c1, c2, if_true, Int.toNat_natCast]
 have hlen : (l.map cvTask).length = l.length := by simp
 have key := down (Q := fun j => Tl (fun k => laws_toTaskS.l0 k l ((l.map cvTask).take j ++ List.replicate ((l.map cvTask).length - j) z62) (j : Int)) (l.map cvTask)) l.length ?_ ?_
 ·rw [fill_zero, hlen] at key; exact key
 ·refine Tl.step ?_
  have c3 := eq_false (show ¬ ((l.length : Int) < (l.length : Int)) by omega)
  rw [← hlen, fill_end]
  simp only [hlen]
  simp only [laws_toTaskS.l0, c3, if_false]
  exact Tl.ret _
 ·intro j hj h
  refine Tl.step ?_
  have c3 := eq_true (show (j : Int) < (l.length : Int) by omega)
  have c4 := eq_true (show 0 ≤ (j : Int) by omega)
  have c5 := eq_true (show (j : Int) < (((l.map cvTask).take j ++ List.replicate ((l.map cvTask).length - j) z62).length : Int) by rw [fill_len _ _ (by omega)]; omega)
  simp only [laws_toTaskS.l0, c3, c4, c5, if_true, laws_toTask.f, Option.bind_some, Int.toNat_natCast]
  rw [fill_set _ _ (by omega) _ (by rw [getD_map cvTask l j z105 _ hj]; rfl), wrap_succ hj (by omega)]
  exact h
theorem eqTask_self (x : Task) : laws_eqTask.f x.f0 x.f1 x.f2 x.f0 x.f1 x.f2 = some true := by simp [laws_eqTask.f]
theorem eqTaskS_ev (l : List Task) (hl : l.length ≤ 1048576) : Tl (fun k => laws_eqTaskS.f k l l) true := by
 unfold laws_eqTaskS.f
 simp only [if_true]
 refine down (Q := fun j => Tl (fun k => laws_eqTaskS.l0 k l l (j : Int)) true) l.length ?_ ?_
 ·refine Tl.step ?_
  have c3 := eq_false (show ¬ ((l.length : Int) < (l.length : Int)) by omega)
  simp only [laws_eqTaskS.l0, c3, if_false]
  exact Tl.ret _
 ·intro j hj h
  refine Tl.step ?_
  have c3 := eq_true (show (j : Int) < (l.length : Int) by omega)
  have c4 := eq_true (show 0 ≤ (j : Int) by omega)
  simp only [laws_eqTaskS.l0, c3, c4, if_true, eqTask_self, Option.bind_some]
  rw [wrap_succ hj (by omega)]
  exact h
theorem szTaskS_f (l : List LTask) (a : Int) (h0 : 0 ≤ a) (h1 : a ≤ 1048576) (hl : l.length ≤ 9223372036854775807) : laws_szTaskS.f l a = some (if a < l.length then -1 else a - l.length) := by
 unfold laws_szTaskS.f
 rw [wrap_id (by omega) (by omega)]
 by_cases h : a < l.length
 ·rw [if_pos (by omega), if_pos h]
 ·rw [if_neg (by omega), if_neg h]
end Go.Proofs.Ytonifhkplniblaa.Print
namespace Go.Proofs.Ytonifhkplniblaa.Print
open Go.RowKit Go.Proofs.YtonifhkplniblaaW.PrintWords Go.Proofs.Ytonifhkplniblaa.Evs Go.Proofs.Ytonifhkplniblaa.Opens
set_option linter.unusedSimpArgs false
set_option linter.unusedVariables false
theorem spec_l1In_f (a b c : Int) : spec_l1In.f a b c = some (decide (b ≤ a ∧ a ≤ c)) := by
 unfold spec_l1In.f
 by_cases h : a ≥ b
 ·have h' : b ≤ a := h
  simp [h, h']
 ·have h' : ¬ b ≤ a := h
  simp [h, h']
theorem spec_TaskValid_f (x : Task) : spec_TaskValid.f x.f0 x.f1 x.f2 = some (okTask x) := by
 unfold spec_TaskValid.f okTask
 simp only [spec_l1In_f, Option.bind_some, decide_eq_true_eq]
 split
 ·split
  ·congr 1; rw [Bool.eq_iff_iff]; simp only [decide_eq_true_eq, Bool.false_eq_true, false_iff]; omega
  ·congr 1; rw [Bool.eq_iff_iff]; simp only [decide_eq_true_eq, Bool.false_eq_true, false_iff]; omega
 ·congr 1; rw [Bool.eq_iff_iff]; simp only [decide_eq_true_eq, Bool.false_eq_true, false_iff]; omega
def okSet (l : List Task) : Bool := decide (l.length ≤ 5) && l.all okTask
theorem impl_SetValid_f (l : List Task) : impl_SetValid.f l = some (okSet l) := rfl
theorem impl_SetValid_ev (l : List Task) (_ : l.length ≤ 1048576) : Tl (fun _ => impl_SetValid.f l) (okSet l) := Tl.of_eq fun _ => impl_SetValid_f l
theorem spec_SetValid_ev (l : List Task) (hl : l.length ≤ 1048576) : Tl (fun k => spec_SetValid.f k l) (okSet l) := by
 have key := Tl.all (F := fun k i => spec_SetValid.l0 k l i) (n := l.length) (P := fun j => okTask (l.getD j z62)) (fin := decide (l.length ≤ 5)) ?_ ?_ ?_
 ·rw [all_range] at key
  unfold okSet
  rw [Bool.and_comm]
  exact key
 ·intro j hj hp r h
  refine Tl.step ?_
  have c3 := eq_true (show (j : Int) < (l.length : Int) by omega)
  have c4 := eq_true (show 0 ≤ (j : Int) by omega)
  have c5 : spec_TaskValid.f (rd_T62 l (j : Int)).f0 (rd_T62 l (j : Int)).f1 (rd_T62 l (j : Int)).f2 = some true := by rw [spec_TaskValid_f]; exact congrArg some hp
  simp only [spec_SetValid.l0, c3, c4, c5, if_true, Option.bind_some]
  rw [wrap_succ hj (by omega)]
  exact h
 ·intro j hj hp
  refine Tl.step ?_
  have c3 := eq_true (show (j : Int) < (l.length : Int) by omega)
  have c4 := eq_true (show 0 ≤ (j : Int) by omega)
  have c5 : spec_TaskValid.f (rd_T62 l (j : Int)).f0 (rd_T62 l (j : Int)).f1 (rd_T62 l (j : Int)).f2 = some false := by rw [spec_TaskValid_f]; exact congrArg some hp
  simp only [spec_SetValid.l0, c3, c4, c5, if_true, Option.bind_some, Bool.false_eq_true, if_false]
  exact Tl.ret _
 ·refine Tl.step ?_
  have c3 := eq_false (show ¬ ((l.length : Int) < (l.length : Int)) by omega)
  simp only [spec_SetValid.l0, c3, if_false]
  have : decide ((l.length : Int) ≤ 5) = decide (l.length ≤ 5) := by rw [decide_eq_decide]; omega
  rw [this]
  exact Tl.ret _
theorem tmod_pos {a b : Int} (ha : 0 ≤ a) (_hb : 0 < b) : Int.tmod a b = a % b := Int.tmod_eq_emod_of_nonneg ha
theorem tdiv_pos {a b : Int} (ha : 0 ≤ a) : Int.tdiv a b = a / b := Int.tdiv_eq_ediv_of_nonneg ha
def tk (l : List Task) (j : Nat) : Task := l.getD j z62
theorem rd_tk (l : List Task) (j : Nat) : rd_T62 l (j : Int) = tk l j := rfl
theorem okSet_len {l : List Task} (h : okSet l = true) : l.length ≤ 5 := by unfold okSet at h; simp at h; exact h.1
theorem okSet_tk {l : List Task} (h : okSet l = true) {j : Nat} (hj : j < l.length) : 1 ≤ (tk l j).f0 ∧ (tk l j).f0 ≤ 8 ∧ (tk l j).f0 ≤ (tk l j).f1 ∧ (tk l j).f1 ≤ (tk l j).f2 ∧ (tk l j).f2 ≤ 12 := by
 unfold okSet at h
 rw [Bool.and_eq_true, List.all_eq_true] at h
 have h1 : tk l j ∈ l := by unfold tk; simp [List.getD_eq_getElem?_getD, hj]
 have := h.2 _ h1
 unfold okTask at this
 exact of_decide_eq_true this
end Go.Proofs.Ytonifhkplniblaa.Print
namespace Go.Proofs.Ytonifhkplniblaa.Print
open Go.RowKit Go.Proofs.YtonifhkplniblaaW.PrintWords Go.Proofs.YtonifhkplniblaaW.PrintMore Go.Proofs.Ytonifhkplniblaa.Evs Go.Proofs.Ytonifhkplniblaa.Opens
set_option linter.unusedSimpArgs false
set_option linter.unusedVariables false
theorem rd_jb (l : List S67) (j : Nat) : rd_T67 l (j : Int) = jb l j := rfl
theorem rd_jb' (l : List S67) (i : Int) : rd_T67 l i = jb l i.toNat := rfl
theorem rd_tk' (l : List Task) (i : Int) : rd_T62 l i = tk l i.toNat := rfl
theorem nextL_says {s : List Task} {l : List S67} (hok : okSet s = true) {n : Nat} (hin : ∀ i, i < n → (0 ≤ (jb l i).f0 ∧ (jb l i).f0 < s.length) ∧ 0 ≤ (jb l i).f1 ∧ (jb l i).f1 ≤ 119) :
  ∀ i, i ≤ n → ∀ t : Int, 0 ≤ t → t < s.length → rd (nextL s l i) t = match lastT l i t with | none => 0 | some b => b + (rd_T62 s t).f2
 | 0, _, t, h0, h1 => by
  show (List.replicate s.length (0 : Int)).getD t.toNat 0 = 0
  simp [List.getD_eq_getElem?_getD, List.getElem?_replicate]
  split <;> rfl
 | i + 1, hi, t, h0, h1 => by
  obtain ⟨⟨a1, a2⟩, a3, a4⟩ := hin i (by omega)
  have ih := nextL_says hok hin i (by omega) t h0 h1
  have hlen := nextL_len s l i
  have hgj : l.getD i z67 = jb l i := rfl
  unfold lastT
  rw [hgj]
  show ((nextL s l i).set (jb l i).f0.toNat _).getD t.toNat 0 = _
  rw [List.getD_eq_getElem?_getD, List.getElem?_set]
  by_cases e : (jb l i).f0 = t
  ·rw [if_pos (by omega), if_pos (by omega), if_pos e]
   simp only [Option.getD_some]
   rw [e, rd_tk']
   have hv := okSet_tk hok (j := t.toNat) (by omega)
   exact wrap_id (by omega) (by omega)
  ·rw [if_neg (by omega), if_neg e]
   rw [← List.getD_eq_getElem?_getD]
   exact ih
theorem spec_JobsLegal_ev0 (s : List Task) (l : List S67) (hs : s.length ≤ 1048576) (hl : l.length ≤ 1048576) :
  Tl (fun k => spec_JobsLegal.f k s l) (okSet s && (decide (l.length ≤ 60) && (List.range l.length).all (specAt s l))) := by
 unfold spec_JobsLegal.f
 refine Tl.bind (spec_SetValid_ev s hs) ?_
 cases hok : okSet s with
 | false => exact Tl.iteF (by simp) (Tl.ret _)
 | true =>
  have hs5 := okSet_len hok
  refine Tl.iteT rfl ?_
  by_cases h : l.length ≤ 60
  ·rw [decide_eq_true h]
   exact Tl.iteT h (Tl.iteT (by omega) (Tl.ret _))
  ·rw [decide_eq_false h]
   exact Tl.iteF h (Tl.ret _)
theorem legal_eq {s : List Task} (hok : okSet s = true) (l : List S67) : legalB s l = (decide (l.length ≤ 60) && (List.range l.length).all (specAt s l)) := by
 have hgj : ∀ i, l.getD i z67 = jb l i := fun _ => rfl
 have hdl : l.all (dlOk s) = (List.range l.length).all (fun i => dlOk s (jb l i)) := by
  rw [Bool.eq_iff_iff, List.all_eq_true, List.all_eq_true]
  constructor
  ·intro h i hi
   have hi := List.mem_range.1 hi
   refine h _ ?_
   unfold jb
   simp [List.getD_eq_getElem?_getD, hi]
  ·intro h x hx
   obtain ⟨i, hi, rfl⟩ := List.getElem_of_mem hx
   have := h i (List.mem_range.2 hi)
   simpa [jb, List.getD_eq_getElem?_getD, hi] using this
 have spc : ∀ i, i < l.length → (∀ i, i < l.length → (0 ≤ (jb l i).f0 ∧ (jb l i).f0 < s.length) ∧ 0 ≤ (jb l i).f1 ∧ (jb l i).f1 ≤ 119) → (spcAt s l i = true ↔ ¬ (jb l i).f1 < rd (nextL s l i) (jb l i).f0) := by
  intro i hi hin
  obtain ⟨⟨a1, a2⟩, a3, a4⟩ := hin i hi
  rw [nextL_says hok hin i (by omega) _ a1 a2]
  unfold spcAt
  rw [hgj]
  cases lastT l i (jb l i).f0 with
  | none => simp; omega
  | some b => simp; omega
 unfold legalB ordB
 rw [hdl, Bool.eq_iff_iff]
 simp only [Bool.and_eq_true, List.all_eq_true, List.mem_range, decide_eq_true_eq]
 constructor
 ·rintro ⟨⟨h1, h2⟩, h3, h4⟩
  have hin : ∀ i, i < l.length → (0 ≤ (jb l i).f0 ∧ (jb l i).f0 < s.length) ∧ 0 ≤ (jb l i).f1 ∧ (jb l i).f1 ≤ 119 := by
   intro i hi
   have := h1 i hi
   unfold ordAt at this
   rw [Bool.and_eq_true, hgj] at this
   exact ⟨jobIn_f0 this.1, jobIn_f1 this.1⟩
  refine ⟨h2, fun i hi => ?_⟩
  have g1 := h1 i hi
  have g3 := (spc i hi hin).1 (h3 i hi)
  have g4 := h4 i hi
  unfold ordAt at g1
  rw [Bool.and_eq_true] at g1
  simp only [hgj] at g1
  obtain ⟨ga, gb⟩ := g1
  unfold jobIn at ga
  simp only [Bool.and_eq_true, decide_eq_true_eq] at ga
  unfold specAt
  rw [decide_eq_true ga.1, decide_eq_true ga.2.1, decide_eq_true ga.2.2, decide_eq_false g3, g4]
  simpa using gb
 ·rintro ⟨h2, h1⟩
  have hx : ∀ i, i < l.length → (0 ≤ (jb l i).f0 ∧ (jb l i).f0 ≤ (s.length : Int) - 1) ∧ (0 ≤ (jb l i).f1 ∧ (jb l i).f1 ≤ 119) ∧ ¬ (jb l i).f1 < rd (nextL s l i) (jb l i).f0 ∧ dlOk s (jb l i) = true ∧ (1 ≤ (jb l i).f3 ∧ (jb l i).f3 ≤ (rd_T62 s (jb l i).f0).f0) ∧ (decide (0 < i) && jobBad (jb l (i - 1)) (jb l i)) = false := by
   intro i hi
   have := h1 i hi
   unfold specAt at this
   simp only [Bool.and_eq_true, Bool.not_eq_true', decide_eq_true_eq, decide_eq_false_iff_not] at this
   obtain ⟨⟨a, b⟩, ⟨c, d, e⟩, f⟩ := this
   exact ⟨a, b, c, d, e, f⟩
  have hin : ∀ i, i < l.length → (0 ≤ (jb l i).f0 ∧ (jb l i).f0 < s.length) ∧ 0 ≤ (jb l i).f1 ∧ (jb l i).f1 ≤ 119 := fun i hi => by
   obtain ⟨a, b, _⟩ := hx i hi
   exact ⟨by omega, b⟩
  refine ⟨⟨fun i hi => ?_, h2⟩, fun i hi => (spc i hi hin).2 (hx i hi).2.2.1, fun i hi => (hx i hi).2.2.2.1⟩
  obtain ⟨a, b, c, d, e, f⟩ := hx i hi
  unfold ordAt jobIn
  rw [hgj, hgj, decide_eq_true a, decide_eq_true b, decide_eq_true e, f]
  rfl
def legal (s : List Task) (l : List S67) : Bool := okSet s && legalB s l
theorem impl_JobsLegal_f (s : List Task) (l : List S67) : impl_JobsLegal.f s l = some (legal s l) := by
 unfold impl_JobsLegal.f legal
 rw [impl_SetValid_f, Option.bind_some]
theorem impl_JobsLegal_ev (s : List Task) (l : List S67) (hs : s.length ≤ 1048576) (hl : l.length ≤ 1048576) : Tl (fun _ => impl_JobsLegal.f s l) (legal s l) := Tl.of_eq fun _ => impl_JobsLegal_f s l
theorem spec_JobsLegal_ev (s : List Task) (l : List S67) (hs : s.length ≤ 1048576) (hl : l.length ≤ 1048576) : Tl (fun k => spec_JobsLegal.f k s l) (legal s l) := by
 refine (spec_JobsLegal_ev0 s l hs hl).cast ?_
 unfold legal
 cases hok : okSet s with
 | false => rfl
 | true => rw [Bool.true_and, Bool.true_and, legal_eq hok]
theorem rd_lst (o : List Int) (j : Nat) : rd o (j : Int) = o.getD j 0 := rfl
theorem bestN_congr {ok ok' : Nat → Bool} {key key' : Nat → Int} : ∀ n, (∀ i, i < n → ok i = ok' i) → (∀ i, i < n → key i = key' i) → bestN ok key n = bestN ok' key' n
 | 0, _, _ => rfl
 | n + 1, h1, h2 => by
  have ih := bestN_congr n (fun i hi => h1 i (by omega)) (fun i hi => h2 i (by omega))
  have hin := bestN_in ok' key' n
  unfold bestN
  rw [ih, h1 n (by omega), h2 n (by omega)]
  by_cases h : bestN ok' key' n < 0
  ·simp [h]
  ·rw [h2 (bestN ok' key' n).toNat (by omega)]
def leftL (jobs : List S67) (done : List Int) : List Int := (List.range jobs.length).map (fun i => (jb jobs i).f3 - done.getD i 0)
theorem leftL_len (jobs : List S67) (done : List Int) : (leftL jobs done).length = jobs.length := by simp [leftL]
theorem leftL_at (jobs : List S67) (done : List Int) {i : Nat} (h : i < jobs.length) : (leftL jobs done).getD i 0 = (jb jobs i).f3 - done.getD i 0 := by
 unfold leftL
 rw [List.getD_eq_getElem?_getD, List.getElem?_map, List.getElem?_range h]
 rfl
theorem leftL_set (jobs : List S67) (done : List Int) (hl : done.length = jobs.length) {n : Nat} (h : n < jobs.length) : (leftL jobs done).set n ((jb jobs n).f3 - done.getD n 0 - 1) = leftL jobs (done.set n (done.getD n 0 + 1)) := by
 apply List.ext_getElem?
 intro i
 by_cases hi : i < jobs.length
 ·rw [List.getElem?_set]
  have e2 := leftL_at jobs (done.set n (done.getD n 0 + 1)) hi
  have e1 := leftL_at jobs done hi
  rw [List.getD_eq_getElem?_getD] at e1 e2
  have h1 : i < (leftL jobs done).length := by rw [leftL_len]; exact hi
  have h2 : i < (leftL jobs (done.set n (done.getD n 0 + 1))).length := by rw [leftL_len]; exact hi
  rw [List.getElem?_eq_getElem h1] at e1 ⊢
  rw [List.getElem?_eq_getElem h2] at e2 ⊢
  simp only [Option.getD_some] at e1 e2
  rw [e2, getD_set']
  by_cases e : n = i
  ·subst e
   rw [if_pos rfl, if_pos h1, if_pos ⟨rfl, by omega⟩]
   congr 1
   omega
  ·rw [if_neg e, if_neg (by omega), e1]
 ·rw [List.getElem?_eq_none (by rw [List.length_set, leftL_len]; omega), List.getElem?_eq_none (by rw [leftL_len]; omega)]
theorem spec_Best_ev (jobs : List S67) (left keys : List Int) (now : Int) (hj : jobs.length ≤ 60) (hl : left.length = jobs.length) (hk : keys.length = jobs.length) :
  Tl (fun k => spec_l3Best.f k jobs left keys now) (bestN (fun i => decide ((jb jobs i).f1 ≤ now) && decide (left.getD i 0 > 0)) (fun i => keys.getD i 0) jobs.length) := by
 unfold spec_l3Best.f
 obtain ⟨B, hB⟩ : ∃ B, B = bestN (fun i => decide ((jb jobs i).f1 ≤ now) && decide (left.getD i 0 > 0)) (fun i => keys.getD i 0) := ⟨_, rfl⟩
 rw [← hB]
 have hin : ∀ j, -1 ≤ B j ∧ B j < j := by rw [hB]; exact bestN_in _ _
 have hst : ∀ j, B (j + 1) = if (decide ((jb jobs j).f1 ≤ now) && decide (left.getD j 0 > 0)) && (decide (B j < 0) || decide (keys.getD j 0 < keys.getD (B j).toNat 0)) then (j : Int) else B j := fun j => by rw [hB]; rfl
 have h0 : B 0 = -1 := by rw [hB]; rfl
 have key := down (Q := fun j => Tl (fun k => spec_l3Best.l0 k jobs left keys now (B j) (j : Int)) (B jobs.length)) jobs.length ?_ ?_
 ·rw [h0] at key; exact key
 ·refine Tl.step ?_
  simp only [spec_l3Best.l0]
  exact Tl.iteF (by omega) (Tl.ret _)
 ·intro j hj' h
  have hb := hin j
  have hs := hst j
  refine Tl.step ?_
  simp only [spec_l3Best.l0]
  rw [wrap_succ (j := j) (n := jobs.length) (by omega) (by omega), rd_jb, rd_lst, rd_lst]
  refine Tl.iteT (by omega) (Tl.iteT (by omega) ?_)
  by_cases c1 : (jb jobs j).f1 ≤ now
  ·refine Tl.iteT c1 (Tl.iteT (by omega) ?_)
   by_cases c2 : left.getD j 0 > 0
   ·refine Tl.iteT c2 ?_
    by_cases c3 : B j < 0
    ·rw [if_pos (by simp only [decide_eq_true c1, decide_eq_true c2, decide_eq_true c3]; rfl)] at hs
     rw [hs] at h
     exact Tl.iteT c3 h
    ·refine Tl.iteF c3 (Tl.iteT (by omega) (Tl.iteT (by omega) (Tl.iteT (by omega) ?_)))
     have hr : rd keys (B j) = keys.getD (B j).toNat 0 := rfl
     rw [hr]
     by_cases c4 : keys.getD j 0 < keys.getD (B j).toNat 0
     ·rw [if_pos (by simp only [decide_eq_true c1, decide_eq_true c2, decide_eq_true c4]; simp)] at hs
      rw [hs] at h
      exact Tl.iteT c4 h
     ·rw [if_neg (by simp only [decide_eq_false c3, decide_eq_false c4]; simp)] at hs
      rw [hs] at h
      exact Tl.iteF c4 h
   ·rw [if_neg (by simp only [decide_eq_false c2]; simp)] at hs
    rw [hs] at h
    exact Tl.iteF c2 h
  ·rw [if_neg (by simp only [decide_eq_false c1]; simp)] at hs
   rw [hs] at h
   exact Tl.iteF c1 h
theorem legal_jobs' {s : List Task} {l : List S67} (h : legal s l = true) : l.length ≤ 60 ∧ ∀ i, i < l.length → (l.getD i z67).f3 ≤ 8 := by
 unfold legal at h
 rw [Bool.and_eq_true] at h
 exact legal_jobs (by rw [impl_SetValid_f, h.1]) h.2
def keyPick (jobs : List S67) (key : Nat → Int) (_ : Unit) (done : List Int) (t : Nat) : Int × Unit := (bestN (rdyB jobs done t) key jobs.length, ())
theorem keyPick_ok (jobs : List S67) (key : Nat → Int) : PickOk jobs (keyPick jobs key) := by
 have := best_ok jobs (fun _ _ _ => true) (fun _ _ => key)
 simpa [keyPick, PickOk] using this
theorem set_take (run : List Int) (t : Nat) (x : Int) (h : t < run.length) : (run.set t x).take (t + 1) = run.take t ++ [x] := by
 apply List.ext_getElem?
 intro i
 rw [List.getElem?_take, List.getElem?_set, List.getElem?_append]
 simp only [List.length_take, List.getElem?_take]
 rw [Nat.min_eq_left (Nat.le_of_lt h)]
 by_cases h1 : i < t
 ·rw [if_pos (by omega), if_neg (by omega), if_pos h1, if_pos h1]
 ·by_cases h2 : i = t
  ·subst h2; simp [h]
  ·rw [if_neg (by omega), if_neg h1, List.getElem?_eq_none (by simp; omega)]
theorem spec_run_ev (jobs : List S67) (keys : List Int) (key : Nat → Int) (hj : jobs.length ≤ 60) (hex : ∀ i, i < jobs.length → (jobs.getD i z67).f3 ≤ 8) (hk : keys.length = jobs.length) (hkey : ∀ i, i < jobs.length → keys.getD i 0 = key i) :
  ∀ d t, t + d = 120 → Tl (fun k => spec_l3Run.l1 k jobs keys (leftL jobs (simN jobs (keyPick jobs key) () t).2.1) (t : Int) ((simN jobs (keyPick jobs key) () t).2.2.1.take t) (simN jobs (keyPick jobs key) () t).2.2.2) ((simN jobs (keyPick jobs key) () 120).2.2.1, (simN jobs (keyPick jobs key) () 120).2.2.2)
 | 0, t, ht => by
  obtain rfl : t = 120 := by omega
  have hl := simN_len (jobs := jobs) (pick := keyPick jobs key) (s0 := ()) 120
  refine Tl.step ?_
  simp only [spec_l3Run.l1]
  refine Tl.iteF (by omega) ?_
  rw [List.take_of_length_le (by omega)]
  exact Tl.ret _
 | d + 1, t, ht => by
  have hl := simN_len (jobs := jobs) (pick := keyPick jobs key) (s0 := ()) t
  have hdn := simN_done (keyPick_ok jobs key) hex (s0 := ()) t
  have ih := spec_run_ev jobs keys key hj hex hk hkey d (t + 1) (by omega)
  have hst : simN jobs (keyPick jobs key) () (t + 1) = simStep jobs (keyPick jobs key) t (simN jobs (keyPick jobs key) () t) := rfl
  obtain ⟨X, hX⟩ : ∃ X, X = simN jobs (keyPick jobs key) () t := ⟨_, rfl⟩
  rw [← hX] at hl hdn hst ⊢
  rw [hst] at ih
  clear hX hst
  obtain ⟨u, done, run, fin⟩ := X
  obtain ⟨hl1, hl2, hl3⟩ := hl
  simp only at hl1 hl2 hl3 hdn ih ⊢
  have hpk := keyPick_ok jobs key u done t hl1
  have hb := spec_Best_ev jobs (leftL jobs done) keys (t : Int) hj (leftL_len _ _) hk
  rw [bestN_congr (ok' := rdyB jobs done t) (key' := key) jobs.length (fun i hi => by
   rw [leftL_at jobs done hi]
   unfold rdyB
   have e1 : jobs.getD i z67 = jb jobs i := rfl
   rw [e1]
   congr 1
   rw [decide_eq_decide]
   omega) hkey] at hb
  unfold simStep at ih
  simp only at ih
  obtain ⟨r, hr⟩ : ∃ r, r = (keyPick jobs key u done t).1 := ⟨_, rfl⟩
  rw [← hr] at ih hpk
  have hbr : bestN (rdyB jobs done t) key jobs.length = r := hr.symm
  rw [hbr] at hb
  refine Tl.step ?_
  simp only [spec_l3Run.l1]
  refine Tl.iteT (by omega) (Tl.bind hb (Tl.iteT (by rw [List.length_take]; omega) ?_))
  simp only [Option.bind_some]
  rw [wrap_succ (j := t) (n := 120) (by omega) (by omega)]
  rw [← set_take run t r (by omega)]
  by_cases hn : r < 0
  ·rw [if_pos hn] at ih
   exact Tl.iteF (by omega) ih
  ·rw [if_neg hn] at ih
   obtain ⟨n, rfl⟩ : ∃ n : Nat, r = (n : Int) := ⟨r.toNat, by omega⟩
   simp only [Int.toNat_natCast] at ih hpk ⊢
   have h3 := hpk.2.2 (by omega)
   have hn' : n < jobs.length := by omega
   have hex' := hex n hn'
   have hd' := hdn n
   have hgj : jobs.getD n z67 = jb jobs n := rfl
   rw [hgj] at h3 hex' ih
   refine Tl.iteT (by omega) (Tl.iteT (by omega) (Tl.iteT (by rw [leftL_len]; omega) ?_))
   have e1 : rd (leftL jobs done) (n : Int) = (jb jobs n).f3 - done.getD n 0 := leftL_at jobs done hn'
   have e2 : rd (leftL jobs (done.set n (done.getD n 0 + 1))) (n : Int) = (jb jobs n).f3 - (done.getD n 0 + 1) := by rw [rd_lst, leftL_at _ _ hn', getD_set', if_pos ⟨rfl, by omega⟩]
   rw [e1, wrap_id (n := (jb jobs n).f3 - done.getD n 0 - 1) (by omega) (by omega), leftL_set jobs done hl1 hn', e2]
   by_cases he : done.getD n 0 + 1 = (jb jobs n).f3
   ·rw [if_pos he] at ih
    exact Tl.iteT (by omega) (Tl.iteT (by omega) ih)
   ·rw [if_neg he] at ih
    exact Tl.iteF (by omega) ih
theorem spec_fill_ev (jobs : List S67) (keys : List Int) {R : List Int × List Int} (hj : jobs.length ≤ 60) (h : Tl (fun k => spec_l3Run.l1 k jobs keys (leftL jobs (List.replicate jobs.length 0)) 0 [] (List.replicate jobs.length (-1))) R) :
  Tl (fun k => spec_l3Run.f k jobs keys) R := by
 unfold spec_l3Run.f
 have key := down (Q := fun j => Tl (fun k => spec_l3Run.l0 k jobs keys ((leftL jobs (List.replicate jobs.length 0)).take j) (j : Int) ((List.replicate jobs.length (-1 : Int)).take j)) R) jobs.length ?_ ?_
 ·simpa using key
 ·refine Tl.step ?_
  simp only [spec_l3Run.l0]
  refine Tl.iteF (by omega) ?_
  rw [List.take_of_length_le (by rw [leftL_len]; omega), List.take_of_length_le (by simp)]
  exact h
 ·intro j hj' h
  refine Tl.step ?_
  simp only [spec_l3Run.l0]
  rw [wrap_succ (j := j) (n := jobs.length) (by omega) (by omega), rd_jb]
  refine Tl.iteT (by omega) (Tl.iteT (by omega) (Tl.iteT (by rw [List.length_take]; omega) (Tl.iteT (by rw [List.length_take]; omega) ?_)))
  have e1 : (leftL jobs (List.replicate jobs.length 0)).take j ++ [(jb jobs j).f3] = (leftL jobs (List.replicate jobs.length 0)).take (j + 1) := by
   have hlt : j < (leftL jobs (List.replicate jobs.length 0)).length := by rw [leftL_len]; exact hj'
   rw [List.take_add_one, List.getElem?_eq_getElem hlt]
   have := leftL_at jobs (List.replicate jobs.length 0) hj'
   rw [List.getD_eq_getElem?_getD, List.getElem?_eq_getElem hlt] at this
   simp only [Option.getD_some] at this
   rw [this]
   simp [List.getD_eq_getElem?_getD, List.getElem?_replicate, hj']
  have e2 : (List.replicate jobs.length (-1 : Int)).take j ++ [(-1 : Int)] = (List.replicate jobs.length (-1 : Int)).take (j + 1) := by
   simp only [List.take_replicate]
   rw [Nat.min_eq_left (by omega), Nat.min_eq_left (by omega), List.replicate_succ']
  rw [e1, e2]
  exact h
def runKey (jobs : List S67) (key : Nat → Int) : List Int × List Int := ((simN jobs (keyPick jobs key) () 120).2.2.1, (simN jobs (keyPick jobs key) () 120).2.2.2)
theorem spec_l3Run_ev (jobs : List S67) (keys : List Int) (key : Nat → Int) (hj : jobs.length ≤ 60) (hex : ∀ i, i < jobs.length → (jobs.getD i z67).f3 ≤ 8) (hk : keys.length = jobs.length) (hkey : ∀ i, i < jobs.length → keys.getD i 0 = key i) :
  Tl (fun k => spec_l3Run.f k jobs keys) (runKey jobs key) :=
 spec_fill_ev jobs keys hj (spec_run_ev jobs keys key hj hex hk hkey 120 0 rfl)
theorem runKey_len (jobs : List S67) (key : Nat → Int) : (runKey jobs key).1.length = 120 ∧ (runKey jobs key).2.length = jobs.length := by
 have hl := simN_len (jobs := jobs) (pick := keyPick jobs key) (s0 := ()) 120
 exact ⟨hl.2.1, hl.2.2⟩
end Go.Proofs.Ytonifhkplniblaa.Print
namespace Go.Proofs.Ytonifhkplniblaa.Evs
set_option linter.unusedSimpArgs false
set_option linter.unusedVariables false
def idxN (o : List Int) (v : Int) : Nat → Nat → Int
 | 0, _ => -1
 | n + 1, j => if o.getD j 0 = v then (j : Int) else idxN o v n (j + 1)
def idx (o : List Int) (v : Int) : Int := idxN o v o.length 0
theorem idxN_spec (o : List Int) (v : Int) : ∀ (n j : Nat), (idxN o v n j = -1 ∧ ∀ i, j ≤ i → i < j + n → o.getD i 0 ≠ v) ∨ (∃ i, j ≤ i ∧ i < j + n ∧ idxN o v n j = (i : Int) ∧ o.getD i 0 = v ∧ ∀ i', j ≤ i' → i' < i → o.getD i' 0 ≠ v)
 | 0, j => .inl ⟨rfl, fun i h1 h2 => by omega⟩
 | n + 1, j => by
  unfold idxN
  by_cases hc : o.getD j 0 = v
  ·rw [if_pos hc]
   exact .inr ⟨j, Nat.le_refl _, by omega, rfl, hc, fun i' h1 h2 => by omega⟩
  ·rw [if_neg hc]
   rcases idxN_spec o v n (j + 1) with ⟨h1, h2⟩ | ⟨i, h1, h2, h3, h4, h5⟩
   ·refine .inl ⟨h1, fun i h3 h4 => ?_⟩
    rcases Nat.lt_or_ge j i with h | h
    ·exact h2 i h (by omega)
    ·obtain rfl : i = j := by omega
     exact hc
   ·refine .inr ⟨i, by omega, by omega, h3, h4, fun i' h6 h7 => ?_⟩
    rcases Nat.lt_or_ge j i' with h | h
    ·exact h5 i' h h7
    ·obtain rfl : i' = j := by omega
     exact hc
theorem idx_spec (o : List Int) (v : Int) : (idx o v = -1 ∧ ∀ i, i < o.length → o.getD i 0 ≠ v) ∨ (∃ i, i < o.length ∧ idx o v = (i : Int) ∧ o.getD i 0 = v ∧ ∀ i', i' < i → o.getD i' 0 ≠ v) := by
 rcases idxN_spec o v o.length 0 with ⟨h1, h2⟩ | ⟨i, h1, h2, h3, h4, h5⟩
 ·exact .inl ⟨h1, fun i h => h2 i (by omega) (by omega)⟩
 ·exact .inr ⟨i, by omega, h3, h4, fun i' h => h5 i' (by omega) h⟩
theorem take_at (o : List Int) {i j : Nat} (h : i < j) : (o.take j).getD i 0 = o.getD i 0 := by
 simp [List.getD_eq_getElem?_getD, List.getElem?_take, h]
theorem idx_first {o : List Int} {j : Nat} (hj : j < o.length) : idx o (o.getD j 0) = (j : Int) ↔ idx (o.take j) (o.getD j 0) < 0 := by
 have hl : (o.take j).length = j := by simp; omega
 rcases idx_spec (o.take j) (o.getD j 0) with ⟨h1, h2⟩ | ⟨i, h1, h2, h3, h4⟩
 ·constructor
  ·intro _; omega
  ·intro _
   rcases idx_spec o (o.getD j 0) with ⟨g1, g2⟩ | ⟨i, g1, g2, g3, g4⟩
   ·exact absurd rfl (g2 j hj)
   ·rw [g2]
    rcases Nat.lt_or_ge i j with h | h
    ·exact absurd (by rw [take_at o h]; exact g3) (h2 i (by omega))
    ·rcases Nat.lt_or_ge j i with h' | h'
     ·exact absurd rfl (g4 j h')
     ·omega
 ·rw [hl] at h1
  rw [take_at o h1] at h3
  constructor
  ·intro h
   rcases idx_spec o (o.getD j 0) with ⟨g1, g2⟩ | ⟨i', g1, g2, g3, g4⟩
   ·omega
   ·exact absurd h3 (g4 i (by omega))
  ·intro h; omega
theorem Tl.idxN {F : Nat → Int → Option Int} {o : List Int} {v : Int}
  (ht : ∀ j, j < o.length → o.getD j 0 ≠ v → ∀ r, Tl (fun k => F k ((j + 1 : Nat) : Int)) r → Tl (fun k => F k (j : Int)) r)
  (hf : ∀ j, j < o.length → o.getD j 0 = v → Tl (fun k => F k (j : Int)) (j : Int)) (he : Tl (fun k => F k (o.length : Int)) (-1)) :
  ∀ (n j : Nat), j + n = o.length → Tl (fun k => F k (j : Int)) (idxN o v n j)
 | 0, j, e => by
  obtain rfl : j = o.length := by omega
  exact he
 | n + 1, j, e => by
  unfold Evs.idxN
  by_cases hc : o.getD j 0 = v
  ·rw [if_pos hc]; exact hf j (by omega) hc
  ·rw [if_neg hc]; exact ht j (by omega) hc _ (Tl.idxN ht hf he n (j + 1) (by omega))
end Go.Proofs.Ytonifhkplniblaa.Evs
namespace Go.Proofs.Ytonifhkplniblaa.Print
open Go.RowKit Go.Proofs.YtonifhkplniblaaW.PrintWords Go.Proofs.Ytonifhkplniblaa.Evs Go.Proofs.Ytonifhkplniblaa.Opens
set_option linter.unusedSimpArgs false
set_option linter.unusedVariables false
theorem rd_getD (o : List Int) (j : Nat) : rd o (j : Int) = o.getD j 0 := rfl
theorem spec_Index_ev (o : List Int) (v : Int) (hl : o.length ≤ 1048576) : Tl (fun k => spec_l4Index.f k o v) (idx o v) := by
 unfold spec_l4Index.f
 refine Tl.idxN (F := fun k i => spec_l4Index.l0 k o v i) ?_ ?_ ?_ o.length 0 (by omega)
 ·intro j hj hc r hh
  refine Tl.step ?_
  simp only [spec_l4Index.l0, rd_getD]
  rw [wrap_succ hj (by omega)]
  exact Tl.iteT (by omega) (Tl.iteT (by omega) (Tl.iteF hc hh))
 ·intro j hj hc
  refine Tl.step ?_
  simp only [spec_l4Index.l0, rd_getD]
  exact Tl.iteT (by omega) (Tl.iteT (by omega) (Tl.iteT hc (Tl.ret _)))
 ·refine Tl.step ?_
  simp only [spec_l4Index.l0]
  exact Tl.iteF (by omega) (Tl.ret _)
theorem impl_Index_ev (o : List Int) (v : Int) (hl : o.length ≤ 1048576) : Tl (fun k => slices_Index_int_int.f k o v) (idx o v) := by
 unfold slices_Index_int_int.f
 refine Tl.idxN (F := fun k i => slices_Index_int_int.l0 k o v (o.length : Int) i) ?_ ?_ ?_ o.length 0 (by omega)
 ·intro j hj hc r hh
  refine Tl.step ?_
  simp only [slices_Index_int_int.l0, rd_getD]
  rw [wrap_succ hj (by omega)]
  exact Tl.iteT (by omega) (Tl.iteT (by omega) (Tl.iteT (by omega) (Tl.iteF (fun h => hc h.symm) hh)))
 ·intro j hj hc
  refine Tl.step ?_
  simp only [slices_Index_int_int.l0, rd_getD]
  exact Tl.iteT (by omega) (Tl.iteT (by omega) (Tl.iteT (by omega) (Tl.iteT hc.symm (Tl.ret _))))
 ·refine Tl.step ?_
  simp only [slices_Index_int_int.l0]
  exact Tl.iteF (by omega) (Tl.ret _)
def okAt (s : List Task) (o : List Int) (j : Nat) : Bool := decide (0 ≤ o.getD j 0 ∧ o.getD j 0 ≤ (s.length : Int) - 1) && decide (idx (o.take j) (o.getD j 0) < 0)
def okOrder (s : List Task) (o : List Int) : Bool := (List.range o.length).all (okAt s o) && (okSet s && decide (o.length = s.length))
theorem impl_OrderValid_ev (s : List Task) (o : List Int) (hs : s.length ≤ 1048576) (ho : o.length ≤ 1048576) : Tl (fun k => impl_OrderValid.f k s o) (okOrder s o) := by
 unfold impl_OrderValid.f okOrder
 refine Tl.all (F := fun k i => impl_OrderValid.l0 k s o o (o.length : Int) i) ?_ ?_ ?_
 ·intro j hj hp r hh
  unfold okAt at hp
  rw [Bool.and_eq_true, decide_eq_true_eq, decide_eq_true_eq, ← idx_first hj] at hp
  refine Tl.step ?_
  simp only [impl_OrderValid.l0, rd_getD]
  rw [wrap_succ hj (by omega), wrap_id (n := (s.length : Int) - 1) (by omega) (by omega)]
  refine Tl.iteT (by omega) (Tl.iteT (by omega) (Tl.iteT (by omega) (Tl.bind (Tl.of_eq fun _ => impl_in_f _ _ _) (Tl.iteT (decide_eq_true hp.1) (Tl.bind (impl_Index_ev o _ ho) (Tl.iteT hp.2 hh))))))
 ·intro j hj hp
  unfold okAt at hp
  refine Tl.step ?_
  simp only [impl_OrderValid.l0, rd_getD]
  rw [wrap_id (n := (s.length : Int) - 1) (by omega) (by omega)]
  refine Tl.iteT (by omega) (Tl.iteT (by omega) (Tl.iteT (by omega) (Tl.bind (Tl.of_eq fun _ => impl_in_f _ _ _) ?_)))
  by_cases h1 : 0 ≤ o.getD j 0 ∧ o.getD j 0 ≤ (s.length : Int) - 1
  ·rw [decide_eq_true h1, Bool.true_and, decide_eq_false_iff_not, ← idx_first hj] at hp
   exact Tl.iteT (decide_eq_true h1) (Tl.bind (impl_Index_ev o _ ho) (Tl.iteF hp (Tl.ret _)))
  ·exact Tl.iteF (by rw [decide_eq_true_eq]; exact h1) (Tl.ret _)
 ·refine Tl.step ?_
  simp only [impl_OrderValid.l0]
  refine Tl.iteF (by omega) (Tl.bind (impl_SetValid_ev s hs) ?_)
  have e : ((o.length : Int) == (s.length : Int)) = decide (o.length = s.length) := by rw [Bool.eq_iff_iff, beq_iff_eq, decide_eq_true_eq]; omega
  rw [e]
  cases okSet s with
  | true => exact Tl.iteT rfl (Tl.ret _)
  | false => exact Tl.iteF (by simp) (Tl.ret _)
theorem spec_OrderValid_ev (s : List Task) (o : List Int) (hs : s.length ≤ 1048576) (ho : o.length ≤ 1048576) : Tl (fun k => spec_OrderValid.f k s o) (okOrder s o) := by
 unfold spec_OrderValid.f okOrder
 have hj : Tl (fun k => spec_OrderValid.j0 k s o true) false := by
  refine Tl.step ?_
  simp only [spec_OrderValid.j0]
  exact Tl.iteT trivial (Tl.ret _)
 refine Tl.bind (spec_SetValid_ev s hs) ?_
 by_cases h : okSet s = true
 ·refine Tl.iteT h ?_
  by_cases h2 : o.length = s.length
  ·rw [h, decide_eq_true h2, show ((o.length : Int) != (s.length : Int)) = false from by rw [bne_eq_false_iff_eq]; omega]
   refine Tl.step ?_
   simp only [spec_OrderValid.j0]
   refine Tl.iteF (by simp) ?_
   refine Tl.all (F := fun k i => spec_OrderValid.l0 k s o i) ?_ ?_ ?_
   ·intro j hj hp r hh
    unfold okAt at hp
    rw [Bool.and_eq_true, decide_eq_true_eq, decide_eq_true_eq] at hp
    refine Tl.step ?_
    simp only [spec_OrderValid.l0, rd_getD, Int.toNat_natCast]
    rw [wrap_succ hj (by omega), wrap_id (n := (s.length : Int) - 1) (by omega) (by omega)]
    exact Tl.iteT (by omega) (Tl.iteT (by omega) (Tl.bind (Tl.of_eq fun _ => spec_l1In_f _ _ _) (Tl.iteT (decide_eq_true hp.1) (Tl.iteT (by omega) (Tl.bind (spec_Index_ev _ _ (by simp; omega)) (Tl.iteF (by omega) hh))))))
   ·intro j hj hp
    unfold okAt at hp
    refine Tl.step ?_
    simp only [spec_OrderValid.l0, rd_getD, Int.toNat_natCast]
    rw [wrap_id (n := (s.length : Int) - 1) (by omega) (by omega)]
    refine Tl.iteT (by omega) (Tl.iteT (by omega) (Tl.bind (Tl.of_eq fun _ => spec_l1In_f _ _ _) ?_))
    by_cases h1 : 0 ≤ o.getD j 0 ∧ o.getD j 0 ≤ (s.length : Int) - 1
    ·rw [decide_eq_true h1, Bool.true_and, decide_eq_false_iff_not] at hp
     exact Tl.iteT (decide_eq_true h1) (Tl.iteT (by omega) (Tl.bind (spec_Index_ev _ _ (by simp; omega)) (Tl.iteT (by omega) (Tl.ret _))))
    ·exact Tl.iteF (by rw [decide_eq_true_eq]; exact h1) (Tl.ret _)
   ·refine Tl.step ?_
    simp only [spec_OrderValid.l0]
    exact Tl.iteF (by omega) (Tl.ret _)
  ·rw [decide_eq_false h2, Bool.and_false, Bool.and_false, show ((o.length : Int) != (s.length : Int)) = true from by rw [bne_iff_ne]; omega]
   exact hj
 ·rw [Bool.not_eq_true] at h
  rw [h, Bool.false_and, Bool.and_false]
  exact Tl.iteF (by simp) hj
end Go.Proofs.Ytonifhkplniblaa.Print
namespace Go.Proofs.Ytonifhkplniblaa.Print
open Go.RowKit Go.Proofs.YtonifhkplniblaaW.PrintWords Go.Proofs.YtonifhkplniblaaW.PrintMore Go.Proofs.Ytonifhkplniblaa.Evs Go.Proofs.Ytonifhkplniblaa.Opens Go.Proofs.Ytonifhkplniblaa.Walk
set_option linter.unusedSimpArgs false
set_option linter.unusedVariables false
theorem ixv_idx (o : List Int) (v : Int) : ixv o v = idx o v := by
 unfold ixv
 rcases idx_spec o v with ⟨h1, h2⟩ | ⟨i, hi, h1, h2, h3⟩
 ·rw [h1, idxOf_none 0 (fun i hi => by simpa using h2 i hi)]
 ·rw [h1, idxOf_at 0 hi (fun i' hi' => by simpa using h3 i' hi') (by simpa using h2)]
def keysL (o : List Int) (l : List S67) : List Int := l.map (fun x => idx o x.f0)
theorem spec_fixrun_ev (o : List Int) (l : List S67) (ho : o.length ≤ 1048576) (hj : l.length ≤ 60) (hex : ∀ i, i < l.length → (l.getD i z67).f3 ≤ 8) : Tl (fun k => spec_RunFixed.l0 k o l [] 0) (runKey l (fun i => idx o (jb l i).f0)) := by
 have key := down (Q := fun j => Tl (fun k => spec_RunFixed.l0 k o l ((keysL o l).take j) (j : Int)) (runKey l (fun i => idx o (jb l i).f0))) l.length ?_ ?_
 ·simpa using key
 ·refine Tl.step ?_
  simp only [spec_RunFixed.l0]
  refine Tl.iteF (by omega) ?_
  rw [List.take_of_length_le (by simp [keysL])]
  exact Tl.bind (spec_l3Run_ev l (keysL o l) (fun i => idx o (jb l i).f0) hj hex (by simp [keysL]) (fun i hi => by simp [keysL, jb, List.getD_eq_getElem?_getD, hi])) (Tl.ret _)
 ·intro j hj' h
  refine Tl.step ?_
  simp only [spec_RunFixed.l0]
  rw [wrap_succ (j := j) (n := l.length) (by omega) (by omega), rd_jb]
  refine Tl.iteT (by omega) (Tl.iteT (by omega) (Tl.bind (spec_Index_ev o _ ho) (Tl.iteT (by rw [List.length_take]; omega) ?_)))
  have e1 : (keysL o l).take j ++ [idx o (jb l j).f0] = (keysL o l).take (j + 1) := by
   unfold keysL
   rw [List.take_add_one, List.getElem?_map, List.getElem?_eq_getElem hj']
   simp [jb, List.getD_eq_getElem?_getD, hj']
  rw [e1]
  exact h
def runFixed (s : List Task) (o : List Int) (l : List S67) : List Int × List Int := if okOrder s o = true then (if legal s l = true then runKey l (fun i => idx o (jb l i).f0) else ([], [])) else ([], [])
theorem runFixed_len (s : List Task) (o : List Int) (l : List S67) : (runFixed s o l).1.length ≤ 120 ∧ (runFixed s o l).2.length ≤ 60 := by
 unfold runFixed
 split
 ·split
  ·rename_i h
   have h1 := runKey_len l (fun i => idx o (jb l i).f0)
   have h2 := (legal_jobs' h).1
   omega
  ·simp
 ·simp
theorem spec_RunFixed_ev (s : List Task) (o : List Int) (l : List S67) (hs : s.length ≤ 1048576) (ho : o.length ≤ 1048576) (hl : l.length ≤ 1048576) : Tl (fun k => spec_RunFixed.f k s o l) (runFixed s o l) := by
 unfold spec_RunFixed.f runFixed
 refine Tl.bind (spec_OrderValid_ev s o hs ho) ?_
 cases okOrder s o with
 | false =>
  rw [if_neg (by simp)]
  refine Tl.iteF (by simp) (Tl.step ?_)
  simp only [spec_RunFixed.j0]
  exact Tl.iteT (by simp) (Tl.ret _)
 | true =>
  rw [if_pos rfl]
  refine Tl.iteT rfl (Tl.bind (spec_JobsLegal_ev s l hs hl) (Tl.step ?_))
  simp only [spec_RunFixed.j0]
  cases h : legal s l with
  | false => rw [if_neg (by simp)]; exact Tl.iteT (by simp) (Tl.ret _)
  | true =>
   rw [if_pos rfl]
   obtain ⟨h1, h2⟩ := legal_jobs' h
   exact Tl.iteF (by simp) (spec_fixrun_ev o l ho h1 h2)
theorem impl_RunFixed_ev (s : List Task) (o : List Int) (l : List S67) (hs : s.length ≤ 1048576) (ho : o.length ≤ 1048576) (hl : l.length ≤ 1048576) : Tl (fun k => impl_RunFixed.f k s o l) (runFixed s o l) := by
 unfold impl_RunFixed.f
 refine Tl.bind (impl_OrderValid_ev s o hs ho) ?_
 have hpk : fixPick o l = keyPick l (fun i => idx o (jb l i).f0) := by
  funext u done t
  unfold fixPick keyPick
  have e : (fun i => ixv o (l.getD i z67).f0) = (fun i => idx o (jb l i).f0) := by funext i; exact ixv_idx _ _
  rw [e]
 have hj := impl_JobsLegal_f s l
 cases ha : okOrder s o with
 | false =>
  have hR : runFixed s o l = ([], []) := by unfold runFixed; rw [ha]; rfl
  rw [hR]
  exact Tl.iteF (by simp) (Tl.ret _)
 | true =>
  refine Tl.iteT rfl (Tl.of_eq fun _ => ?_)
  rw [hj, Option.bind_some]
  cases h : legal s l with
  | false =>
   have hR : runFixed s o l = ([], []) := by unfold runFixed; rw [ha, h]; rfl
   rw [hR]; rfl
  | true =>
   have hR : runFixed s o l = runKey l (fun i => idx o (jb l i).f0) := by unfold runFixed; rw [ha, h]; rfl
   rw [hR, if_pos rfl, hpk]
   rfl
end Go.Proofs.Ytonifhkplniblaa.Print
namespace Go.Proofs.Ytonifhkplniblaa.Print
open Go.RowKit Go.Proofs.YtonifhkplniblaaW.PrintWords Go.Proofs.Ytonifhkplniblaa.Evs Go.Proofs.Ytonifhkplniblaa.Opens
set_option linter.unusedSimpArgs false
set_option linter.unusedVariables false
theorem wrap3 {m : Int} (h0 : 0 ≤ m) (h1 : m ≤ 100000000) : wrap64 ((wrap64 ((wrap64 (m + 1)) + 1)) + 1) = m + 3 := by
 rw [wrap_id (n := m + 1) (by omega) (by omega), wrap_id (n := m + 1 + 1) (by omega) (by omega), wrap_id (n := m + 1 + 1 + 1) (by omega) (by omega)]
 omega
theorem markTaskS_at : ∀ (d j : Nat) (l : List Task) (m : Int), j + d = l.length → 0 ≤ m → m + 3 * d ≤ 100000000 → l.length ≤ 1048576 → ∃ l', Tl (fun k => laws_markTaskS.l0 k l m (j : Int)) (m + 3 * d, l')
 | 0, j, l, m, e, h0, h1, h2 => by
  refine ⟨l, Tl.step ?_⟩
  simp only [laws_markTaskS.l0]
  exact Tl.iteF (by omega) (Tl.cast (Tl.ret _) (by rw [show m + 3 * ((0 : Nat) : Int) = m by omega]))
 | d + 1, j, l, m, e, h0, h1, h2 => by
  have key : ∀ x : List Task, x.length = l.length → ∃ l', Tl (fun k => laws_markTaskS.l0 k x (m + 3) ((j + 1 : Nat) : Int)) (m + 3 + 3 * d, l') := fun x hx => markTaskS_at d (j + 1) x (m + 3) (by omega) (by omega) (by omega) (by omega)
  obtain ⟨l', hl'⟩ := key _ (show (((l.set j ⟨m, (tk l j).f1, (tk l j).f2⟩).set j ⟨(tk (l.set j ⟨m, (tk l j).f1, (tk l j).f2⟩) j).f0, wrap64 (m + 1), (tk (l.set j ⟨m, (tk l j).f1, (tk l j).f2⟩) j).f2⟩).set j ⟨(tk ((l.set j ⟨m, (tk l j).f1, (tk l j).f2⟩).set j ⟨(tk (l.set j ⟨m, (tk l j).f1, (tk l j).f2⟩) j).f0, wrap64 (m + 1), (tk (l.set j ⟨m, (tk l j).f1, (tk l j).f2⟩) j).f2⟩) j).f0, (tk ((l.set j ⟨m, (tk l j).f1, (tk l j).f2⟩).set j ⟨(tk (l.set j ⟨m, (tk l j).f1, (tk l j).f2⟩) j).f0, wrap64 (m + 1), (tk (l.set j ⟨m, (tk l j).f1, (tk l j).f2⟩) j).f2⟩) j).f1, wrap64 ((wrap64 (m + 1)) + 1)⟩).length = l.length by simp only [List.length_set])
  refine ⟨l', Tl.step ?_⟩
  simp only [laws_markTaskS.l0, rd_tk, Int.toNat_natCast, Option.bind_some]
  rw [wrap3 h0 (by omega), wrap_succ (n := l.length) (by omega) (by omega)]
  exact Tl.iteT (by omega) (Tl.iteT (by omega) (Tl.cast hl' (by rw [show m + 3 + 3 * (d : Int) = m + 3 * ((d + 1 : Nat) : Int) by omega])))
theorem markTaskS_ev (l : List Task) (m : Int) (h0 : 0 ≤ m) (h1 : m ≤ 10000000) (hl : l.length ≤ 1048576) : ∃ l', Tl (fun k => laws_markTaskS.f k l m) (m + 3 * l.length, l') :=
 markTaskS_at l.length 0 l m (by omega) h0 (by omega) hl
end Go.Proofs.Ytonifhkplniblaa.Print
namespace Go.Proofs.Ytonifhkplniblaa.Print
open Go.RowKit Go.Proofs.YtonifhkplniblaaW.PrintWords Go.Proofs.Ytonifhkplniblaa.Evs Go.Proofs.Ytonifhkplniblaa.Opens
set_option linter.unusedSimpArgs false
theorem eqIntS_ev (l : List Int) (hl : l.length ≤ 1048576) : Tl (fun k => laws_eqIntS.f k l l) true := by
 unfold laws_eqIntS.f
 simp only [if_true]
 refine down (Q := fun j => Tl (fun k => laws_eqIntS.l0 k l l (j : Int)) true) l.length ?_ ?_
 ·refine Tl.step ?_
  have c3 := eq_false (show ¬ ((l.length : Int) < (l.length : Int)) by omega)
  simp only [laws_eqIntS.l0, c3, if_false]
  exact Tl.ret _
 ·intro j hj h
  refine Tl.step ?_
  have c3 := eq_true (show (j : Int) < (l.length : Int) by omega)
  have c4 := eq_true (show 0 ≤ (j : Int) by omega)
  simp only [laws_eqIntS.l0, c3, c4, if_true]
  rw [wrap_succ hj (by omega)]
  exact h
end Go.Proofs.Ytonifhkplniblaa.Print
namespace Go.Proofs.Ytonifhkplniblaa.Print
open Go.RowKit Go.Proofs.YtonifhkplniblaaW.PrintWords Go.Proofs.Ytonifhkplniblaa.Evs Go.Proofs.Ytonifhkplniblaa.Opens
set_option linter.unusedSimpArgs false
set_option linter.unusedVariables false
structure Marked (l : List Int) (m : Int) (n : Nat) : Prop where
 len : l.length = n
 at_ : ∀ i, i < n → l.getD i 0 = m + i
theorem markIntS_at : ∀ (d j : Nat) (l : List Int) (m : Int), j + d = l.length → 0 ≤ m → m + l.length ≤ 100000000 → (∀ i, i < j → l.getD i 0 = m + i) → ∃ l', Marked l' m l.length ∧ Tl (fun k => laws_markIntS.l0 k l (m + j) (j : Int)) (m + l.length, l')
 | 0, j, l, m, e, h0, h1, hm => by
  refine ⟨l, ⟨rfl, fun i hi => hm i (by omega)⟩, Tl.step ?_⟩
  simp only [laws_markIntS.l0]
  exact Tl.iteF (by omega) (Tl.cast (Tl.ret _) (by rw [show m + (j : Int) = m + (l.length : Int) by omega]))
 | d + 1, j, l, m, e, h0, h1, hm => by
  obtain ⟨l', h2, h3⟩ := markIntS_at d (j + 1) (l.set j (m + j)) m (by rw [List.length_set]; omega) h0 (by rw [List.length_set]; exact h1) (fun i hi => by
   by_cases hij : i = j
   ·subst hij
    simp [List.getD_eq_getElem?_getD, List.getElem?_set, show i < l.length by omega]
   ·have := hm i (by omega)
    rw [← this]
    simp [List.getD_eq_getElem?_getD, List.getElem?_set, show ¬ j = i by omega])
  rw [List.length_set] at h2 h3
  refine ⟨l', h2, Tl.step ?_⟩
  simp only [laws_markIntS.l0, Int.toNat_natCast]
  rw [wrap_id (n := m + (j : Int) + 1) (by omega) (by omega), wrap_succ (n := l.length) (by omega) (by omega), show m + (j : Int) + 1 = m + ((j + 1 : Nat) : Int) by omega]
  exact Tl.iteT (by omega) (Tl.iteT (by omega) h3)
theorem markIntS_ev (l : List Int) (m : Int) (h0 : 0 ≤ m) (h1 : m ≤ 10000000) (hl : l.length ≤ 1048576) : ∃ l', Marked l' m l.length ∧ Tl (fun k => laws_markIntS.f k l m) (m + l.length, l') := by
 obtain ⟨l', h2, h3⟩ := markIntS_at l.length 0 l m (by omega) h0 (by omega) (fun i hi => by omega)
 rw [show m + ((0 : Nat) : Int) = m by omega] at h3
 exact ⟨l', h2, h3⟩
theorem heldIntS_ev {l : List Int} {m : Int} {n : Nat} (h : Marked l m n) (h0 : 0 ≤ m) (h1 : m ≤ 10000000) (hl : n ≤ 1048576) : Tl (fun k => laws_heldIntS.f k l m) (m + n) := by
 unfold laws_heldIntS.f
 have he := h.len
 have key := down (Q := fun j => Tl (fun k => laws_heldIntS.l0 k l (m + j) (j : Int)) (m + n)) n ?_ ?_
 ·rw [show m + ((0 : Nat) : Int) = m by omega] at key; exact key
 ·refine Tl.step ?_
  simp only [laws_heldIntS.l0]
  exact Tl.iteF (by omega) (Tl.ret _)
 ·intro j hj hh
  refine Tl.step ?_
  have ha : rd l (j : Int) = m + j := h.at_ j hj
  simp only [laws_heldIntS.l0, ha]
  rw [wrap_id (n := m + (j : Int) + 1) (by omega) (by omega), wrap_succ hj (by omega), show m + (j : Int) + 1 = m + ((j + 1 : Nat) : Int) by omega]
  exact Tl.iteT (by omega) (Tl.iteT (by omega) (Tl.iteT (by trivial) hh))
theorem eqSched_ev (a b : List Int) (ha : a.length ≤ 1048576) (hb : b.length ≤ 1048576) : Tl (fun k => laws_eqSchedule.f k a b a b) true := by
 unfold laws_eqSchedule.f
 exact Tl.bind (eqIntS_ev a ha) (Tl.iteT rfl (Tl.bind (eqIntS_ev b hb) (Tl.iteT rfl (Tl.ret _))))
theorem markSchedM_ev (a b : List Int) (m : Int) (h0 : 0 ≤ m) (h1 : m ≤ 5000000) (ha : a.length ≤ 1048576) (hb : b.length ≤ 1048576) : ∃ t u, Marked t m a.length ∧ Marked u (m + a.length) b.length ∧ Tl (fun k => laws_markSchedule.f k a b m) (m + a.length + b.length, t, u) := by
 obtain ⟨t, mt, ht⟩ := markIntS_ev a m h0 (by omega) ha
 obtain ⟨u, mu, hu⟩ := markIntS_ev b (m + a.length) (by omega) (by omega) hb
 refine ⟨t, u, mt, mu, ?_⟩
 unfold laws_markSchedule.f
 exact Tl.bind ht (Tl.bind hu (Tl.ret _))
theorem heldSched_ev {t u : List Int} {m : Int} {p q : Nat} (ht : Marked t m p) (hu : Marked u (m + p) q) (h0 : 0 ≤ m) (h1 : m ≤ 5000000) (hp : p ≤ 1048576) (hq : q ≤ 1048576) : Tl (fun k => laws_heldSchedule.f k t u m) (m + p + q) := by
 unfold laws_heldSchedule.f
 exact Tl.bind (heldIntS_ev ht h0 (by omega) hp) (Tl.iteF (by omega) (Tl.bind (heldIntS_ev hu (by omega) (by omega) hq) (Tl.iteF (by omega) (Tl.ret _))))
end Go.Proofs.Ytonifhkplniblaa.Print
namespace Go.Proofs.Ytonifhkplniblaa.Print
open Go.RowKit Go.Proofs.YtonifhkplniblaaW.PrintWords Go.Proofs.Ytonifhkplniblaa.Evs Go.Proofs.Ytonifhkplniblaa.Opens
set_option linter.unusedSimpArgs false
abbrev Job := S67
theorem eqJob_self (x : Job) : laws_eqJob.f x.f0 x.f1 x.f2 x.f3 x.f0 x.f1 x.f2 x.f3 = some true := by simp [laws_eqJob.f]
theorem eqJobS_ev (l : List Job) (hl : l.length ≤ 1048576) : Tl (fun k => laws_eqJobS.f k l l) true := by
 unfold laws_eqJobS.f
 simp only [if_true]
 refine down (Q := fun j => Tl (fun k => laws_eqJobS.l0 k l l (j : Int)) true) l.length ?_ ?_
 ·refine Tl.step ?_
  have c3 := eq_false (show ¬ ((l.length : Int) < (l.length : Int)) by omega)
  simp only [laws_eqJobS.l0, c3, if_false]
  exact Tl.ret _
 ·intro j hj h
  refine Tl.step ?_
  have c3 := eq_true (show (j : Int) < (l.length : Int) by omega)
  have c4 := eq_true (show 0 ≤ (j : Int) by omega)
  simp only [laws_eqJobS.l0, c3, c4, if_true, eqJob_self, Option.bind_some]
  rw [wrap_succ hj (by omega)]
  exact h
end Go.Proofs.Ytonifhkplniblaa.Print
namespace Go.Proofs.Ytonifhkplniblaa.Print
open Go.RowKit Go.Proofs.YtonifhkplniblaaW.PrintWords Go.Proofs.Ytonifhkplniblaa.Evs Go.Proofs.Ytonifhkplniblaa.Opens
set_option linter.unusedSimpArgs false
set_option linter.unusedVariables false
theorem wrap4 {m : Int} (h0 : 0 ≤ m) (h1 : m ≤ 100000000) : wrap64 ((wrap64 ((wrap64 ((wrap64 (m + 1)) + 1)) + 1)) + 1) = m + 4 := by
 rw [wrap_id (n := m + 1) (by omega) (by omega), wrap_id (n := m + 1 + 1) (by omega) (by omega), wrap_id (n := m + 1 + 1 + 1) (by omega) (by omega), wrap_id (n := m + 1 + 1 + 1 + 1) (by omega) (by omega)]
 omega
def jm (l : List Job) (j : Nat) : Job := l.getD j z67
theorem rd_jm (l : List Job) (j : Nat) : rd_T67 l (j : Int) = jm l j := rfl
theorem jm_set (l : List Job) (v : Job) {j : Nat} (h : j < l.length) : jm (l.set j v) j = v := by
 unfold jm; simp [List.getD_eq_getElem?_getD, List.getElem?_set, h]
theorem markJobS_at : ∀ (d j : Nat) (l : List Job) (m : Int), j + d = l.length → 0 ≤ m → m + 4 * d ≤ 100000000 → l.length ≤ 1048576 → ∃ l', Tl (fun k => laws_markJobS.l0 k l m (j : Int)) (m + 4 * d, l')
 | 0, j, l, m, e, h0, h1, h2 => by
  refine ⟨l, Tl.step ?_⟩
  simp only [laws_markJobS.l0]
  exact Tl.iteF (by omega) (Tl.cast (Tl.ret _) (by rw [show m + 4 * ((0 : Nat) : Int) = m by omega]))
 | d + 1, j, l, m, e, h0, h1, h2 => by
  have key : ∀ x : List Job, x.length = l.length → ∃ l', Tl (fun k => laws_markJobS.l0 k x (m + 4) ((j + 1 : Nat) : Int)) (m + 4 + 4 * d, l') := fun x hx => markJobS_at d (j + 1) x (m + 4) (by omega) (by omega) (by omega) (by omega)
  have hj : j < l.length := by omega
  obtain ⟨l', hl'⟩ := key (l.set j ⟨m, wrap64 (m + 1), wrap64 ((wrap64 (m + 1)) + 1), wrap64 ((wrap64 ((wrap64 (m + 1)) + 1)) + 1)⟩) (by rw [List.length_set])
  refine ⟨l', Tl.step ?_⟩
  simp only [laws_markJobS.l0, rd_jm, Int.toNat_natCast, Option.bind_some]
  simp only [List.set_set, jm_set _ _ hj, List.length_set]
  rw [wrap4 h0 (by omega), wrap_succ (n := l.length) (by omega) (by omega)]
  exact Tl.iteT (by omega) (Tl.iteT (by omega) (Tl.cast hl' (by rw [show m + 4 + 4 * (d : Int) = m + 4 * ((d + 1 : Nat) : Int) by omega])))
theorem markJobS_ev (l : List Job) (m : Int) (h0 : 0 ≤ m) (h1 : m ≤ 10000000) (hl : l.length ≤ 1048576) : ∃ l', Tl (fun k => laws_markJobS.f k l m) (m + 4 * l.length, l') :=
 markJobS_at l.length 0 l m (by omega) h0 (by omega) hl
end Go.Proofs.Ytonifhkplniblaa.Print
namespace Go.Proofs.Ytonifhkplniblaa.Print
open Go.RowKit Go.Proofs.YtonifhkplniblaaW.PrintWords Go.Proofs.Ytonifhkplniblaa.Evs Go.Proofs.Ytonifhkplniblaa.Opens
set_option linter.unusedSimpArgs false
theorem toIntS_ev (l : List Int) (hl : l.length ≤ 1048576) : Tl (fun k => laws_toIntS.f k l) l := by
 unfold laws_toIntS.f
 have c1 := eq_true (show 0 ≤ (l.length : Int) by omega)
 have c2 := eq_true (show l.length ≤ 35184372088832 by omega)
 simp only [c1, c2, if_true, Int.toNat_natCast]
 have key := down (Q := fun j => Tl (fun k => laws_toIntS.l0 k l (l.take j ++ List.replicate (l.length - j) 0) (j : Int)) l) l.length ?_ ?_
 ·rw [fill_zero] at key; exact key
 ·refine Tl.step ?_
  have c3 := eq_false (show ¬ ((l.length : Int) < (l.length : Int)) by omega)
  rw [fill_end]
  simp only [laws_toIntS.l0, c3, if_false]
  exact Tl.ret _
 ·intro j hj h
  refine Tl.step ?_
  have c3 := eq_true (show (j : Int) < (l.length : Int) by omega)
  have c4 := eq_true (show 0 ≤ (j : Int) by omega)
  have c5 := eq_true (show (j : Int) < ((l.take j ++ List.replicate (l.length - j) 0).length : Int) by rw [fill_len _ _ (by omega)]; omega)
  simp only [laws_toIntS.l0, c3, c4, c5, if_true, Int.toNat_natCast]
  rw [fill_set l 0 hj (rd l (j : Int)) rfl, wrap_succ hj (by omega)]
  exact h
abbrev LJob := S107
def cvJob (x : LJob) : Job := ⟨x.f0, x.f1, x.f2, x.f3⟩
theorem toJobS_ev (l : List LJob) (hl : l.length ≤ 1048576) : Tl (fun k => laws_toJobS.f k l) (l.map cvJob) := by
 unfold laws_toJobS.f
 have c1 := eq_true (show 0 ≤ (l.length : Int) by omega)
 have c2 := eq_true (show l.length ≤ 8796093022208 by omega)
 simp only [c1, c2, if_true, Int.toNat_natCast]
 have hlen : (l.map cvJob).length = l.length := by simp
 have key := down (Q := fun j => Tl (fun k => laws_toJobS.l0 k l ((l.map cvJob).take j ++ List.replicate ((l.map cvJob).length - j) z67) (j : Int)) (l.map cvJob)) l.length ?_ ?_
 ·rw [fill_zero, hlen] at key; exact key
 ·refine Tl.step ?_
  have c3 := eq_false (show ¬ ((l.length : Int) < (l.length : Int)) by omega)
  rw [← hlen, fill_end]
  simp only [hlen]
  simp only [laws_toJobS.l0, c3, if_false]
  exact Tl.ret _
 ·intro j hj h
  refine Tl.step ?_
  have c3 := eq_true (show (j : Int) < (l.length : Int) by omega)
  have c4 := eq_true (show 0 ≤ (j : Int) by omega)
  have c5 := eq_true (show (j : Int) < (((l.map cvJob).take j ++ List.replicate ((l.map cvJob).length - j) z67).length : Int) by rw [fill_len _ _ (by omega)]; omega)
  simp only [laws_toJobS.l0, c3, c4, c5, if_true, laws_toJob.f, Option.bind_some, Int.toNat_natCast]
  rw [fill_set _ _ (by omega) _ (by rw [getD_map cvJob l j z107 _ hj]; rfl), wrap_succ hj (by omega)]
  exact h
theorem szJobS_f (l : List LJob) (a : Int) (h0 : 0 ≤ a) (h1 : a ≤ 1048576) (hl : l.length ≤ 9223372036854775807) : laws_szJobS.f l a = some (if a < l.length then -1 else a - l.length) := by
 unfold laws_szJobS.f
 rw [wrap_id (by omega) (by omega)]
 by_cases h : a < l.length
 ·rw [if_pos (by omega), if_pos h]
 ·rw [if_neg (by omega), if_neg h]
end Go.Proofs.Ytonifhkplniblaa.Print
namespace Go.Proofs.Ytonifhkplniblaa.Print
open Go.RowKit Go.Proofs.YtonifhkplniblaaW.PrintWords Go.Proofs.Ytonifhkplniblaa.Evs Go.Proofs.Ytonifhkplniblaa.Opens
set_option linter.unusedSimpArgs false
set_option linter.unusedVariables false
set_option maxHeartbeats 1000000 in
theorem FnExactRunFixed_pure : PureFnExactRunFixed := by
 intro x0 x1 x2 w0 w1 w2
 apply Tl.once
 unfold laws_FnExactRunFixed.f
 by_cases g1 : (x1.length : Int) > 1048576
 ·exact Tl.iteT g1 (Tl.ret _)
 refine Tl.iteF g1 ?_
 refine Tl.bind (Tl.of_eq fun _ => szTaskS_f x0 _ (by omega) (by omega) w0.1) ?_
 by_cases g0 : (1048576 : Int) < x0.length
 ·rw [if_pos g0]; exact Tl.iteT (by omega) (Tl.ret _)
 rw [if_neg g0]
 refine Tl.iteF (by omega) ?_
 refine Tl.bind (Tl.of_eq fun _ => szJobS_f x2 _ (by omega) (by omega) w2.1) ?_
 by_cases g2 : (1048576 - x0.length : Int) < x2.length
 ·rw [if_pos g2]; exact Tl.iteT (by omega) (Tl.ret _)
 rw [if_neg g2]
 refine Tl.iteF (by omega) ?_
 have hl0 : x0.length ≤ 1048576 := by omega
 have hm0 : (x0.map cvTask).length ≤ 1048576 := by simpa using hl0
 have hl1 : x1.length ≤ 1048576 := by omega
 have hm1 : x1.length ≤ 1048576 := by simpa using hl1
 have hl2 : x2.length ≤ 1048576 := by omega
 have hm2 : (x2.map cvJob).length ≤ 1048576 := by simpa using hl2
 have HS := spec_RunFixed_ev (x0.map cvTask) x1 (x2.map cvJob) hm0 hm1 hm2
 have HI := impl_RunFixed_ev (x0.map cvTask) x1 (x2.map cvJob) hm0 hm1 hm2
 have hd := runFixed_len (x0.map cvTask) x1 (x2.map cvJob)
 generalize runFixed (x0.map cvTask) x1 (x2.map cvJob) = D at HS HI hd
 obtain ⟨D1, D2⟩ := D
 simp only at hd
 have HE := eqSched_ev D1 D2 (by omega) (by omega)
 obtain ⟨t1, m1⟩ := markTaskS_ev (x0.map cvTask) 1 (by omega) (by omega) hm0
 obtain ⟨t5, mk5, m5⟩ := markIntS_ev x1 (1 + 3 * ((x0.map cvTask).length : Int)) (by omega) (by omega) hm1
 obtain ⟨t2, m2⟩ := markJobS_ev (x2.map cvJob) (1 + 3 * ((x0.map cvTask).length : Int) + x1.length) (by omega) (by omega) hm2
 obtain ⟨t3, t4, mk3, mk4, m3⟩ := markSchedM_ev D1 D2 1 (by omega) (by omega) (by omega) (by omega)
 have m4 := heldSched_ev mk3 mk4 (by omega) (by omega) (by omega) (by omega)
 repeat (first
  | exact Tl.ret _
  | with_reducible refine Tl.bind (toTaskS_ev x0 hl0) ?_
  | with_reducible refine Tl.bind (eqTaskS_ev (x0.map cvTask) hm0) ?_
  | with_reducible refine Tl.bind (toIntS_ev x1 hl1) ?_
  | with_reducible refine Tl.bind (eqIntS_ev x1 hm1) ?_
  | with_reducible refine Tl.bind (toJobS_ev x2 hl2) ?_
  | with_reducible refine Tl.bind (eqJobS_ev (x2.map cvJob) hm2) ?_
  | with_reducible refine Tl.bind HE ?_
  | with_reducible refine Tl.bind m1 ?_
  | with_reducible refine Tl.bind m5 ?_
  | with_reducible refine Tl.bind m2 ?_
  | with_reducible refine Tl.bind m3 ?_
  | with_reducible refine Tl.bind m4 ?_
  | with_reducible refine Tl.iteF (by omega) ?_
  | with_reducible refine Tl.bind HS ?_
  | with_reducible refine Tl.bind HI ?_
  | with_reducible refine Tl.iteT rfl ?_
  | with_reducible refine Tl.iteF (by simp) ?_
  | dsimp only
  | (refine Tl.step ?_; simp only [laws_FnExactRunFixed.j0]))
end Go.Proofs.Ytonifhkplniblaa.Print
