/- What the program and the reference compute, and that both agree. No condition. -/
import Derived.Test.YtonifhkplniblaaPO
import Derived.Test.YtonifhkplniblaaZFnExactSynchronousP2
import Derived.RowKit
import Derived.WalkKit
import Derived.Test.YtonifhkplniblaaZFnExactSynchronousP1
import Derived.Test.YtonifhkplniblaaZFnExactSynchronousP0
namespace Go.Proofs.Ytonifhkplniblaa.Print
open Go.RowKit Go.Proofs.YtonifhkplniblaaW.PrintWords Go.Proofs.YtonifhkplniblaaW.PrintLast Go.Proofs.YtonifhkplniblaaW.PrintMore
attribute [local go_sem] max2_int min2_int max_two min_two max_three min_three max_four min_four   -- for this text's walks alone
set_option linter.unusedVariables false
set_option linter.unusedSimpArgs false

open Go.Proofs.Ytonifhkplniblaa.Opens
/-- The pure statement of FnExactSynchronous. -/
def PureFnExactSynchronous : Prop := ∀ (x0 : List (S105)) (x1 : Int), (wfL wf105) x0 → wfI x1 → ∃ k, laws_FnExactSynchronous.f k x0 x1 = some true
end Go.Proofs.Ytonifhkplniblaa.Print

namespace Go.Proofs.Ytonifhkplniblaa.Evs
open Go.RowKit
set_option linter.unusedSimpArgs false
set_option linter.unusedVariables false

/-- From some number of rounds on, g tells r. -/
def Tl {α : Type} (g : Nat → Option α) (r : α) : Prop := ∃ k0, ∀ k, k0 ≤ k → g k = some r

theorem Tl.ret {α : Type} (r : α) : Tl (fun _ => some r) r := ⟨0, fun _ _ => rfl⟩
theorem Tl.of_eq {α : Type} {g : Nat → Option α} {r : α} (h : ∀ k, g k = some r) : Tl g r := ⟨0, fun k _ => h k⟩
theorem Tl.step {α : Type} {g : Nat → Option α} {r : α} (h : Tl (fun k => g (k + 1)) r) : Tl g r := by
  obtain ⟨k0, hk⟩ := h
  refine ⟨k0 + 1, fun k hle => ?_⟩
  obtain ⟨m, rfl⟩ : ∃ m, k = m + 1 := ⟨k - 1, by omega⟩
  exact hk m (by omega)
theorem Tl.bind {α β : Type} {g : Nat → Option α} {a : α} {f : α → Nat → Option β} {r : β} (h : Tl g a) (h2 : Tl (f a) r) : Tl (fun k => (g k).bind fun x => f x k) r := by
  obtain ⟨k0, hk⟩ := h
  obtain ⟨k1, hk1⟩ := h2
  refine ⟨max k0 k1, fun k hle => ?_⟩
  show (g k).bind (fun x => f x k) = some r
  rw [hk k (by omega), Option.bind_some]
  exact hk1 k (by omega)
theorem Tl.once {α : Type} {g : Nat → Option α} {r : α} (h : Tl g r) : ∃ k, g k = some r := by
  obtain ⟨k0, hk⟩ := h
  exact ⟨k0, hk k0 (Nat.le_refl _)⟩
theorem Tl.cast {α : Type} {g : Nat → Option α} {r r' : α} (h : Tl g r) (e : r = r') : Tl g r' := e ▸ h
theorem Tl.iteT {α : Type} {c : Prop} [Decidable c] {g g' : Nat → Option α} {r : α} (hc : c) (h : Tl g r) : Tl (fun k => if c then g k else g' k) r := by simpa only [if_pos hc] using h
theorem Tl.iteF {α : Type} {c : Prop} [Decidable c] {g g' : Nat → Option α} {r : α} (hc : ¬ c) (h : Tl g' r) : Tl (fun k => if c then g k else g' k) r := by simpa only [if_neg hc] using h

/-- Downwards. -/
theorem down {Q : Nat → Prop} (n : Nat) (he : Q n) (hs : ∀ j, j < n → Q (j + 1) → Q j) : Q 0 := by
  induction n with
  | zero => exact he
  | succ n ih => exact ih (hs n (by omega) he) (fun j hj => hs j (by omega))
theorem downFrom {Q : Nat → Prop} {m n : Nat} (hm : m ≤ n) (he : Q n) (hs : ∀ j, m ≤ j → j < n → Q (j + 1) → Q j) : Q m := by
  obtain ⟨d, rfl⟩ : ∃ d, n = m + d := ⟨n - m, by omega⟩
  induction d with
  | zero => exact he
  | succ d ih => exact ih (by omega) (hs (m + d) (by omega) (by omega) he) (fun j h1 h2 => hs j h1 (by omega))

/-- A loop that asks something of each index, and stops at the first 'no'. -/
theorem Tl.all {F : Nat → Int → Option Bool} {n : Nat} {P : Nat → Bool} {fin : Bool}
    (ht : ∀ j, j < n → P j = true → ∀ r, Tl (fun k => F k ((j + 1 : Nat) : Int)) r → Tl (fun k => F k (j : Int)) r)
    (hf : ∀ j, j < n → P j = false → Tl (fun k => F k (j : Int)) false) (he : Tl (fun k => F k (n : Int)) fin) :
    Tl (fun k => F k 0) ((List.range n).all P && fin) := by
  by_cases hall : ∀ j, j < n → P j = true
  · have h1 : ((List.range n).all P) = true := by simpa using hall
    rw [h1, Bool.true_and]
    exact down (Q := fun j => Tl (fun k => F k (j : Int)) fin) n he (fun j hj h => ht j hj (hall j hj) _ h)
  · have h1 : ((List.range n).all P) = false := by simpa using hall
    rw [h1, Bool.false_and]
    clear h1
    have key : ∀ m, m ≤ n → (∃ j, j < m ∧ P j = false) → Tl (fun k => F k 0) false := by
      intro m
      induction m with
      | zero => rintro _ ⟨j, hj, _⟩; omega
      | succ m ih =>
        rintro hm ⟨j, hj, hp⟩
        by_cases hlow : ∃ j, j < m ∧ P j = false
        · exact ih (by omega) hlow
        · have hjm : j = m := by
            rcases Nat.lt_or_ge j m with h | h
            · exact absurd ⟨j, h, hp⟩ hlow
            · omega
          subst hjm
          refine down (Q := fun j => Tl (fun k => F k (j : Int)) false) j (hf j (by omega) hp) (fun i hi h => ht i (by omega) ?_ _ h)
          cases hpi : P i
          · exact absurd ⟨i, hi, hpi⟩ hlow
          · rfl
    refine key n (Nat.le_refl _) ?_
    apply Classical.byContradiction
    intro hno
    refine hall (fun j hj => ?_)
    cases hp : P j
    · exact absurd ⟨j, hj, hp⟩ hno
    · rfl

theorem wrap_id {n : Int} (h1 : -9223372036854775808 ≤ n) (h2 : n ≤ 9223372036854775807) : wrap64 n = n := by unfold wrap64; omega
theorem wrap_succ {j n : Nat} (h : j < n) (hn : n ≤ 9223372036854775807) : wrap64 ((j : Int) + 1) = ((j + 1 : Nat) : Int) := by unfold wrap64; omega
theorem wrap_pred {j n : Nat} (h : j < n) (h0 : 0 < j) (hn : n ≤ 9223372036854775807) : wrap64 ((j : Int) - 1) = ((j - 1 : Nat) : Int) := by unfold wrap64; omega
end Go.Proofs.Ytonifhkplniblaa.Evs

namespace Go.Proofs.Ytonifhkplniblaa.Evs
theorem fill_zero {α : Type} (xs : List α) (z : α) : xs.take 0 ++ List.replicate (xs.length - 0) z = List.replicate xs.length z := by simp
theorem fill_set {α : Type} (xs : List α) (z : α) {j : Nat} (hj : j < xs.length) (x : α) (hx : x = xs.getD j z) :
    (xs.take j ++ List.replicate (xs.length - j) z).set j x = xs.take (j + 1) ++ List.replicate (xs.length - (j + 1)) z := by
  have h1 : (xs.take j).length = j := by simp; omega
  rw [List.set_append_right _ _ (by omega), h1, Nat.sub_self]
  obtain ⟨m, hm⟩ : ∃ m, xs.length - j = m + 1 := ⟨xs.length - j - 1, by omega⟩
  rw [hm, List.replicate_succ, List.set_cons_zero, List.take_succ_eq_append_getElem hj, List.append_assoc, hx]
  have h2 : xs.length - (j + 1) = m := by omega
  rw [h2]
  simp [List.getD_eq_getElem?_getD, hj]
theorem fill_len {α : Type} (xs : List α) (z : α) {j : Nat} (hj : j ≤ xs.length) : (xs.take j ++ List.replicate (xs.length - j) z).length = xs.length := by simp; omega
theorem fill_end {α : Type} (xs : List α) (z : α) : xs.take xs.length ++ List.replicate (xs.length - xs.length) z = xs := by simp
theorem getD_map {α β : Type} (f : α → β) (l : List α) (j : Nat) (z : α) (z' : β) (hj : j < l.length) : (l.map f).getD j z' = f (l.getD j z) := by simp [List.getD_eq_getElem?_getD, hj]
theorem all_range {α : Type} (l : List α) (z : α) (p : α → Bool) : (List.range l.length).all (fun j => p (l.getD j z)) = l.all p := by
  rw [Bool.eq_iff_iff, List.all_eq_true, List.all_eq_true]
  constructor
  · intro h x hx
    obtain ⟨i, hi, rfl⟩ := List.getElem_of_mem hx
    have := h i (by simpa using hi)
    simpa [List.getD_eq_getElem?_getD, hi] using this
  · intro h j hj
    have hj' : j < l.length := by simpa using hj
    have := h l[j] (List.getElem_mem hj')
    simpa [List.getD_eq_getElem?_getD, hj'] using this
end Go.Proofs.Ytonifhkplniblaa.Evs

namespace Go.Proofs.Ytonifhkplniblaa.Print
open Go.RowKit Go.Proofs.YtonifhkplniblaaW.PrintWords Go.Proofs.Ytonifhkplniblaa.Evs Go.Proofs.Ytonifhkplniblaa.Opens
set_option linter.unusedSimpArgs false
abbrev LTask := S105
abbrev Task := S62
def cvTask (x : LTask) : Task := ⟨x.f0, x.f1, x.f2⟩
theorem toTaskS_ev (l : List LTask) (hl : l.length ≤ 1048576) : Tl (fun k => laws_toTaskS.f k l) (l.map cvTask) := by
  unfold laws_toTaskS.f
  have c1 := eq_true (show 0 ≤ (l.length : Int) by omega)
  have c2 := eq_true (show l.length ≤ 11728124029610 by omega)
  simp only [c1, c2, if_true, Int.toNat_natCast]
  have hlen : (l.map cvTask).length = l.length := by simp
  have key := down (Q := fun j => Tl (fun k => laws_toTaskS.l0 k l ((l.map cvTask).take j ++ List.replicate ((l.map cvTask).length - j) z62) (j : Int)) (l.map cvTask)) l.length ?_ ?_
  · rw [fill_zero, hlen] at key; exact key
  · refine Tl.step ?_
    have c3 := eq_false (show ¬ ((l.length : Int) < (l.length : Int)) by omega)
    rw [← hlen, fill_end]
    simp only [hlen]
    simp only [laws_toTaskS.l0, c3, if_false]
    exact Tl.ret _
  · intro j hj h
    refine Tl.step ?_
    have c3 := eq_true (show (j : Int) < (l.length : Int) by omega)
    have c4 := eq_true (show 0 ≤ (j : Int) by omega)
    have c5 := eq_true (show (j : Int) < (((l.map cvTask).take j ++ List.replicate ((l.map cvTask).length - j) z62).length : Int) by rw [fill_len _ _ (by omega)]; omega)
    simp only [laws_toTaskS.l0, c3, c4, c5, if_true, laws_toTask.f, Option.bind_some, Int.toNat_natCast]
    rw [fill_set _ _ (by omega) _ (by rw [getD_map cvTask l j z105 _ hj]; rfl), wrap_succ hj (by omega)]
    exact h
theorem eqTask_self (x : Task) : laws_eqTask.f x.f0 x.f1 x.f2 x.f0 x.f1 x.f2 = some true := by simp [laws_eqTask.f]
theorem eqTaskS_ev (l : List Task) (hl : l.length ≤ 1048576) : Tl (fun k => laws_eqTaskS.f k l l) true := by
  unfold laws_eqTaskS.f
  simp only [if_true]
  refine down (Q := fun j => Tl (fun k => laws_eqTaskS.l0 k l l (j : Int)) true) l.length ?_ ?_
  · refine Tl.step ?_
    have c3 := eq_false (show ¬ ((l.length : Int) < (l.length : Int)) by omega)
    simp only [laws_eqTaskS.l0, c3, if_false]
    exact Tl.ret _
  · intro j hj h
    refine Tl.step ?_
    have c3 := eq_true (show (j : Int) < (l.length : Int) by omega)
    have c4 := eq_true (show 0 ≤ (j : Int) by omega)
    simp only [laws_eqTaskS.l0, c3, c4, if_true, eqTask_self, Option.bind_some]
    rw [wrap_succ hj (by omega)]
    exact h
theorem szTaskS_f (l : List LTask) (a : Int) (h0 : 0 ≤ a) (h1 : a ≤ 1048576) (hl : l.length ≤ 9223372036854775807) : laws_szTaskS.f l a = some (if a < l.length then -1 else a - l.length) := by
  unfold laws_szTaskS.f
  rw [wrap_id (by omega) (by omega)]
  by_cases h : a < l.length
  · rw [if_pos (by omega), if_pos h]
  · rw [if_neg (by omega), if_neg h]
end Go.Proofs.Ytonifhkplniblaa.Print

namespace Go.Proofs.Ytonifhkplniblaa.Print
open Go.RowKit Go.Proofs.YtonifhkplniblaaW.PrintWords Go.Proofs.Ytonifhkplniblaa.Evs Go.Proofs.Ytonifhkplniblaa.Opens
set_option linter.unusedSimpArgs false
set_option linter.unusedVariables false
theorem spec_l1In_f (a b c : Int) : spec_l1In.f a b c = some (decide (b ≤ a ∧ a ≤ c)) := by
  unfold spec_l1In.f
  by_cases h : a ≥ b
  · have h' : b ≤ a := h
    simp [h, h']
  · have h' : ¬ b ≤ a := h
    simp [h, h']
theorem spec_TaskValid_f (x : Task) : spec_TaskValid.f x.f0 x.f1 x.f2 = some (okTask x) := by
  unfold spec_TaskValid.f okTask
  simp only [spec_l1In_f, Option.bind_some, decide_eq_true_eq]
  split
  · split
    · congr 1; rw [Bool.eq_iff_iff]; simp only [decide_eq_true_eq, Bool.false_eq_true, false_iff]; omega
    · congr 1; rw [Bool.eq_iff_iff]; simp only [decide_eq_true_eq, Bool.false_eq_true, false_iff]; omega
  · congr 1; rw [Bool.eq_iff_iff]; simp only [decide_eq_true_eq, Bool.false_eq_true, false_iff]; omega
/-- A valid set. -/
def okSet (l : List Task) : Bool := decide (l.length ≤ 5) && l.all okTask
theorem impl_SetValid_f (l : List Task) : impl_SetValid.f l = some (okSet l) := rfl
theorem impl_SetValid_ev (l : List Task) (_ : l.length ≤ 1048576) : Tl (fun _ => impl_SetValid.f l) (okSet l) := Tl.of_eq fun _ => impl_SetValid_f l
theorem spec_SetValid_ev (l : List Task) (hl : l.length ≤ 1048576) : Tl (fun k => spec_SetValid.f k l) (okSet l) := by
  have key := Tl.all (F := fun k i => spec_SetValid.l0 k l i) (n := l.length) (P := fun j => okTask (l.getD j z62)) (fin := decide (l.length ≤ 5)) ?_ ?_ ?_
  · rw [all_range] at key
    unfold okSet
    rw [Bool.and_comm]
    exact key
  · intro j hj hp r h
    refine Tl.step ?_
    have c3 := eq_true (show (j : Int) < (l.length : Int) by omega)
    have c4 := eq_true (show 0 ≤ (j : Int) by omega)
    have c5 : spec_TaskValid.f (rd_T62 l (j : Int)).f0 (rd_T62 l (j : Int)).f1 (rd_T62 l (j : Int)).f2 = some true := by rw [spec_TaskValid_f]; exact congrArg some hp
    simp only [spec_SetValid.l0, c3, c4, c5, if_true, Option.bind_some]
    rw [wrap_succ hj (by omega)]
    exact h
  · intro j hj hp
    refine Tl.step ?_
    have c3 := eq_true (show (j : Int) < (l.length : Int) by omega)
    have c4 := eq_true (show 0 ≤ (j : Int) by omega)
    have c5 : spec_TaskValid.f (rd_T62 l (j : Int)).f0 (rd_T62 l (j : Int)).f1 (rd_T62 l (j : Int)).f2 = some false := by rw [spec_TaskValid_f]; exact congrArg some hp
    simp only [spec_SetValid.l0, c3, c4, c5, if_true, Option.bind_some, Bool.false_eq_true, if_false]
    exact Tl.ret _
  · refine Tl.step ?_
    have c3 := eq_false (show ¬ ((l.length : Int) < (l.length : Int)) by omega)
    simp only [spec_SetValid.l0, c3, if_false]
    have : decide ((l.length : Int) ≤ 5) = decide (l.length ≤ 5) := by rw [decide_eq_decide]; omega
    rw [this]
    exact Tl.ret _
end Go.Proofs.Ytonifhkplniblaa.Print

namespace Go.Proofs.Ytonifhkplniblaa.Print
open Go.RowKit Go.Proofs.YtonifhkplniblaaW.PrintWords Go.Proofs.Ytonifhkplniblaa.Evs Go.Proofs.Ytonifhkplniblaa.Opens
set_option linter.unusedSimpArgs false
set_option linter.unusedVariables false
theorem tmod_pos {a b : Int} (ha : 0 ≤ a) (_hb : 0 < b) : Int.tmod a b = a % b := Int.tmod_eq_emod_of_nonneg ha
theorem tdiv_pos {a b : Int} (ha : 0 ≤ a) : Int.tdiv a b = a / b := Int.tdiv_eq_ediv_of_nonneg ha
/-- Task j of a list. -/
def tk (l : List Task) (j : Nat) : Task := l.getD j z62
theorem rd_tk (l : List Task) (j : Nat) : rd_T62 l (j : Int) = tk l j := rfl
theorem okSet_len {l : List Task} (h : okSet l = true) : l.length ≤ 5 := by unfold okSet at h; simp at h; exact h.1
theorem okSet_tk {l : List Task} (h : okSet l = true) {j : Nat} (hj : j < l.length) : 1 ≤ (tk l j).f0 ∧ (tk l j).f0 ≤ 8 ∧ (tk l j).f0 ≤ (tk l j).f1 ∧ (tk l j).f1 ≤ (tk l j).f2 ∧ (tk l j).f2 ≤ 12 := by
  unfold okSet at h
  rw [Bool.and_eq_true, List.all_eq_true] at h
  have h1 : tk l j ∈ l := by unfold tk; simp [List.getD_eq_getElem?_getD, hj]
  have := h.2 _ h1
  unfold okTask at this
  exact of_decide_eq_true this
end Go.Proofs.Ytonifhkplniblaa.Print

namespace Go.Proofs.Ytonifhkplniblaa.Print
open Go.RowKit Go.Proofs.YtonifhkplniblaaW.PrintWords Go.Proofs.YtonifhkplniblaaW.PrintMore Go.Proofs.Ytonifhkplniblaa.Evs Go.Proofs.Ytonifhkplniblaa.Opens
set_option linter.unusedSimpArgs false
set_option linter.unusedVariables false
/-- One task at one time. -/
def synAt (s : List Task) (lim : Int) (t : Nat) (out : List S67) (i : Nat) : List S67 :=
  if (t : Int) % (tk s i).f2 = 0 ∧ (t : Int) + (tk s i).f1 ≤ lim ∧ (out.length : Int) < 60 then out ++ [⟨(i : Int), (t : Int), (t : Int) + (tk s i).f1, (tk s i).f0⟩] else out
/-- The tasks from i on, n of them. -/
def synI (s : List Task) (lim : Int) (t : Nat) : Nat → Nat → List S67 → List S67
  | 0, _, out => out
  | n + 1, i, out => synI s lim t n (i + 1) (synAt s lim t out i)
def synT (s : List Task) (lim : Int) : Nat → Nat → List S67 → List S67
  | 0, _, out => out
  | n + 1, t, out => synT s lim n (t + 1) (synI s lim t s.length 0 out)
theorem synAt_len (s : List Task) (lim : Int) (t : Nat) (out : List S67) (i : Nat) (h : out.length ≤ 60) : (synAt s lim t out i).length ≤ 60 := by
  unfold synAt
  split
  · rename_i g; rw [List.length_append, List.length_singleton]; omega
  · exact h
theorem synI_len (s : List Task) (lim : Int) (t : Nat) : ∀ (n i : Nat) (out : List S67), out.length ≤ 60 → (synI s lim t n i out).length ≤ 60
  | 0, _, _, h => h
  | n + 1, i, out, h => synI_len s lim t n (i + 1) _ (synAt_len s lim t out i h)
theorem synT_len (s : List Task) (lim : Int) : ∀ (n t : Nat) (out : List S67), out.length ≤ 60 → (synT s lim n t out).length ≤ 60
  | 0, _, _, h => h
  | n + 1, t, out, h => synT_len s lim n (t + 1) _ (synI_len s lim t _ 0 out h)
theorem spec_synI_ev {s : List Task} (hok : okSet s = true) {lim : Int} (hl : lim ≤ 120) (t : Nat) (ht : (t : Int) < lim) {R : List S67} : ∀ (n i : Nat) (out : List S67), i + n = s.length → out.length ≤ 60 →
    Tl (fun k => spec_Synchronous.l0 k s lim (synI s lim t n i out) ((t + 1 : Nat) : Int)) R → Tl (fun k => spec_Synchronous.l1 k s lim out (t : Int) (i : Int)) R
  | 0, i, out, h, ho, hh => by
    refine Tl.step ?_
    simp only [spec_Synchronous.l1]
    rw [wrap_succ (j := t) (n := 120) (by omega) (by omega)]
    exact Tl.iteF (by omega) hh
  | n + 1, i, out, h, ho, hh => by
    have hn5 := okSet_len hok
    have hv := okSet_tk hok (j := i) (by omega)
    have ih := spec_synI_ev hok hl t ht n (i + 1) (synAt s lim t out i) (by omega) (synAt_len s lim t out i ho) hh
    refine Tl.step ?_
    simp only [spec_Synchronous.l1]
    rw [wrap_succ (j := i) (n := s.length) (by omega) (by omega), wrap_id (n := (t : Int) + (rd_T62 s (i : Int)).f1) (by rw [rd_tk]; omega) (by rw [rd_tk]; omega), tmod_pos (a := (t : Int)) (b := (rd_T62 s (i : Int)).f2) (by omega) (by rw [rd_tk]; omega)]
    refine Tl.iteT (by omega) (Tl.iteT (by omega) (Tl.iteF (by rw [rd_tk]; omega) ?_))
    unfold synAt at ih
    by_cases c1 : (t : Int) % (tk s i).f2 = 0
    · refine Tl.iteT c1 ?_
      by_cases c2 : (t : Int) + (tk s i).f1 ≤ lim
      · refine Tl.iteT c2 ?_
        by_cases c3 : (out.length : Int) < 60
        · rw [if_pos ⟨c1, c2, c3⟩] at ih
          exact Tl.iteT c3 (Tl.iteT (by omega) ih)
        · rw [if_neg (fun g => c3 g.2.2)] at ih
          exact Tl.iteF c3 ih
      · rw [if_neg (fun g => c2 g.2.1)] at ih
        exact Tl.iteF c2 ih
    · rw [if_neg (fun g => c1 g.1)] at ih
      exact Tl.iteF c1 ih
theorem impl_synI_ev {s : List Task} (hok : okSet s = true) {lim : Int} (hl : lim ≤ 120) (t : Nat) (ht : (t : Int) < lim) {R : List S67} : ∀ (n i : Nat) (out : List S67), i + n = s.length → out.length ≤ 60 →
    Tl (fun k => impl_Synchronous.l0 k s lim (synI s lim t n i out) ((t + 1 : Nat) : Int)) R → Tl (fun k => impl_Synchronous.l1 k s lim out (t : Int) s (s.length : Int) (i : Int)) R
  | 0, i, out, h, ho, hh => by
    refine Tl.step ?_
    simp only [impl_Synchronous.l1]
    rw [wrap_succ (j := t) (n := 120) (by omega) (by omega)]
    exact Tl.iteF (by omega) hh
  | n + 1, i, out, h, ho, hh => by
    have hn5 := okSet_len hok
    have hv := okSet_tk hok (j := i) (by omega)
    have ih := impl_synI_ev hok hl t ht n (i + 1) (synAt s lim t out i) (by omega) (synAt_len s lim t out i ho) hh
    refine Tl.step ?_
    simp only [impl_Synchronous.l1]
    rw [wrap_succ (j := i) (n := s.length) (by omega) (by omega), wrap_id (n := (t : Int) + (rd_T62 s (i : Int)).f1) (by rw [rd_tk]; omega) (by rw [rd_tk]; omega), tmod_pos (a := (t : Int)) (b := (rd_T62 s (i : Int)).f2) (by omega) (by rw [rd_tk]; omega)]
    refine Tl.iteT (by omega) (Tl.iteT (by omega) (Tl.iteT (by omega) (Tl.iteF (by rw [rd_tk]; omega) ?_)))
    unfold synAt at ih
    by_cases c1 : (t : Int) % (tk s i).f2 = 0
    · refine Tl.iteT c1 ?_
      by_cases c2 : (t : Int) + (tk s i).f1 ≤ lim
      · refine Tl.iteT c2 ?_
        by_cases c3 : (out.length : Int) < 60
        · rw [if_pos ⟨c1, c2, c3⟩] at ih
          exact Tl.iteT c3 (Tl.iteT (by omega) ih)
        · rw [if_neg (fun g => c3 g.2.2)] at ih
          exact Tl.iteF c3 ih
      · rw [if_neg (fun g => c2 g.2.1)] at ih
        exact Tl.iteF c2 ih
    · rw [if_neg (fun g => c1 g.1)] at ih
      exact Tl.iteF c1 ih
theorem spec_synT_ev {s : List Task} (hok : okSet s = true) {lim : Int} (hl : lim ≤ 120) (h0 : 0 ≤ lim) : ∀ (n t : Nat) (out : List S67), t + n = lim.toNat → out.length ≤ 60 →
    Tl (fun k => spec_Synchronous.l0 k s lim out (t : Int)) (synT s lim n t out)
  | 0, t, out, h, ho => by
    refine Tl.step ?_
    simp only [spec_Synchronous.l0]
    exact Tl.iteF (by omega) (Tl.ret _)
  | n + 1, t, out, h, ho => by
    refine Tl.step ?_
    simp only [spec_Synchronous.l0]
    exact Tl.iteT (by omega) (spec_synI_ev hok hl t (by omega) s.length 0 out (by omega) ho (spec_synT_ev hok hl h0 n (t + 1) _ (by omega) (synI_len s lim t _ 0 out ho)))
theorem impl_synT_ev {s : List Task} (hok : okSet s = true) {lim : Int} (hl : lim ≤ 120) (h0 : 0 ≤ lim) : ∀ (n t : Nat) (out : List S67), t + n = lim.toNat → out.length ≤ 60 →
    Tl (fun k => impl_Synchronous.l0 k s lim out (t : Int)) (synT s lim n t out)
  | 0, t, out, h, ho => by
    refine Tl.step ?_
    simp only [impl_Synchronous.l0]
    exact Tl.iteF (by omega) (Tl.ret _)
  | n + 1, t, out, h, ho => by
    refine Tl.step ?_
    simp only [impl_Synchronous.l0]
    exact Tl.iteT (by omega) (impl_synI_ev hok hl t (by omega) s.length 0 out (by omega) ho (impl_synT_ev hok hl h0 n (t + 1) _ (by omega) (synI_len s lim t _ 0 out ho)))
def syn (s : List Task) (lim : Int) : List S67 := if okSet s = true ∧ 0 ≤ lim ∧ lim ≤ 120 then synT s lim lim.toNat 0 [] else []
theorem syn_len (s : List Task) (lim : Int) : (syn s lim).length ≤ 60 := by
  unfold syn
  split
  · exact synT_len _ _ _ _ _ (by simp)
  · simp
theorem spec_Synchronous_ev (s : List Task) (c : Int) (hs : s.length ≤ 1048576) (_ : wfI c) : Tl (fun k => spec_Synchronous.f k s c) (syn s c) := by
  unfold spec_Synchronous.f syn
  have hj : Tl (fun k => spec_Synchronous.j0 k s c [] true) [] := by
    refine Tl.step ?_
    simp only [spec_Synchronous.j0]
    exact Tl.iteT trivial (Tl.ret _)
  simp only [Option.bind_some]
  refine Tl.bind (spec_SetValid_ev s hs) ?_
  by_cases h : okSet s = true
  · refine Tl.iteT h (Tl.bind (Tl.of_eq fun _ => spec_l1In_f _ _ _) ?_)
    by_cases hc : 0 ≤ c ∧ c ≤ 120
    · rw [if_pos ⟨h, hc⟩, decide_eq_true hc]
      refine Tl.step ?_
      simp only [spec_Synchronous.j0]
      exact Tl.iteF (by simp) (spec_synT_ev h hc.2 hc.1 _ 0 [] (by omega) (by simp))
    · rw [if_neg (fun g => hc g.2), decide_eq_false hc]
      exact hj
  · rw [if_neg (fun g => h g.1)]
    exact Tl.iteF h hj
theorem impl_Synchronous_ev (s : List Task) (c : Int) (hs : s.length ≤ 1048576) (_ : wfI c) : Tl (fun k => impl_Synchronous.f k s c) (syn s c) := by
  unfold impl_Synchronous.f syn
  have hj : Tl (fun k => impl_Synchronous.j0 k s c true) [] := by
    refine Tl.step ?_
    simp only [impl_Synchronous.j0]
    exact Tl.iteT trivial (Tl.ret _)
  refine Tl.bind (impl_SetValid_ev s hs) ?_
  by_cases h : okSet s = true
  · refine Tl.iteT h (Tl.bind (Tl.of_eq fun _ => impl_in_f _ _ _) ?_)
    by_cases hc : 0 ≤ c ∧ c ≤ 120
    · rw [if_pos ⟨h, hc⟩, decide_eq_true hc]
      refine Tl.step ?_
      simp only [impl_Synchronous.j0]
      exact Tl.iteF (by simp) (impl_synT_ev h hc.2 hc.1 _ 0 [] (by omega) (by simp))
    · rw [if_neg (fun g => hc g.2), decide_eq_false hc]
      exact hj
  · rw [if_neg (fun g => h g.1)]
    exact Tl.iteF h hj
end Go.Proofs.Ytonifhkplniblaa.Print

namespace Go.Proofs.Ytonifhkplniblaa.Print
open Go.RowKit Go.Proofs.YtonifhkplniblaaW.PrintWords Go.Proofs.Ytonifhkplniblaa.Evs Go.Proofs.Ytonifhkplniblaa.Opens
set_option linter.unusedSimpArgs false
abbrev Job := S67
theorem eqJob_self (x : Job) : laws_eqJob.f x.f0 x.f1 x.f2 x.f3 x.f0 x.f1 x.f2 x.f3 = some true := by simp [laws_eqJob.f]
theorem eqJobS_ev (l : List Job) (hl : l.length ≤ 1048576) : Tl (fun k => laws_eqJobS.f k l l) true := by
  unfold laws_eqJobS.f
  simp only [if_true]
  refine down (Q := fun j => Tl (fun k => laws_eqJobS.l0 k l l (j : Int)) true) l.length ?_ ?_
  · refine Tl.step ?_
    have c3 := eq_false (show ¬ ((l.length : Int) < (l.length : Int)) by omega)
    simp only [laws_eqJobS.l0, c3, if_false]
    exact Tl.ret _
  · intro j hj h
    refine Tl.step ?_
    have c3 := eq_true (show (j : Int) < (l.length : Int) by omega)
    have c4 := eq_true (show 0 ≤ (j : Int) by omega)
    simp only [laws_eqJobS.l0, c3, c4, if_true, eqJob_self, Option.bind_some]
    rw [wrap_succ hj (by omega)]
    exact h
end Go.Proofs.Ytonifhkplniblaa.Print

namespace Go.Proofs.Ytonifhkplniblaa.Print
open Go.RowKit Go.Proofs.YtonifhkplniblaaW.PrintWords Go.Proofs.Ytonifhkplniblaa.Evs Go.Proofs.Ytonifhkplniblaa.Opens
set_option linter.unusedSimpArgs false
set_option linter.unusedVariables false
theorem wrap4 {m : Int} (h0 : 0 ≤ m) (h1 : m ≤ 100000000) : wrap64 ((wrap64 ((wrap64 ((wrap64 (m + 1)) + 1)) + 1)) + 1) = m + 4 := by
  rw [wrap_id (n := m + 1) (by omega) (by omega), wrap_id (n := m + 1 + 1) (by omega) (by omega), wrap_id (n := m + 1 + 1 + 1) (by omega) (by omega), wrap_id (n := m + 1 + 1 + 1 + 1) (by omega) (by omega)]
  omega
def jm (l : List Job) (j : Nat) : Job := l.getD j z67
theorem rd_jm (l : List Job) (j : Nat) : rd_T67 l (j : Int) = jm l j := rfl
theorem jm_set (l : List Job) (v : Job) {j : Nat} (h : j < l.length) : jm (l.set j v) j = v := by
  unfold jm; simp [List.getD_eq_getElem?_getD, List.getElem?_set, h]
theorem markJobS_at : ∀ (d j : Nat) (l : List Job) (m : Int), j + d = l.length → 0 ≤ m → m + 4 * d ≤ 100000000 → l.length ≤ 1048576 → ∃ l', Tl (fun k => laws_markJobS.l0 k l m (j : Int)) (m + 4 * d, l')
  | 0, j, l, m, e, h0, h1, h2 => by
    refine ⟨l, Tl.step ?_⟩
    simp only [laws_markJobS.l0]
    exact Tl.iteF (by omega) (Tl.cast (Tl.ret _) (by rw [show m + 4 * ((0 : Nat) : Int) = m by omega]))
  | d + 1, j, l, m, e, h0, h1, h2 => by
    have key : ∀ x : List Job, x.length = l.length → ∃ l', Tl (fun k => laws_markJobS.l0 k x (m + 4) ((j + 1 : Nat) : Int)) (m + 4 + 4 * d, l') := fun x hx => markJobS_at d (j + 1) x (m + 4) (by omega) (by omega) (by omega) (by omega)
    have hj : j < l.length := by omega
    obtain ⟨l', hl'⟩ := key (l.set j ⟨m, wrap64 (m + 1), wrap64 ((wrap64 (m + 1)) + 1), wrap64 ((wrap64 ((wrap64 (m + 1)) + 1)) + 1)⟩) (by rw [List.length_set])
    refine ⟨l', Tl.step ?_⟩
    simp only [laws_markJobS.l0, rd_jm, Int.toNat_natCast, Option.bind_some]
    simp only [List.set_set, jm_set _ _ hj, List.length_set]
    rw [wrap4 h0 (by omega), wrap_succ (n := l.length) (by omega) (by omega)]
    exact Tl.iteT (by omega) (Tl.iteT (by omega) (Tl.cast hl' (by rw [show m + 4 + 4 * (d : Int) = m + 4 * ((d + 1 : Nat) : Int) by omega])))
theorem markJobS_ev (l : List Job) (m : Int) (h0 : 0 ≤ m) (h1 : m ≤ 10000000) (hl : l.length ≤ 1048576) : ∃ l', Tl (fun k => laws_markJobS.f k l m) (m + 4 * l.length, l') :=
  markJobS_at l.length 0 l m (by omega) h0 (by omega) hl
end Go.Proofs.Ytonifhkplniblaa.Print

namespace Go.Proofs.Ytonifhkplniblaa.Print
open Go.RowKit Go.Proofs.YtonifhkplniblaaW.PrintWords Go.Proofs.Ytonifhkplniblaa.Evs Go.Proofs.Ytonifhkplniblaa.Opens
set_option linter.unusedSimpArgs false
set_option linter.unusedVariables false
structure MarkedJ (l : List Job) (m : Int) (n : Nat) : Prop where
  len : l.length = n
  at_ : ∀ i : Nat, i < n → jm l i = ⟨m + 4 * i, m + 4 * i + 1, m + 4 * i + 2, m + 4 * i + 3⟩
theorem jm_set_ne (l : List Job) (v : Job) {i j : Nat} (h : ¬ j = i) : jm (l.set j v) i = jm l i := by
  unfold jm; simp [List.getD_eq_getElem?_getD, List.getElem?_set, h]
theorem markJobM_at : ∀ (d j : Nat) (l : List Job) (m : Int), j + d = l.length → 0 ≤ m → m + 4 * l.length ≤ 100000000 → (∀ i : Nat, i < j → jm l i = ⟨m + 4 * i, m + 4 * i + 1, m + 4 * i + 2, m + 4 * i + 3⟩) →
    ∃ l', MarkedJ l' m l.length ∧ Tl (fun k => laws_markJobS.l0 k l (m + 4 * j) (j : Int)) (m + 4 * l.length, l')
  | 0, j, l, m, e, h0, h1, hm => by
    refine ⟨l, ⟨rfl, fun i hi => hm i (by omega)⟩, Tl.step ?_⟩
    simp only [laws_markJobS.l0]
    exact Tl.iteF (by omega) (Tl.cast (Tl.ret _) (by rw [show m + 4 * (j : Int) = m + 4 * (l.length : Int) by omega]))
  | d + 1, j, l, m, e, h0, h1, hm => by
    have hj : j < l.length := by omega
    obtain ⟨l', h2, h3⟩ := markJobM_at d (j + 1) (l.set j ⟨m + 4 * j, m + 4 * j + 1, m + 4 * j + 2, m + 4 * j + 3⟩) m (by rw [List.length_set]; omega) h0 (by rw [List.length_set]; exact h1) (fun i hi => by
      by_cases hij : i = j
      · subst hij; exact jm_set l _ hj
      · rw [jm_set_ne l _ (by omega)]; exact hm i (by omega))
    rw [List.length_set] at h2 h3
    refine ⟨l', h2, Tl.step ?_⟩
    simp only [laws_markJobS.l0, rd_jm, Int.toNat_natCast, Option.bind_some]
    rw [wrap4 (by omega) (by omega), wrap_succ (n := l.length) (by omega) (by omega), wrap_id (n := m + 4 * (j : Int) + 1) (by omega) (by omega), wrap_id (n := m + 4 * (j : Int) + 1 + 1) (by omega) (by omega), wrap_id (n := m + 4 * (j : Int) + 1 + 1 + 1) (by omega) (by omega)]
    simp only [List.set_set, jm_set _ _ hj, List.length_set]
    rw [show m + 4 * (j : Int) + 1 + 1 = m + 4 * j + 2 by omega, show m + 4 * (j : Int) + 2 + 1 = m + 4 * j + 3 by omega, show m + 4 * (j : Int) + 4 = m + 4 * ((j + 1 : Nat) : Int) by omega]
    exact Tl.iteT (by omega) (Tl.iteT (by omega) h3)
theorem markJobM_ev (l : List Job) (m : Int) (h0 : 0 ≤ m) (h1 : m ≤ 10000000) (hl : l.length ≤ 1048576) : ∃ l', MarkedJ l' m l.length ∧ Tl (fun k => laws_markJobS.f k l m) (m + 4 * l.length, l') := by
  obtain ⟨l', h2, h3⟩ := markJobM_at l.length 0 l m (by omega) h0 (by omega) (fun i hi => by omega)
  rw [show m + 4 * ((0 : Nat) : Int) = m by omega] at h3
  exact ⟨l', h2, h3⟩
theorem heldJobS_ev {l : List Job} {m : Int} {n : Nat} (h : MarkedJ l m n) (h0 : 0 ≤ m) (h1 : m ≤ 10000000) (hl : n ≤ 1048576) : Tl (fun k => laws_heldJobS.f k l m) (m + 4 * n) := by
  unfold laws_heldJobS.f
  have he := h.len
  have key := down (Q := fun j => Tl (fun k => laws_heldJobS.l0 k l (m + 4 * j) (j : Int)) (m + 4 * n)) n ?_ ?_
  · rw [show m + 4 * ((0 : Nat) : Int) = m by omega] at key; exact key
  · refine Tl.step ?_
    simp only [laws_heldJobS.l0]
    exact Tl.iteF (by omega) (Tl.ret _)
  · intro j hj hh
    refine Tl.step ?_
    have ha := h.at_ j hj
    simp only [laws_heldJobS.l0, rd_jm, ha]
    rw [wrap4 (by omega) (by omega), wrap_succ hj (by omega), wrap_id (n := m + 4 * (j : Int) + 1) (by omega) (by omega), wrap_id (n := m + 4 * (j : Int) + 1 + 1) (by omega) (by omega), wrap_id (n := m + 4 * (j : Int) + 1 + 1 + 1) (by omega) (by omega), show m + 4 * (j : Int) + 4 = m + 4 * ((j + 1 : Nat) : Int) by omega]
    exact Tl.iteT (by omega) (Tl.iteT (by omega) (Tl.iteT (by trivial) (Tl.iteT (by trivial) (Tl.iteT (by omega) (Tl.iteT (by omega) hh)))))
end Go.Proofs.Ytonifhkplniblaa.Print

namespace Go.Proofs.Ytonifhkplniblaa.Print
open Go.RowKit Go.Proofs.YtonifhkplniblaaW.PrintWords Go.Proofs.Ytonifhkplniblaa.Evs Go.Proofs.Ytonifhkplniblaa.Opens
set_option linter.unusedSimpArgs false
set_option linter.unusedVariables false
theorem wrap3 {m : Int} (h0 : 0 ≤ m) (h1 : m ≤ 100000000) : wrap64 ((wrap64 ((wrap64 (m + 1)) + 1)) + 1) = m + 3 := by
  rw [wrap_id (n := m + 1) (by omega) (by omega), wrap_id (n := m + 1 + 1) (by omega) (by omega), wrap_id (n := m + 1 + 1 + 1) (by omega) (by omega)]
  omega
theorem markTaskS_at : ∀ (d j : Nat) (l : List Task) (m : Int), j + d = l.length → 0 ≤ m → m + 3 * d ≤ 100000000 → l.length ≤ 1048576 → ∃ l', Tl (fun k => laws_markTaskS.l0 k l m (j : Int)) (m + 3 * d, l')
  | 0, j, l, m, e, h0, h1, h2 => by
    refine ⟨l, Tl.step ?_⟩
    simp only [laws_markTaskS.l0]
    exact Tl.iteF (by omega) (Tl.cast (Tl.ret _) (by rw [show m + 3 * ((0 : Nat) : Int) = m by omega]))
  | d + 1, j, l, m, e, h0, h1, h2 => by
    have key : ∀ x : List Task, x.length = l.length → ∃ l', Tl (fun k => laws_markTaskS.l0 k x (m + 3) ((j + 1 : Nat) : Int)) (m + 3 + 3 * d, l') := fun x hx => markTaskS_at d (j + 1) x (m + 3) (by omega) (by omega) (by omega) (by omega)
    obtain ⟨l', hl'⟩ := key _ (show (((l.set j ⟨m, (tk l j).f1, (tk l j).f2⟩).set j ⟨(tk (l.set j ⟨m, (tk l j).f1, (tk l j).f2⟩) j).f0, wrap64 (m + 1), (tk (l.set j ⟨m, (tk l j).f1, (tk l j).f2⟩) j).f2⟩).set j ⟨(tk ((l.set j ⟨m, (tk l j).f1, (tk l j).f2⟩).set j ⟨(tk (l.set j ⟨m, (tk l j).f1, (tk l j).f2⟩) j).f0, wrap64 (m + 1), (tk (l.set j ⟨m, (tk l j).f1, (tk l j).f2⟩) j).f2⟩) j).f0, (tk ((l.set j ⟨m, (tk l j).f1, (tk l j).f2⟩).set j ⟨(tk (l.set j ⟨m, (tk l j).f1, (tk l j).f2⟩) j).f0, wrap64 (m + 1), (tk (l.set j ⟨m, (tk l j).f1, (tk l j).f2⟩) j).f2⟩) j).f1, wrap64 ((wrap64 (m + 1)) + 1)⟩).length = l.length by simp only [List.length_set])
    refine ⟨l', Tl.step ?_⟩
    simp only [laws_markTaskS.l0, rd_tk, Int.toNat_natCast, Option.bind_some]
    rw [wrap3 h0 (by omega), wrap_succ (n := l.length) (by omega) (by omega)]
    exact Tl.iteT (by omega) (Tl.iteT (by omega) (Tl.cast hl' (by rw [show m + 3 + 3 * (d : Int) = m + 3 * ((d + 1 : Nat) : Int) by omega])))
theorem markTaskS_ev (l : List Task) (m : Int) (h0 : 0 ≤ m) (h1 : m ≤ 10000000) (hl : l.length ≤ 1048576) : ∃ l', Tl (fun k => laws_markTaskS.f k l m) (m + 3 * l.length, l') :=
  markTaskS_at l.length 0 l m (by omega) h0 (by omega) hl
end Go.Proofs.Ytonifhkplniblaa.Print

namespace Go.Proofs.Ytonifhkplniblaa.Print
open Go.RowKit Go.Proofs.YtonifhkplniblaaW.PrintWords Go.Proofs.Ytonifhkplniblaa.Evs Go.Proofs.Ytonifhkplniblaa.Opens
set_option linter.unusedSimpArgs false
set_option linter.unusedVariables false
set_option maxHeartbeats 1000000 in
theorem FnExactSynchronous_pure : PureFnExactSynchronous := by
  intro x0 x1 w0 w1
  apply Tl.once
  unfold laws_FnExactSynchronous.f
  refine Tl.bind (Tl.of_eq fun _ => szTaskS_f x0 _ (by omega) (by omega) w0.1) ?_
  by_cases g0 : (1048576 : Int) < x0.length
  · rw [if_pos g0]; exact Tl.iteT (by omega) (Tl.ret _)
  rw [if_neg g0]
  refine Tl.iteF (by omega) ?_
  have hl0 : x0.length ≤ 1048576 := by omega
  have hm0 : (x0.map cvTask).length ≤ 1048576 := by simpa using hl0
  have HS := spec_Synchronous_ev (x0.map cvTask) x1 hm0 w1
  have HI := impl_Synchronous_ev (x0.map cvTask) x1 hm0 w1
  have hd := syn_len (x0.map cvTask) x1
  generalize syn (x0.map cvTask) x1 = D at HS HI hd
  have HE := eqJobS_ev D (by omega)
  obtain ⟨t1, m1⟩ := markTaskS_ev (x0.map cvTask) 1 (by omega) (by omega) hm0
  obtain ⟨t3, mk, m3⟩ := markJobM_ev D 1 (by omega) (by omega) (by omega)
  have m4 := heldJobS_ev mk (by omega) (by omega) (by omega)
  repeat (first
    | exact Tl.ret _
    | with_reducible refine Tl.bind (toTaskS_ev x0 hl0) ?_
    | with_reducible refine Tl.bind (eqTaskS_ev (x0.map cvTask) hm0) ?_
    | with_reducible refine Tl.bind HE ?_
    | with_reducible refine Tl.bind m1 ?_
    | with_reducible refine Tl.bind m3 ?_
    | with_reducible refine Tl.bind m4 ?_
    | with_reducible refine Tl.iteF (by omega) ?_
    | with_reducible refine Tl.bind HS ?_
    | with_reducible refine Tl.bind HI ?_
    | with_reducible refine Tl.iteT rfl ?_
    | with_reducible refine Tl.iteF (by simp) ?_
    | dsimp only
    | (refine Tl.step ?_; simp only [laws_FnExactSynchronous.j0]))
end Go.Proofs.Ytonifhkplniblaa.Print
