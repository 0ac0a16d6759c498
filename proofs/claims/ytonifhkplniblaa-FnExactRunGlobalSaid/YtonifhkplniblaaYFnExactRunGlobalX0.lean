/- What the program and the reference compute, and that both agree. No condition. -/
import Derived.RowKit
import Derived.WalkKit
import Derived.Test.YtonifhkplniblaaYFnExactRunGlobalPO
import Derived.Test.YtonifhkplniblaaYFnExactRunGlobalP0
import Derived.Test.YtonifhkplniblaaYFnExactRunGlobalPB
import Derived.Test.YtonifhkplniblaaYFnExactRunGlobalWalk
import Derived.Test.YtonifhkplniblaaYFnExactRunGlobalWGuard
import Derived.Lib.Hide
import Derived.Deep.DeepMust
import Derived.Deep.QuietTactic
import Derived.BigQuiet
import Derived.Lib.LazyBuf
import Derived.Test.YtonifhkplniblaaYFnExactRunGlobalP1
import Derived.Test.YtonifhkplniblaaYFnExactRunGlobalP2
import Derived.Deep.RegionHeld3
import Derived.Deep.LoopGhost
import Derived.Deep.CutRange
import Derived.Test.YtonifhkplniblaaYFnExactRunGlobalRR
import Derived.Test.YtonifhkplniblaaYFnExactRunGlobalP3
namespace Go.Proofs.Ytonifhkplniblaa.Evs
open Go.RowKit
set_option linter.unusedSimpArgs false
set_option linter.unusedVariables false

/-- From some number of rounds on, g tells r. -/
def Tl {α : Type} (g : Nat → Option α) (r : α) : Prop := ∃ k0, ∀ k, k0 ≤ k → g k = some r

theorem Tl.ret {α : Type} (r : α) : Tl (fun _ => some r) r := ⟨0, fun _ _ => rfl⟩
theorem Tl.of_eq {α : Type} {g : Nat → Option α} {r : α} (h : ∀ k, g k = some r) : Tl g r := ⟨0, fun k _ => h k⟩
theorem Tl.step {α : Type} {g : Nat → Option α} {r : α} (h : Tl (fun k => g (k + 1)) r) : Tl g r := by
  obtain ⟨k0, hk⟩ := h
  refine ⟨k0 + 1, fun k hle => ?_⟩
  obtain ⟨m, rfl⟩ : ∃ m, k = m + 1 := ⟨k - 1, by omega⟩
  exact hk m (by omega)
theorem Tl.bind {α β : Type} {g : Nat → Option α} {a : α} {f : α → Nat → Option β} {r : β} (h : Tl g a) (h2 : Tl (f a) r) : Tl (fun k => (g k).bind fun x => f x k) r := by
  obtain ⟨k0, hk⟩ := h
  obtain ⟨k1, hk1⟩ := h2
  refine ⟨max k0 k1, fun k hle => ?_⟩
  show (g k).bind (fun x => f x k) = some r
  rw [hk k (by omega), Option.bind_some]
  exact hk1 k (by omega)
theorem Tl.cast {α : Type} {g : Nat → Option α} {r r' : α} (h : Tl g r) (e : r = r') : Tl g r' := e ▸ h
theorem Tl.iteT {α : Type} {c : Prop} [Decidable c] {g g' : Nat → Option α} {r : α} (hc : c) (h : Tl g r) : Tl (fun k => if c then g k else g' k) r := by simpa only [if_pos hc] using h
theorem Tl.iteF {α : Type} {c : Prop} [Decidable c] {g g' : Nat → Option α} {r : α} (hc : ¬ c) (h : Tl g' r) : Tl (fun k => if c then g k else g' k) r := by simpa only [if_neg hc] using h

/-- Downwards. -/
theorem down {Q : Nat → Prop} (n : Nat) (he : Q n) (hs : ∀ j, j < n → Q (j + 1) → Q j) : Q 0 := by
  induction n with
  | zero => exact he
  | succ n ih => exact ih (hs n (by omega) he) (fun j hj => hs j (by omega))
/-- A loop that asks something of each index, and stops at the first 'no'. -/
theorem Tl.all {F : Nat → Int → Option Bool} {n : Nat} {P : Nat → Bool} {fin : Bool}
    (ht : ∀ j, j < n → P j = true → ∀ r, Tl (fun k => F k ((j + 1 : Nat) : Int)) r → Tl (fun k => F k (j : Int)) r)
    (hf : ∀ j, j < n → P j = false → Tl (fun k => F k (j : Int)) false) (he : Tl (fun k => F k (n : Int)) fin) :
    Tl (fun k => F k 0) ((List.range n).all P && fin) := by
  by_cases hall : ∀ j, j < n → P j = true
  · have h1 : ((List.range n).all P) = true := by simpa using hall
    rw [h1, Bool.true_and]
    exact down (Q := fun j => Tl (fun k => F k (j : Int)) fin) n he (fun j hj h => ht j hj (hall j hj) _ h)
  · have h1 : ((List.range n).all P) = false := by simpa using hall
    rw [h1, Bool.false_and]
    clear h1
    have key : ∀ m, m ≤ n → (∃ j, j < m ∧ P j = false) → Tl (fun k => F k 0) false := by
      intro m
      induction m with
      | zero => rintro _ ⟨j, hj, _⟩; omega
      | succ m ih =>
        rintro hm ⟨j, hj, hp⟩
        by_cases hlow : ∃ j, j < m ∧ P j = false
        · exact ih (by omega) hlow
        · have hjm : j = m := by
            rcases Nat.lt_or_ge j m with h | h
            · exact absurd ⟨j, h, hp⟩ hlow
            · omega
          subst hjm
          refine down (Q := fun j => Tl (fun k => F k (j : Int)) false) j (hf j (by omega) hp) (fun i hi h => ht i (by omega) ?_ _ h)
          cases hpi : P i
          · exact absurd ⟨i, hi, hpi⟩ hlow
          · rfl
    refine key n (Nat.le_refl _) ?_
    apply Classical.byContradiction
    intro hno
    refine hall (fun j hj => ?_)
    cases hp : P j
    · exact absurd ⟨j, hj, hp⟩ hno
    · rfl

theorem wrap_id {n : Int} (h1 : -9223372036854775808 ≤ n) (h2 : n ≤ 9223372036854775807) : wrap64 n = n := by unfold wrap64; omega
theorem wrap_succ {j n : Nat} (h : j < n) (hn : n ≤ 9223372036854775807) : wrap64 ((j : Int) + 1) = ((j + 1 : Nat) : Int) := by unfold wrap64; omega
end Go.Proofs.Ytonifhkplniblaa.Evs

namespace Go.Proofs.Ytonifhkplniblaa.Evs
theorem fill_zero {α : Type} (xs : List α) (z : α) : xs.take 0 ++ List.replicate (xs.length - 0) z = List.replicate xs.length z := by simp
theorem fill_set {α : Type} (xs : List α) (z : α) {j : Nat} (hj : j < xs.length) (x : α) (hx : x = xs.getD j z) :
    (xs.take j ++ List.replicate (xs.length - j) z).set j x = xs.take (j + 1) ++ List.replicate (xs.length - (j + 1)) z := by
  have h1 : (xs.take j).length = j := by simp; omega
  rw [List.set_append_right _ _ (by omega), h1, Nat.sub_self]
  obtain ⟨m, hm⟩ : ∃ m, xs.length - j = m + 1 := ⟨xs.length - j - 1, by omega⟩
  rw [hm, List.replicate_succ, List.set_cons_zero, List.take_succ_eq_append_getElem hj, List.append_assoc, hx]
  have h2 : xs.length - (j + 1) = m := by omega
  rw [h2]
  simp [List.getD_eq_getElem?_getD, hj]
theorem fill_len {α : Type} (xs : List α) (z : α) {j : Nat} (hj : j ≤ xs.length) : (xs.take j ++ List.replicate (xs.length - j) z).length = xs.length := by simp; omega
theorem fill_end {α : Type} (xs : List α) (z : α) : xs.take xs.length ++ List.replicate (xs.length - xs.length) z = xs := by simp
theorem getD_map {α β : Type} (f : α → β) (l : List α) (j : Nat) (z : α) (z' : β) (hj : j < l.length) : (l.map f).getD j z' = f (l.getD j z) := by simp [List.getD_eq_getElem?_getD, hj]
theorem all_range {α : Type} (l : List α) (z : α) (p : α → Bool) : (List.range l.length).all (fun j => p (l.getD j z)) = l.all p := by
  rw [Bool.eq_iff_iff, List.all_eq_true, List.all_eq_true]
  constructor
  · intro h x hx
    obtain ⟨i, hi, rfl⟩ := List.getElem_of_mem hx
    have := h i (by simpa using hi)
    simpa [List.getD_eq_getElem?_getD, hi] using this
  · intro h j hj
    have hj' : j < l.length := by simpa using hj
    have := h l[j] (List.getElem_mem hj')
    simpa [List.getD_eq_getElem?_getD, hj'] using this
end Go.Proofs.Ytonifhkplniblaa.Evs

namespace Go.Proofs.Ytonifhkplniblaa.Print
open Go.RowKit Go.Proofs.YtonifhkplniblaaW.PrintWords Go.Proofs.Ytonifhkplniblaa.Evs Go.Proofs.Ytonifhkplniblaa.Opens
set_option linter.unusedSimpArgs false
abbrev LTask := S105
abbrev Task := S62
def cvTask (x : LTask) : Task := ⟨x.f0, x.f1, x.f2⟩
theorem toTaskS_ev (l : List LTask) (hl : l.length ≤ 1048576) : Tl (fun k => laws_toTaskS.f k l) (l.map cvTask) := by
  unfold laws_toTaskS.f
  have c1 := eq_true (show 0 ≤ (l.length : Int) by omega)
  have c2 := eq_true (show l.length ≤ 11728124029610 by omega)
  simp only [c1, c2, if_true, Int.toNat_natCast]
  have hlen : (l.map cvTask).length = l.length := by simp
  have key := down (Q := fun j => Tl (fun k => laws_toTaskS.l0 k l ((l.map cvTask).take j ++ List.replicate ((l.map cvTask).length - j) z62) (j : Int)) (l.map cvTask)) l.length ?_ ?_
  · rw [fill_zero, hlen] at key; exact key
  · refine Tl.step ?_
    have c3 := eq_false (show ¬ ((l.length : Int) < (l.length : Int)) by omega)
    rw [← hlen, fill_end]
    simp only [hlen]
    simp only [laws_toTaskS.l0, c3, if_false]
    exact Tl.ret _
  · intro j hj h
    refine Tl.step ?_
    have c3 := eq_true (show (j : Int) < (l.length : Int) by omega)
    have c4 := eq_true (show 0 ≤ (j : Int) by omega)
    have c5 := eq_true (show (j : Int) < (((l.map cvTask).take j ++ List.replicate ((l.map cvTask).length - j) z62).length : Int) by rw [fill_len _ _ (by omega)]; omega)
    simp only [laws_toTaskS.l0, c3, c4, c5, if_true, laws_toTask.f, Option.bind_some, Int.toNat_natCast]
    rw [fill_set _ _ (by omega) _ (by rw [getD_map cvTask l j z105 _ hj]; rfl), wrap_succ hj (by omega)]
    exact h
theorem eqTask_self (x : Task) : laws_eqTask.f x.f0 x.f1 x.f2 x.f0 x.f1 x.f2 = some true := by simp [laws_eqTask.f]
theorem eqTaskS_ev (l : List Task) (hl : l.length ≤ 1048576) : Tl (fun k => laws_eqTaskS.f k l l) true := by
  unfold laws_eqTaskS.f
  simp only [if_true]
  refine down (Q := fun j => Tl (fun k => laws_eqTaskS.l0 k l l (j : Int)) true) l.length ?_ ?_
  · refine Tl.step ?_
    have c3 := eq_false (show ¬ ((l.length : Int) < (l.length : Int)) by omega)
    simp only [laws_eqTaskS.l0, c3, if_false]
    exact Tl.ret _
  · intro j hj h
    refine Tl.step ?_
    have c3 := eq_true (show (j : Int) < (l.length : Int) by omega)
    have c4 := eq_true (show 0 ≤ (j : Int) by omega)
    simp only [laws_eqTaskS.l0, c3, c4, if_true, eqTask_self, Option.bind_some]
    rw [wrap_succ hj (by omega)]
    exact h
theorem szTaskS_f (l : List LTask) (a : Int) (h0 : 0 ≤ a) (h1 : a ≤ 1048576) (hl : l.length ≤ 9223372036854775807) : laws_szTaskS.f l a = some (if a < l.length then -1 else a - l.length) := by
  unfold laws_szTaskS.f
  rw [wrap_id (by omega) (by omega)]
  by_cases h : a < l.length
  · rw [if_pos (by omega), if_pos h]
  · rw [if_neg (by omega), if_neg h]
end Go.Proofs.Ytonifhkplniblaa.Print

namespace Go.Proofs.Ytonifhkplniblaa.Print
open Go.RowKit Go.Proofs.YtonifhkplniblaaW.PrintWords Go.Proofs.Ytonifhkplniblaa.Evs Go.Proofs.Ytonifhkplniblaa.Opens
set_option linter.unusedSimpArgs false
set_option linter.unusedVariables false
theorem spec_l1In_f (a b c : Int) : spec_l1In.f a b c = some (decide (b ≤ a ∧ a ≤ c)) := by
  unfold spec_l1In.f
  by_cases h : a ≥ b
  · have h' : b ≤ a := h
    simp [h, h']
  · have h' : ¬ b ≤ a := h
    simp [h, h']
theorem spec_TaskValid_f (x : Task) : spec_TaskValid.f x.f0 x.f1 x.f2 = some (okTask x) := by
  unfold spec_TaskValid.f okTask
  simp only [spec_l1In_f, Option.bind_some, decide_eq_true_eq]
  split
  · split
    · congr 1; rw [Bool.eq_iff_iff]; simp only [decide_eq_true_eq, Bool.false_eq_true, false_iff]; omega
    · congr 1; rw [Bool.eq_iff_iff]; simp only [decide_eq_true_eq, Bool.false_eq_true, false_iff]; omega
  · congr 1; rw [Bool.eq_iff_iff]; simp only [decide_eq_true_eq, Bool.false_eq_true, false_iff]; omega
/-- A valid set. -/
def okSet (l : List Task) : Bool := decide (l.length ≤ 5) && l.all okTask
theorem impl_SetValid_f (l : List Task) : impl_SetValid.f l = some (okSet l) := rfl
theorem spec_SetValid_ev (l : List Task) (hl : l.length ≤ 1048576) : Tl (fun k => spec_SetValid.f k l) (okSet l) := by
  have key := Tl.all (F := fun k i => spec_SetValid.l0 k l i) (n := l.length) (P := fun j => okTask (l.getD j z62)) (fin := decide (l.length ≤ 5)) ?_ ?_ ?_
  · rw [all_range] at key
    unfold okSet
    rw [Bool.and_comm]
    exact key
  · intro j hj hp r h
    refine Tl.step ?_
    have c3 := eq_true (show (j : Int) < (l.length : Int) by omega)
    have c4 := eq_true (show 0 ≤ (j : Int) by omega)
    have c5 : spec_TaskValid.f (rd_T62 l (j : Int)).f0 (rd_T62 l (j : Int)).f1 (rd_T62 l (j : Int)).f2 = some true := by rw [spec_TaskValid_f]; exact congrArg some hp
    simp only [spec_SetValid.l0, c3, c4, c5, if_true, Option.bind_some]
    rw [wrap_succ hj (by omega)]
    exact h
  · intro j hj hp
    refine Tl.step ?_
    have c3 := eq_true (show (j : Int) < (l.length : Int) by omega)
    have c4 := eq_true (show 0 ≤ (j : Int) by omega)
    have c5 : spec_TaskValid.f (rd_T62 l (j : Int)).f0 (rd_T62 l (j : Int)).f1 (rd_T62 l (j : Int)).f2 = some false := by rw [spec_TaskValid_f]; exact congrArg some hp
    simp only [spec_SetValid.l0, c3, c4, c5, if_true, Option.bind_some, Bool.false_eq_true, if_false]
    exact Tl.ret _
  · refine Tl.step ?_
    have c3 := eq_false (show ¬ ((l.length : Int) < (l.length : Int)) by omega)
    simp only [spec_SetValid.l0, c3, if_false]
    have : decide ((l.length : Int) ≤ 5) = decide (l.length ≤ 5) := by rw [decide_eq_decide]; omega
    rw [this]
    exact Tl.ret _

/-- Task j of a list. -/
def tk (l : List Task) (j : Nat) : Task := l.getD j z62
theorem rd_tk (l : List Task) (j : Nat) : rd_T62 l (j : Int) = tk l j := rfl
theorem okSet_len {l : List Task} (h : okSet l = true) : l.length ≤ 5 := by unfold okSet at h; simp at h; exact h.1
theorem okSet_tk {l : List Task} (h : okSet l = true) {j : Nat} (hj : j < l.length) : 1 ≤ (tk l j).f0 ∧ (tk l j).f0 ≤ 8 ∧ (tk l j).f0 ≤ (tk l j).f1 ∧ (tk l j).f1 ≤ (tk l j).f2 ∧ (tk l j).f2 ≤ 12 := by
  unfold okSet at h
  rw [Bool.and_eq_true, List.all_eq_true] at h
  have h1 : tk l j ∈ l := by unfold tk; simp [List.getD_eq_getElem?_getD, hj]
  have := h.2 _ h1
  unfold okTask at this
  exact of_decide_eq_true this
end Go.Proofs.Ytonifhkplniblaa.Print

namespace Go.Proofs.Ytonifhkplniblaa.Print
open Go.RowKit Go.Proofs.YtonifhkplniblaaW.PrintWords Go.Proofs.YtonifhkplniblaaW.PrintMore Go.Proofs.Ytonifhkplniblaa.Evs Go.Proofs.Ytonifhkplniblaa.Opens
set_option linter.unusedSimpArgs false
set_option linter.unusedVariables false
theorem rd_jb (l : List S67) (j : Nat) : rd_T67 l (j : Int) = jb l j := rfl
theorem rd_tk' (l : List Task) (i : Int) : rd_T62 l i = tk l i.toNat := rfl
theorem nextL_says {s : List Task} {l : List S67} (hok : okSet s = true) {n : Nat} (hin : ∀ i, i < n → (0 ≤ (jb l i).f0 ∧ (jb l i).f0 < s.length) ∧ 0 ≤ (jb l i).f1 ∧ (jb l i).f1 ≤ 119) :
    ∀ i, i ≤ n → ∀ t : Int, 0 ≤ t → t < s.length → rd (nextL s l i) t = match lastT l i t with | none => 0 | some b => b + (rd_T62 s t).f2
  | 0, _, t, h0, h1 => by
    show (List.replicate s.length (0 : Int)).getD t.toNat 0 = 0
    simp [List.getD_eq_getElem?_getD, List.getElem?_replicate]
    split <;> rfl
  | i + 1, hi, t, h0, h1 => by
    obtain ⟨⟨a1, a2⟩, a3, a4⟩ := hin i (by omega)
    have ih := nextL_says hok hin i (by omega) t h0 h1
    have hlen := nextL_len s l i
    have hgj : l.getD i z67 = jb l i := rfl
    unfold lastT
    rw [hgj]
    show ((nextL s l i).set (jb l i).f0.toNat _).getD t.toNat 0 = _
    rw [List.getD_eq_getElem?_getD, List.getElem?_set]
    by_cases e : (jb l i).f0 = t
    · rw [if_pos (by omega), if_pos (by omega), if_pos e]
      simp only [Option.getD_some]
      rw [e, rd_tk']
      have hv := okSet_tk hok (j := t.toNat) (by omega)
      exact wrap_id (by omega) (by omega)
    · rw [if_neg (by omega), if_neg e]
      rw [← List.getD_eq_getElem?_getD]
      exact ih
theorem spec_JobsLegal_ev0 (s : List Task) (l : List S67) (hs : s.length ≤ 1048576) (hl : l.length ≤ 1048576) :
    Tl (fun k => spec_JobsLegal.f k s l) (okSet s && (decide (l.length ≤ 60) && (List.range l.length).all (specAt s l))) := by
  unfold spec_JobsLegal.f
  refine Tl.bind (spec_SetValid_ev s hs) ?_
  cases hok : okSet s with
  | false => exact Tl.iteF (by simp) (Tl.ret _)
  | true =>
    have hs5 := okSet_len hok
    refine Tl.iteT rfl ?_
    by_cases h : l.length ≤ 60
    · rw [decide_eq_true h]
      exact Tl.iteT h (Tl.iteT (by omega) (Tl.ret _))
    · rw [decide_eq_false h]
      exact Tl.iteF h (Tl.ret _)
theorem legal_eq {s : List Task} (hok : okSet s = true) (l : List S67) : legalB s l = (decide (l.length ≤ 60) && (List.range l.length).all (specAt s l)) := by
  have hgj : ∀ i, l.getD i z67 = jb l i := fun _ => rfl
  have hdl : l.all (dlOk s) = (List.range l.length).all (fun i => dlOk s (jb l i)) := by
    rw [Bool.eq_iff_iff, List.all_eq_true, List.all_eq_true]
    constructor
    · intro h i hi
      have hi := List.mem_range.1 hi
      refine h _ ?_
      unfold jb
      simp [List.getD_eq_getElem?_getD, hi]
    · intro h x hx
      obtain ⟨i, hi, rfl⟩ := List.getElem_of_mem hx
      have := h i (List.mem_range.2 hi)
      simpa [jb, List.getD_eq_getElem?_getD, hi] using this
  have spc : ∀ i, i < l.length → (∀ i, i < l.length → (0 ≤ (jb l i).f0 ∧ (jb l i).f0 < s.length) ∧ 0 ≤ (jb l i).f1 ∧ (jb l i).f1 ≤ 119) → (spcAt s l i = true ↔ ¬ (jb l i).f1 < rd (nextL s l i) (jb l i).f0) := by
    intro i hi hin
    obtain ⟨⟨a1, a2⟩, a3, a4⟩ := hin i hi
    rw [nextL_says hok hin i (by omega) _ a1 a2]
    unfold spcAt
    rw [hgj]
    cases lastT l i (jb l i).f0 with
    | none => simp; omega
    | some b => simp; omega
  unfold legalB ordB
  rw [hdl, Bool.eq_iff_iff]
  simp only [Bool.and_eq_true, List.all_eq_true, List.mem_range, decide_eq_true_eq]
  constructor
  · rintro ⟨⟨h1, h2⟩, h3, h4⟩
    have hin : ∀ i, i < l.length → (0 ≤ (jb l i).f0 ∧ (jb l i).f0 < s.length) ∧ 0 ≤ (jb l i).f1 ∧ (jb l i).f1 ≤ 119 := by
      intro i hi
      have := h1 i hi
      unfold ordAt at this
      rw [Bool.and_eq_true, hgj] at this
      exact ⟨jobIn_f0 this.1, jobIn_f1 this.1⟩
    refine ⟨h2, fun i hi => ?_⟩
    have g1 := h1 i hi
    have g3 := (spc i hi hin).1 (h3 i hi)
    have g4 := h4 i hi
    unfold ordAt at g1
    rw [Bool.and_eq_true] at g1
    simp only [hgj] at g1
    obtain ⟨ga, gb⟩ := g1
    unfold jobIn at ga
    simp only [Bool.and_eq_true, decide_eq_true_eq] at ga
    unfold specAt
    rw [decide_eq_true ga.1, decide_eq_true ga.2.1, decide_eq_true ga.2.2, decide_eq_false g3, g4]
    simpa using gb
  · rintro ⟨h2, h1⟩
    have hx : ∀ i, i < l.length → (0 ≤ (jb l i).f0 ∧ (jb l i).f0 ≤ (s.length : Int) - 1) ∧ (0 ≤ (jb l i).f1 ∧ (jb l i).f1 ≤ 119) ∧ ¬ (jb l i).f1 < rd (nextL s l i) (jb l i).f0 ∧ dlOk s (jb l i) = true ∧ (1 ≤ (jb l i).f3 ∧ (jb l i).f3 ≤ (rd_T62 s (jb l i).f0).f0) ∧ (decide (0 < i) && jobBad (jb l (i - 1)) (jb l i)) = false := by
      intro i hi
      have := h1 i hi
      unfold specAt at this
      simp only [Bool.and_eq_true, Bool.not_eq_true', decide_eq_true_eq, decide_eq_false_iff_not] at this
      obtain ⟨⟨a, b⟩, ⟨c, d, e⟩, f⟩ := this
      exact ⟨a, b, c, d, e, f⟩
    have hin : ∀ i, i < l.length → (0 ≤ (jb l i).f0 ∧ (jb l i).f0 < s.length) ∧ 0 ≤ (jb l i).f1 ∧ (jb l i).f1 ≤ 119 := fun i hi => by
      obtain ⟨a, b, _⟩ := hx i hi
      exact ⟨by omega, b⟩
    refine ⟨⟨fun i hi => ?_, h2⟩, fun i hi => (spc i hi hin).2 (hx i hi).2.2.1, fun i hi => (hx i hi).2.2.2.1⟩
    obtain ⟨a, b, c, d, e, f⟩ := hx i hi
    unfold ordAt jobIn
    rw [hgj, hgj, decide_eq_true a, decide_eq_true b, decide_eq_true e, f]
    rfl
/-- A legal release pattern of a valid set. -/
def legal (s : List Task) (l : List S67) : Bool := okSet s && legalB s l
theorem impl_JobsLegal_f (s : List Task) (l : List S67) : impl_JobsLegal.f s l = some (legal s l) := by
  unfold impl_JobsLegal.f legal
  rw [impl_SetValid_f, Option.bind_some]
theorem spec_JobsLegal_ev (s : List Task) (l : List S67) (hs : s.length ≤ 1048576) (hl : l.length ≤ 1048576) : Tl (fun k => spec_JobsLegal.f k s l) (legal s l) := by
  refine (spec_JobsLegal_ev0 s l hs hl).cast ?_
  unfold legal
  cases hok : okSet s with
  | false => rfl
  | true => rw [Bool.true_and, Bool.true_and, legal_eq hok]
end Go.Proofs.Ytonifhkplniblaa.Print

namespace Go.Proofs.Ytonifhkplniblaa.Evs
set_option linter.unusedSimpArgs false
set_option linter.unusedVariables false
/-- The first place from j on, among n. -/
def idxN (o : List Int) (v : Int) : Nat → Nat → Int
  | 0, _ => -1
  | n + 1, j => if o.getD j 0 = v then (j : Int) else idxN o v n (j + 1)
def idx (o : List Int) (v : Int) : Int := idxN o v o.length 0
theorem idxN_spec (o : List Int) (v : Int) : ∀ (n j : Nat), (idxN o v n j = -1 ∧ ∀ i, j ≤ i → i < j + n → o.getD i 0 ≠ v) ∨ (∃ i, j ≤ i ∧ i < j + n ∧ idxN o v n j = (i : Int) ∧ o.getD i 0 = v ∧ ∀ i', j ≤ i' → i' < i → o.getD i' 0 ≠ v)
  | 0, j => .inl ⟨rfl, fun i h1 h2 => by omega⟩
  | n + 1, j => by
    unfold idxN
    by_cases hc : o.getD j 0 = v
    · rw [if_pos hc]
      exact .inr ⟨j, Nat.le_refl _, by omega, rfl, hc, fun i' h1 h2 => by omega⟩
    · rw [if_neg hc]
      rcases idxN_spec o v n (j + 1) with ⟨h1, h2⟩ | ⟨i, h1, h2, h3, h4, h5⟩
      · refine .inl ⟨h1, fun i h3 h4 => ?_⟩
        rcases Nat.lt_or_ge j i with h | h
        · exact h2 i h (by omega)
        · obtain rfl : i = j := by omega
          exact hc
      · refine .inr ⟨i, by omega, by omega, h3, h4, fun i' h6 h7 => ?_⟩
        rcases Nat.lt_or_ge j i' with h | h
        · exact h5 i' h h7
        · obtain rfl : i' = j := by omega
          exact hc
theorem idx_spec (o : List Int) (v : Int) : (idx o v = -1 ∧ ∀ i, i < o.length → o.getD i 0 ≠ v) ∨ (∃ i, i < o.length ∧ idx o v = (i : Int) ∧ o.getD i 0 = v ∧ ∀ i', i' < i → o.getD i' 0 ≠ v) := by
  rcases idxN_spec o v o.length 0 with ⟨h1, h2⟩ | ⟨i, h1, h2, h3, h4, h5⟩
  · exact .inl ⟨h1, fun i h => h2 i (by omega) (by omega)⟩
  · exact .inr ⟨i, by omega, h3, h4, fun i' h => h5 i' (by omega) h⟩
/-- A loop that looks for the first place. -/
theorem Tl.idxN {F : Nat → Int → Option Int} {o : List Int} {v : Int}
    (ht : ∀ j, j < o.length → o.getD j 0 ≠ v → ∀ r, Tl (fun k => F k ((j + 1 : Nat) : Int)) r → Tl (fun k => F k (j : Int)) r)
    (hf : ∀ j, j < o.length → o.getD j 0 = v → Tl (fun k => F k (j : Int)) (j : Int)) (he : Tl (fun k => F k (o.length : Int)) (-1)) :
    ∀ (n j : Nat), j + n = o.length → Tl (fun k => F k (j : Int)) (idxN o v n j)
  | 0, j, e => by
    obtain rfl : j = o.length := by omega
    exact he
  | n + 1, j, e => by
    unfold Evs.idxN
    by_cases hc : o.getD j 0 = v
    · rw [if_pos hc]; exact hf j (by omega) hc
    · rw [if_neg hc]; exact ht j (by omega) hc _ (Tl.idxN ht hf he n (j + 1) (by omega))
end Go.Proofs.Ytonifhkplniblaa.Evs

namespace Go.Proofs.Ytonifhkplniblaa.Print
open Go.RowKit Go.Proofs.YtonifhkplniblaaW.PrintWords Go.Proofs.YtonifhkplniblaaW.PrintLast Go.Proofs.YtonifhkplniblaaW.PrintMore
attribute [local go_sem] max2_int min2_int max_two min_two max_three min_three max_four min_four
set_option linter.unusedVariables false
set_option linter.unusedSimpArgs false
/-- The stable merge of two rows by a key. -/
def mrg (K : Int → Int) : List Int → List Int → List Int
  | [], R => R
  | x :: L, [] => x :: L
  | x :: L, y :: R => if K x ≤ K y then x :: mrg K L (y :: R) else y :: mrg K (x :: L) R
termination_by L R => L.length + R.length
theorem mrg_nil_l (K : Int → Int) (R : List Int) : mrg K [] R = R := by rw [mrg]
theorem mrg_nil_r (K : Int → Int) : ∀ L : List Int, mrg K L [] = L
  | [] => by rw [mrg]
  | x :: L => by rw [mrg]
theorem mrg_le {K : Int → Int} {x y : Int} {L R : List Int} (h : K x ≤ K y) : mrg K (x :: L) (y :: R) = x :: mrg K L (y :: R) := by rw [mrg, if_pos h]
theorem mrg_gt {K : Int → Int} {x y : Int} {L R : List Int} (h : K y < K x) : mrg K (x :: L) (y :: R) = y :: mrg K (x :: L) R := by rw [mrg, if_neg (by omega)]
/-- A merge falls apart where its rows do. -/
theorem mrg_split (K : Int → Int) : ∀ (n : Nat) (L1 L2 R1 R2 : List Int), L1.length + R1.length = n → (∀ x ∈ L1, ∀ y ∈ R2, K x ≤ K y) → (∀ x ∈ L2, ∀ y ∈ R1, K y < K x) → mrg K (L1 ++ L2) (R1 ++ R2) = mrg K L1 R1 ++ mrg K L2 R2
  | 0, L1, L2, R1, R2, h, _, _ => by
    obtain rfl := List.eq_nil_of_length_eq_zero (show L1.length = 0 by omega)
    obtain rfl := List.eq_nil_of_length_eq_zero (show R1.length = 0 by omega)
    simp [mrg_nil_l]
  | n + 1, [], L2, [], R2, h, _, _ => by simp [mrg_nil_l]
  | n + 1, [], [], y :: R1, R2, h, _, _ => by simp [mrg_nil_l]
  | n + 1, [], x :: L2, y :: R1, R2, h, h1, h2 => by
    have ih := mrg_split K n [] (x :: L2) R1 R2 (by simp at h ⊢; omega) (by simp) (fun a ha b hb => h2 a ha b (List.mem_cons_of_mem _ hb))
    have hc := h2 x (by simp) y (by simp)
    rw [mrg_nil_l] at ih ⊢
    show mrg K (x :: L2) (y :: (R1 ++ R2)) = (y :: R1) ++ mrg K (x :: L2) R2
    rw [mrg_gt hc]
    simp only [List.nil_append] at ih
    rw [ih, List.cons_append]
  | n + 1, x :: L1, L2, [], [], h, h1, h2 => by simp [mrg_nil_r]
  | n + 1, x :: L1, L2, [], y :: R2, h, h1, h2 => by
    have ih := mrg_split K n L1 L2 [] (y :: R2) (by simp at h ⊢; omega) (fun a ha b hb => h1 a (List.mem_cons_of_mem _ ha) b hb) (by simp)
    have hc := h1 x (by simp) y (by simp)
    rw [mrg_nil_r] at ih ⊢
    show mrg K (x :: (L1 ++ L2)) (y :: R2) = (x :: L1) ++ mrg K L2 (y :: R2)
    rw [mrg_le hc]
    simp only [List.nil_append] at ih
    rw [ih, List.cons_append]
  | n + 1, x :: L1, L2, y :: R1, R2, h, h1, h2 => by
    show mrg K (x :: (L1 ++ L2)) (y :: (R1 ++ R2)) = mrg K (x :: L1) (y :: R1) ++ mrg K L2 R2
    by_cases hc : K x ≤ K y
    · have ih := mrg_split K n L1 L2 (y :: R1) R2 (by simp at h ⊢; omega) (fun a ha b hb => h1 a (List.mem_cons_of_mem _ ha) b hb) h2
      rw [mrg_le hc, mrg_le hc, List.cons_append, ← ih]
      rfl
    · have ih := mrg_split K n (x :: L1) L2 R1 R2 (by simp at h ⊢; omega) h1 (fun a ha b hb => h2 a ha b (List.mem_cons_of_mem _ hb))
      rw [mrg_gt (by omega), mrg_gt (by omega), List.cons_append, ← ih]
      rfl
theorem mrg_ins (K : Int → Int) (x : Int) (R1 R2 : List Int) (h1 : ∀ y ∈ R1, K y < K x) (h2 : ∀ y ∈ R2, K x ≤ K y) : mrg K [x] (R1 ++ R2) = R1 ++ x :: R2 := by
  have e1 := mrg_split K _ [] [x] R1 R2 rfl (by simp) (by simpa using h1)
  have e2 := mrg_split K _ [x] [] [] R2 rfl (by simpa using h2) (by simp)
  simp only [List.nil_append, List.append_nil, mrg_nil_l, mrg_nil_r] at e1 e2
  rw [e1, e2, List.singleton_append]
theorem mrg_last (K : Int → Int) (y : Int) (L1 L2 : List Int) (h1 : ∀ x ∈ L1, K x ≤ K y) (h2 : ∀ x ∈ L2, K y < K x) : mrg K (L1 ++ L2) [y] = L1 ++ y :: L2 := by
  have e1 := mrg_split K _ L1 L2 [] [y] rfl (by simpa using h1) (by simp)
  have e2 := mrg_split K _ [] L2 [y] [] rfl (by simp) (by simpa using h2)
  simp only [List.nil_append, List.append_nil, mrg_nil_l, mrg_nil_r] at e1 e2
  rw [e1, e2, List.singleton_append]
theorem mrg_assoc (K : Int → Int) (x : Int) : ∀ (n : Nat) (A C : List Int), A.length + C.length = n → mrg K (mrg K [x] A) C = mrg K [x] (mrg K A C)
  | _, [], C, _ => by rw [mrg_nil_r, mrg_nil_l]
  | _, a :: A, [], _ => by rw [mrg_nil_r, mrg_nil_r]
  | 0, a :: A, c :: C, h => by simp at h
  | n + 1, a :: A, c :: C, h => by
    by_cases h1 : K x ≤ K a
    · rw [mrg_le h1, mrg_nil_l]
      by_cases h2 : K x ≤ K c
      · rw [mrg_le h2]
        by_cases h3 : K a ≤ K c
        · rw [mrg_le h3, mrg_le h1, mrg_nil_l]
        · rw [mrg_gt (by omega), mrg_le h2, mrg_nil_l]
      · have ih := mrg_assoc K x n (a :: A) C (by simp at h ⊢; omega)
        rw [mrg_le h1, mrg_nil_l] at ih
        rw [mrg_gt (by omega), mrg_gt (x := a) (by omega), mrg_gt (by omega), ih]
    · rw [mrg_gt (by omega)]
      by_cases h3 : K a ≤ K c
      · have ih := mrg_assoc K x n A (c :: C) (by simp at h ⊢; omega)
        rw [mrg_le h3, mrg_le h3, mrg_gt (by omega), ih]
      · have ih := mrg_assoc K x n (a :: A) C (by simp at h ⊢; omega)
        rw [mrg_gt (x := x) (y := a) (by omega)] at ih
        rw [mrg_gt (by omega), mrg_gt (x := a) (by omega), mrg_gt (by omega), ih]
/-- The stable sort. -/
def stab (K : Int → Int) : List Int → List Int
  | [] => []
  | x :: xs => mrg K [x] (stab K xs)
theorem stab_app (K : Int → Int) : ∀ A B : List Int, mrg K (stab K A) (stab K B) = stab K (A ++ B)
  | [], B => by rw [stab, mrg_nil_l]; rfl
  | x :: A, B => by
    show mrg K (mrg K [x] (stab K A)) (stab K B) = mrg K [x] (stab K (A ++ B))
    rw [mrg_assoc K x _ _ _ rfl, stab_app K A B]
theorem stab_one (K : Int → Int) (x : Int) : stab K [x] = [x] := by show mrg K [x] [] = [x]; rw [mrg_nil_r]
theorem mrg_mem (K : Int → Int) (z : Int) : ∀ (n : Nat) (L R : List Int), L.length + R.length = n → (z ∈ mrg K L R ↔ z ∈ L ∨ z ∈ R)
  | _, [], R, _ => by rw [mrg_nil_l]; simp
  | _, x :: L, [], _ => by rw [mrg_nil_r]; simp
  | 0, x :: L, y :: R, h => by simp at h
  | n + 1, x :: L, y :: R, h => by
    by_cases hc : K x ≤ K y
    · have ih := mrg_mem K z n L (y :: R) (by simp at h ⊢; omega)
      rw [mrg_le hc, List.mem_cons, ih]
      simp [or_assoc]
    · have ih := mrg_mem K z n (x :: L) R (by simp at h ⊢; omega)
      rw [mrg_gt (by omega), List.mem_cons, ih]
      simp only [List.mem_cons]
      constructor <;> (intro h; rcases h with h | (h | h) | h <;> simp [h]) <;> done
theorem mrg_len (K : Int → Int) : ∀ (n : Nat) (L R : List Int), L.length + R.length = n → (mrg K L R).length = n
  | _, [], R, h => by rw [mrg_nil_l]; simpa using h
  | _, x :: L, [], h => by rw [mrg_nil_r]; simpa using h
  | 0, x :: L, y :: R, h => by simp at h
  | n + 1, x :: L, y :: R, h => by
    by_cases hc : K x ≤ K y
    · have ih := mrg_len K n L (y :: R) (by simp at h ⊢; omega)
      rw [mrg_le hc, List.length_cons, ih]
    · have ih := mrg_len K n (x :: L) R (by simp at h ⊢; omega)
      rw [mrg_gt (by omega), List.length_cons, ih]
def Srt (K : Int → Int) (L : List Int) : Prop := L.Pairwise (fun x y => K x ≤ K y)
theorem mrg_srt (K : Int → Int) : ∀ (n : Nat) (L R : List Int), L.length + R.length = n → Srt K L → Srt K R → Srt K (mrg K L R)
  | _, [], R, _, _, h => by rw [mrg_nil_l]; exact h
  | _, x :: L, [], _, h, _ => by rw [mrg_nil_r]; exact h
  | 0, x :: L, y :: R, h, _, _ => by simp at h
  | n + 1, x :: L, y :: R, h, h1, h2 => by
    have a1 := List.pairwise_cons.1 h1
    have a2 := List.pairwise_cons.1 h2
    by_cases hc : K x ≤ K y
    · have ih := mrg_srt K n L (y :: R) (by simp at h ⊢; omega) a1.2 h2
      rw [mrg_le hc]
      refine List.pairwise_cons.2 ⟨fun z hz => ?_, ih⟩
      rcases (mrg_mem K z _ _ _ rfl).1 hz with h3 | h3
      · exact a1.1 z h3
      · rcases List.mem_cons.1 h3 with rfl | h4
        · exact hc
        · have := a2.1 z h4; omega
    · have ih := mrg_srt K n (x :: L) R (by simp at h ⊢; omega) h1 a2.2
      rw [mrg_gt (by omega)]
      refine List.pairwise_cons.2 ⟨fun z hz => ?_, ih⟩
      rcases (mrg_mem K z _ _ _ rfl).1 hz with h3 | h3
      · rcases List.mem_cons.1 h3 with rfl | h4
        · omega
        · have := a1.1 z h4; omega
      · exact a2.1 z h3
theorem stab_srt (K : Int → Int) : ∀ L : List Int, Srt K (stab K L)
  | [] => List.Pairwise.nil
  | x :: L => mrg_srt K _ _ _ rfl (List.pairwise_singleton _ _) (stab_srt K L)
theorem stab_len (K : Int → Int) : ∀ L : List Int, (stab K L).length = L.length
  | [] => rfl
  | x :: L => by
    show (mrg K [x] (stab K L)).length = _
    rw [mrg_len K _ _ _ rfl, stab_len K L]
    simp only [List.length_cons, List.length_nil]
    omega
theorem stab_mem (K : Int → Int) (z : Int) : ∀ L : List Int, z ∈ stab K L ↔ z ∈ L
  | [] => Iff.rfl
  | x :: L => by
    show z ∈ mrg K [x] (stab K L) ↔ _
    rw [mrg_mem K z _ _ _ rfl, stab_mem K z L]
    simp
theorem Srt.app {K : Int → Int} {A B : List Int} (h : Srt K (A ++ B)) : Srt K A ∧ Srt K B ∧ ∀ x ∈ A, ∀ y ∈ B, K x ≤ K y := List.pairwise_append.1 h
theorem srt_mid {K : Int → Int} {A B : List Int} {y : Int} (h : Srt K (A ++ y :: B)) : (∀ z ∈ A, K z ≤ K y) ∧ (∀ z ∈ B, K y ≤ K z) :=
  ⟨fun z hz => (Srt.app h).2.2 z hz y (by simp), fun z hz => (List.pairwise_cons.1 (Srt.app h).2.1).1 z hz⟩
theorem cut_at {L : List Int} {k : Nat} (h : k < L.length) : ∃ A y B, L = A ++ y :: B ∧ A.length = k :=
  ⟨L.take k, L[k], L.drop (k + 1), by rw [List.getElem_cons_drop, List.take_append_drop], by rw [List.length_take]; omega⟩

end Go.Proofs.Ytonifhkplniblaa.Print

namespace Go.Proofs.Ytonifhkplniblaa.Print
open Go.RowKit Go.Proofs.YtonifhkplniblaaW.PrintWords Go.Proofs.YtonifhkplniblaaW.PrintLast Go.Proofs.YtonifhkplniblaaW.PrintMore
attribute [local go_sem] max2_int min2_int max_two min_two max_three min_three max_four min_four
set_option linter.unusedVariables false
set_option linter.unusedSimpArgs false
open Go.Proofs.Ytonifhkplniblaa.Walk
/-- A simulation, as it is read. -/
def MachR (W : World) (g : Nat) (A : Option Addr) (c : Nat) (jobs : List (S67)) (D : Option Addr) (cd : Nat) (done : List Int) (now : Int) : Prop :=
  W.heap[g]? = some (.cells #[.slice A jobs.length c, .slice D done.length cd, .int .i64 now] 124 (0, 0)) ∧ Kd.C k67 W A jobs.length jobs ∧ Kd.C (Kd.int .i64) W D done.length done ∧ done.length = jobs.length
theorem MachR.drewN {W : World} {g : Nat} {A : Option Addr} {c : Nat} {jobs : List (S67)} {D : Option Addr} {cd : Nat} {done : List Int} {now : Int} (h : MachR W g A c jobs D cd done now) (n : Nat) : MachR (W.drewN n) g A c jobs D cd done now :=
  ⟨blk_drewN h.1 n, Kd.C_drewN h.2.1 n, Kd.C_drewN h.2.2.1 n, h.2.2.2⟩
theorem MachR.below {W W' : World} {g : Nat} {A : Option Addr} {c : Nat} {jobs : List (S67)} {D : Option Addr} {cd : Nat} {done : List Int} {now : Int} (h : MachR W g A c jobs D cd done now) (hb : Below W.heap.size W W') : MachR W' g A c jobs D cd done now :=
  ⟨blk_below h.1 hb, Kd.C_below h.2.1 hb, Kd.C_below h.2.2.1 hb, h.2.2.2⟩
/-- Whether a job is released and unfinished. -/
def rdyB (jobs : List (S67)) (done : List Int) (now : Int) (i : Nat) : Bool := decide ((jobs.getD i z67).f1 ≤ now) && decide (done.getD i 0 < (jobs.getD i z67).f3)
set_option maxHeartbeats 2000000 in
set_option maxRecDepth 100000 in
theorem ready_calls (g : Nat) (A : Option Addr) (c : Nat) (jobs : List (S67)) (D : Option Addr) (cd : Nat) (done : List Int) (now : Int) (i : Nat) (hi : i < jobs.length) (w : World) (h : MachR w g A c jobs D cd done now) :
    Calls Try.prog 110 #[.pointer (some ⟨g, 0, none⟩), .int .i64 (i : Int)] w fun e w' => e = .returned (.bool (rdyB jobs done now i)) ∧ ∃ m, w' = w.drewN m := by
  obtain ⟨hb, hj, hd, hl⟩ := h
  have hm0 : w.cell? ⟨g, 0, none⟩ = some (.slice A jobs.length c) := (blk_cell hb 0).trans rfl
  have hm1 : w.cell? ⟨g, 1, none⟩ = some (.slice D done.length cd) := (blk_cell hb 1).trans rfl
  have hm2 : w.cell? ⟨g, 2, none⟩ = some (.int .i64 now) := (blk_cell hb 2).trans rfl
  obtain ⟨ad0, e0, hy0, hy1, hy2, hy3⟩ := at_T67 hj (i : Int) (by omega) (by omega)
  cases e0
  obtain ⟨ad1, e1, hx0⟩ := Kd.at_int hd (i : Int) (by omega) (by omega)
  cases e1
  simp only [Int.toNat_natCast] at hy0 hy1 hy2 hy3 hx0
  have hrd : rd_T67 jobs (i : Int) = jobs.getD i z67 := rfl
  have hrd1 : rd done (i : Int) = done.getD i 0 := rfl
  rw [hrd] at hy0 hy1 hy2 hy3
  rw [hrd1] at hx0
  have hu := Try.underlying124
  have huJ := Try.underlying67
  have q0 : 0 ≤ (i : Int) := by omega
  have q1 : (i : Int) < (jobs.length : Int) := by omega
  have q2 : (i : Int) < (done.length : Int) := by omega
  unfold rdyB
  obtain ⟨y, hy⟩ : ∃ y, y = jobs.getD i z67 := ⟨_, rfl⟩
  rw [← hy] at hy0 hy1 hy2 hy3 ⊢
  obtain ⟨x, hx⟩ : ∃ x, x = done.getD i 0 := ⟨_, rfl⟩
  rw [← hx] at hx0 ⊢
  clear hrd hrd1 hy hx hb hj hd hl
  obtain ⟨ya, yb, yc, yd⟩ := y
  simp only at hy0 hy1 hy2 hy3 ⊢
  by_cases d1 : yb ≤ now
  · have d1b : decide (yb ≤ now) = true := decide_eq_true d1
    rw [d1b]
    clear d1
    go_enter Try.func110, Try.ntmps110
    go_wp2_with fail
    go_quiet (fail)
    go_wp2
    go_ret
    exact ⟨by simp, _, rfl⟩
  · have d1b : decide (yb ≤ now) = false := decide_eq_false d1
    rw [d1b]
    clear d1
    go_enter Try.func110, Try.ntmps110
    go_wp2_with fail
    go_quiet (fail)
    go_wp2
    go_ret
    exact ⟨by simp, _, rfl⟩
/-- The first of the candidates with the least key, among the first. -/
def bestN (ok : Nat → Bool) (key : Nat → Int) : Nat → Int
  | 0 => -1
  | j + 1 => if ok j && (decide (bestN ok key j < 0) || decide (key j < key (bestN ok key j).toNat)) then (j : Int) else bestN ok key j
theorem bestN_in (ok : Nat → Bool) (key : Nat → Int) : ∀ j, -1 ≤ bestN ok key j ∧ bestN ok key j < j
  | 0 => by simp [bestN]
  | j + 1 => by
    have := bestN_in ok key j
    unfold bestN
    split <;> omega
theorem bestN_ok (ok : Nat → Bool) (key : Nat → Int) : ∀ j, 0 ≤ bestN ok key j → ok (bestN ok key j).toNat = true
  | 0, h => by simp [bestN] at h
  | j + 1, h => by
    have ih := bestN_ok ok key j
    unfold bestN at h ⊢
    split
    · rename_i g
      rw [Bool.and_eq_true] at g
      simpa using g.1
    · rename_i g
      rw [if_neg g] at h
      exact ih h
/-- The deadline of the job of a number. -/
def keyJ (l : List (S67)) (i : Int) : Int := (l.getD i.toNat z67).f2
theorem mem_takeL {L : List Int} {k : Nat} {x : Int} (h : x ∈ L.take k) : ∃ i, i < k ∧ i < L.length ∧ L.getD i 0 = x := by
  obtain ⟨i, hi, e⟩ := List.mem_iff_getElem.1 h
  rw [List.length_take] at hi
  refine ⟨i, by omega, by omega, ?_⟩
  rw [List.getElem_take] at e
  rw [List.getD_eq_getElem?_getD, List.getElem?_eq_getElem (by omega), ← e]
  rfl
/-- The jobs that are ready, among the first. -/
def readyL (jobs : List (S67)) (done : List Int) (t : Int) (j : Nat) : List Int := ((List.range j).filter (rdyB jobs done t)).map (fun (i : Nat) => (i : Int))
theorem readyL_succ (jobs : List (S67)) (done : List Int) (t : Int) (j : Nat) : readyL jobs done t (j + 1) = if rdyB jobs done t j = true then readyL jobs done t j ++ [(j : Int)] else readyL jobs done t j := by
  unfold readyL
  rw [List.range_succ, List.filter_append, List.map_append]
  split
  · rename_i h; simp [h]
  · rename_i h; simp [h]
theorem readyL_len (jobs : List (S67)) (done : List Int) (t : Int) (j : Nat) : (readyL jobs done t j).length ≤ j := by
  unfold readyL
  rw [List.length_map]
  refine Nat.le_trans (List.length_filter_le _ _) ?_
  simp
theorem readyL_in {jobs : List (S67)} {done : List Int} {t : Int} {x : Int} (h : x ∈ readyL jobs done t jobs.length) : 0 ≤ x ∧ x < jobs.length := by
  unfold readyL at h
  obtain ⟨i, hi, rfl⟩ := List.mem_map.1 h
  have := List.mem_range.1 (List.mem_filter.1 hi).1
  omega
/-- One job runs one tick. -/
def gJob (jobs : List (S67)) (t : Nat) (x : List Int × List Int) (i : Int) : List Int × List Int :=
  (x.1.set i.toNat (wrap64 (x.1.getD i.toNat 0 + 1)), if wrap64 (x.1.getD i.toNat 0 + 1) = (jobs.getD i.toNat z67).f3 then x.2.set i.toNat ((t : Int) + 1) else x.2)
/-- The jobs of a tick. -/
def takeG (jobs : List (S67)) (cores : Nat) (done : List Int) (t : Nat) : List Int := (stab (keyJ jobs) (readyL jobs done t jobs.length)).take cores
def gN (jobs : List (S67)) (cores : Nat) : Nat → List Int × List Int
  | 0 => (List.replicate jobs.length 0, List.replicate jobs.length (-1))
  | t + 1 => (takeG jobs cores (gN jobs cores t).1 t).foldl (gJob jobs t) (gN jobs cores t)
theorem gJob_len {jobs : List (S67)} {t : Nat} {n : Nat} : ∀ (l : List Int) (x : List Int × List Int), x.1.length = n → x.2.length = n → (l.foldl (gJob jobs t) x).1.length = n ∧ (l.foldl (gJob jobs t) x).2.length = n
  | [], x, h1, h2 => ⟨h1, h2⟩
  | i :: r, x, h1, h2 => by
    rw [List.foldl_cons]
    refine gJob_len r _ ?_ ?_
    · unfold gJob; simpa using h1
    · unfold gJob; simp only; split <;> simpa using h2
theorem gN_len {jobs : List (S67)} {cores : Nat} : ∀ t, (gN jobs cores t).1.length = jobs.length ∧ (gN jobs cores t).2.length = jobs.length
  | 0 => by simp [gN]
  | t + 1 => by
    have := gN_len (jobs := jobs) (cores := cores) t
    exact gJob_len _ _ this.1 this.2
theorem fold_take {α β : Type} (f : α → β → α) (d : β) : ∀ (xs : List β) (j : Nat) (s : α), j < xs.length → (xs.take (j + 1)).foldl f s = f ((xs.take j).foldl f s) (xs.getD j d) := by
  intro xs j s h
  rw [List.take_add_one, List.foldl_append, List.getD_eq_getElem?_getD, List.getElem?_eq_getElem h]
  rfl
theorem takeG_in {jobs : List (S67)} {cores : Nat} {done : List Int} {t : Nat} {j : Nat} (h : j < (takeG jobs cores done t).length) : 0 ≤ (takeG jobs cores done t).getD j 0 ∧ (takeG jobs cores done t).getD j 0 < jobs.length := by
  rw [List.getD_eq_getElem?_getD, List.getElem?_eq_getElem h]
  exact readyL_in ((stab_mem _ _ _).1 (List.mem_of_mem_take (List.getElem_mem h)))
/-- The rows of a run. -/
def gR (jobs : List (S67)) (cores : Nat) : Nat → List (List Int)
  | 0 => List.replicate 120 []
  | t + 1 => (gR jobs cores t).set t (takeG jobs cores (gN jobs cores t).1 t)
theorem gR_len (jobs : List (S67)) (cores : Nat) : ∀ t, (gR jobs cores t).length = 120
  | 0 => by simp [gR]
  | t + 1 => by unfold gR; rw [List.length_set]; exact gR_len jobs cores t
/-- Sorted by key, ties by number. -/
def LexS (K : Int → Int) (L : List Int) : Prop := L.Pairwise (fun x y => K x < K y ∨ (K x = K y ∧ x < y))
theorem mrg_lex (K : Int → Int) : ∀ (n : Nat) (L R : List Int), L.length + R.length = n → LexS K L → LexS K R → (∀ x ∈ L, ∀ y ∈ R, x < y) → LexS K (mrg K L R)
  | _, [], R, _, _, h, _ => by rw [mrg_nil_l]; exact h
  | _, x :: L, [], _, h, _, _ => by rw [mrg_nil_r]; exact h
  | 0, x :: L, y :: R, h, _, _, _ => by simp at h
  | n + 1, x :: L, y :: R, h, h1, h2, h3 => by
    have a1 := List.pairwise_cons.1 h1
    have a2 := List.pairwise_cons.1 h2
    by_cases hc : K x ≤ K y
    · have ih := mrg_lex K n L (y :: R) (by simp at h ⊢; omega) a1.2 h2 (fun a ha b hb => h3 a (List.mem_cons_of_mem _ ha) b hb)
      rw [mrg_le hc]
      refine List.pairwise_cons.2 ⟨fun z hz => ?_, ih⟩
      rcases (mrg_mem K z _ _ _ rfl).1 hz with h4 | h4
      · exact a1.1 z h4
      · have hxz := h3 x (by simp) z h4
        rcases List.mem_cons.1 h4 with rfl | h5
        · omega
        · have := a2.1 z h5; omega
    · have ih := mrg_lex K n (x :: L) R (by simp at h ⊢; omega) h1 a2.2 (fun a ha b hb => h3 a ha b (List.mem_cons_of_mem _ hb))
      rw [mrg_gt (by omega)]
      refine List.pairwise_cons.2 ⟨fun z hz => ?_, ih⟩
      rcases (mrg_mem K z _ _ _ rfl).1 hz with h4 | h4
      · rcases List.mem_cons.1 h4 with rfl | h5
        · omega
        · have := a1.1 z h5; omega
      · exact a2.1 z h4
theorem stab_lex (K : Int → Int) : ∀ L : List Int, L.Pairwise (· < ·) → LexS K (stab K L)
  | [], _ => List.Pairwise.nil
  | x :: L, h => by
    have a := List.pairwise_cons.1 h
    exact mrg_lex K _ _ _ rfl (List.pairwise_singleton _ _) (stab_lex K L a.2) (fun u hu y hy => by
      rw [List.mem_singleton.1 hu]
      exact a.1 y ((stab_mem K y L).1 hy))
theorem readyL_asc (jobs : List (S67)) (done : List Int) (t : Int) (j : Nat) : (readyL jobs done t j).Pairwise (· < ·) := by
  unfold readyL
  rw [List.pairwise_map]
  exact (List.Pairwise.filter _ (List.pairwise_lt_range)).imp (fun h => by omega)
theorem mem_readyL {jobs : List (S67)} {done : List Int} {t : Int} {i n : Nat} : (i : Int) ∈ readyL jobs done t n ↔ i < n ∧ rdyB jobs done t i = true := by
  unfold readyL
  constructor
  · intro h
    obtain ⟨q, hq, e⟩ := List.mem_map.1 h
    have h2 := List.mem_filter.1 hq
    have : q = i := by omega
    subst this
    exact ⟨List.mem_range.1 h2.1, h2.2⟩
  · rintro ⟨h1, h2⟩
    exact List.mem_map.2 ⟨i, List.mem_filter.2 ⟨List.mem_range.2 h1, h2⟩, rfl⟩
theorem bestN_none {ok : Nat → Bool} {key : Nat → Int} : ∀ n, (∀ j, j < n → ok j = false) → bestN ok key n = -1
  | 0, _ => rfl
  | n + 1, h => by
    unfold bestN
    rw [bestN_none n (fun j hj => h j (by omega)), h n (by omega)]
    simp
theorem bestN_min {ok : Nat → Bool} {key : Nat → Int} : ∀ n j, j < n → ok j = true → 0 ≤ bestN ok key n ∧ (key (bestN ok key n).toNat < key j ∨ (key (bestN ok key n).toNat = key j ∧ (bestN ok key n).toNat ≤ j))
  | 0, _, h, _ => by omega
  | n + 1, j, h, hj => by
    have hin := bestN_in ok key n
    unfold bestN
    by_cases hjn : j < n
    · obtain ⟨h0, h1⟩ := bestN_min (key := key) n j hjn hj
      by_cases hc : (ok n && (decide (bestN ok key n < 0) || decide (key n < key (bestN ok key n).toNat))) = true
      · rw [if_pos hc]
        rw [Bool.and_eq_true, Bool.or_eq_true, decide_eq_true_eq, decide_eq_true_eq] at hc
        rw [Int.toNat_natCast]
        omega
      · rw [if_neg hc]
        exact ⟨h0, h1⟩
    · obtain rfl : j = n := by omega
      by_cases hc : (ok j && (decide (bestN ok key j < 0) || decide (key j < key (bestN ok key j).toNat))) = true
      · rw [if_pos hc, Int.toNat_natCast]
        omega
      · rw [if_neg hc]
        rw [hj, Bool.true_and, Bool.or_eq_true, decide_eq_true_eq, decide_eq_true_eq] at hc
        omega
theorem bestN_eq {ok : Nat → Bool} {key : Nat → Int} {n m : Nat} (hm : m < n) (hok : ok m = true) (h : ∀ j, j < n → ok j = true → j = m ∨ key m < key j ∨ (key m = key j ∧ m < j)) : bestN ok key n = (m : Int) := by
  have h1 := bestN_min n m hm hok (key := key)
  have hin := bestN_in ok key n
  have h2 := bestN_ok ok key n h1.1
  rcases h (bestN ok key n).toNat (by omega) h2 with e | e | e
  · omega
  · omega
  · omega
/-- The best of the ready jobs that are not among the first r of the sorted ones. -/
theorem best_pick (jobs : List (S67)) (done : List Int) (t : Int) (r : Nat) :
    bestN (fun i => rdyB jobs done t i && !decide ((i : Int) ∈ (stab (keyJ jobs) (readyL jobs done t jobs.length)).take r)) (fun i => keyJ jobs (i : Int)) jobs.length =
      if h : r < (stab (keyJ jobs) (readyL jobs done t jobs.length)).length then (stab (keyJ jobs) (readyL jobs done t jobs.length))[r] else -1 := by
  have hlex := stab_lex (keyJ jobs) _ (readyL_asc jobs done t jobs.length)
  have hmem : ∀ z, z ∈ stab (keyJ jobs) (readyL jobs done t jobs.length) ↔ z ∈ readyL jobs done t jobs.length := fun z => stab_mem _ z _
  obtain ⟨S, hS⟩ : ∃ S, S = stab (keyJ jobs) (readyL jobs done t jobs.length) := ⟨_, rfl⟩
  rw [← hS] at hlex hmem ⊢
  have hpw := List.pairwise_iff_getElem.1 hlex
  split
  · rename_i hr
    have h1 := (hmem S[r]).1 (List.getElem_mem hr)
    have h2 := readyL_in h1
    obtain ⟨m, hm⟩ : ∃ m : Nat, S[r] = (m : Int) := ⟨S[r].toNat, by omega⟩
    rw [hm] at h1 ⊢
    have h3 := mem_readyL.1 h1
    refine bestN_eq h3.1 ?_ ?_
    · rw [h3.2, Bool.true_and, Bool.not_eq_true', decide_eq_false_iff_not]
      intro hin
      obtain ⟨i, hi1, hi2, he⟩ := mem_takeL hin
      have := hpw i r hi2 hr hi1
      rw [List.getD_eq_getElem?_getD, List.getElem?_eq_getElem hi2, Option.getD_some] at he
      rw [he, hm] at this
      omega
    · intro j hj hok
      rw [Bool.and_eq_true, Bool.not_eq_true', decide_eq_false_iff_not] at hok
      have hjS := (hmem (j : Int)).2 (mem_readyL.2 ⟨hj, hok.1⟩)
      obtain ⟨q, hq, he⟩ := List.mem_iff_getElem.1 hjS
      rcases Nat.lt_or_ge q r with hqr | hqr
      · exfalso
        apply hok.2
        rw [← he]
        exact List.mem_take_iff_getElem.2 ⟨q, by omega, rfl⟩
      · rcases Nat.eq_or_lt_of_le hqr with rfl | hlt
        · left; omega
        · right
          have := hpw r q hr hq hlt
          rw [he, hm] at this
          omega
  · rename_i hr
    refine bestN_none _ (fun j hj => ?_)
    by_cases hk : rdyB jobs done t j = true
    · have hjS := (hmem (j : Int)).2 (mem_readyL.2 ⟨hj, hk⟩)
      rw [hk, Bool.true_and, Bool.not_eq_false', decide_eq_true_eq, List.take_of_length_le (by omega)]
      exact hjS
    · rw [Bool.not_eq_true] at hk
      rw [hk, Bool.false_and]

end Go.Proofs.Ytonifhkplniblaa.Print

namespace Go.Proofs.Ytonifhkplniblaa.Print
open Go.RowKit Go.Proofs.YtonifhkplniblaaW.PrintWords Go.Proofs.YtonifhkplniblaaW.PrintMore Go.Proofs.Ytonifhkplniblaa.Evs Go.Proofs.Ytonifhkplniblaa.Opens Go.Proofs.Ytonifhkplniblaa.Walk
set_option linter.unusedSimpArgs false
set_option linter.unusedVariables false
theorem rd_lstG (o : List Int) (j : Nat) : rd o (j : Int) = o.getD j 0 := rfl
theorem indexG_ev (o : List Int) (v : Int) (hl : o.length ≤ 1048576) : Tl (fun k => spec_l4Index.f k o v) (idx o v) := by
  unfold spec_l4Index.f idx
  have key := down (Q := fun j => Tl (fun k => spec_l4Index.l0 k o v (j : Int)) (idxN o v (o.length - j) j)) o.length ?_ ?_
  · simpa using key
  · refine Tl.step ?_
    simp only [spec_l4Index.l0]
    rw [Nat.sub_self]
    exact Tl.iteF (by omega) (Tl.ret _)
  · intro j hj h
    refine Tl.step ?_
    simp only [spec_l4Index.l0]
    rw [wrap_succ hj (by omega), rd_lstG]
    obtain ⟨n, hn⟩ : ∃ n, o.length - j = n + 1 := ⟨o.length - j - 1, by omega⟩
    rw [show o.length - (j + 1) = n by omega] at h
    rw [hn]
    unfold idxN
    refine Tl.iteT (by omega) (Tl.iteT (by omega) ?_)
    by_cases hc : o.getD j 0 = v
    · rw [if_pos hc]; exact Tl.iteT hc (Tl.ret _)
    · rw [if_neg hc]; exact Tl.iteF hc h
theorem idx_negG (o : List Int) (v : Int) : idx o v < 0 ↔ v ∉ o := by
  rcases idx_spec o v with ⟨h1, h2⟩ | ⟨i, hi, h1, h2, _⟩
  · rw [h1]
    refine ⟨fun _ hm => ?_, fun _ => by omega⟩
    obtain ⟨i, hi, e⟩ := List.mem_iff_getElem.1 hm
    apply h2 i hi
    rw [List.getD_eq_getElem?_getD, List.getElem?_eq_getElem hi, ← e]
    rfl
  · rw [h1]
    refine ⟨fun h => by omega, fun h => ?_⟩
    exfalso
    apply h
    rw [List.getD_eq_getElem?_getD, List.getElem?_eq_getElem hi] at h2
    rw [← h2]
    exact List.getElem_mem hi
theorem pick1_ev (l : List S67) (left out done : List Int) (now : Int) (cores : Int) {R : List Int} (hn : l.length ≤ 60) (hl : left.length = l.length) (ho : out.length ≤ 1000) (hrd : ∀ i, i < l.length → rdyB l done now i = (decide ((jb l i).f1 ≤ now) && decide (left.getD i 0 > 0)))
    (hend : Tl (fun k => if bestN (fun i => rdyB l done now i && !decide ((i : Int) ∈ out)) (fun i => keyJ l (i : Int)) l.length < 0 then some out else (if out.length < 17592186044416 then spec_l14Pick.l0 k l left now cores (out ++ [bestN (fun i => rdyB l done now i && !decide ((i : Int) ∈ out)) (fun i => keyJ l (i : Int)) l.length]) else none)) R) :
    Tl (fun k => spec_l14Pick.l1 k l left now cores out (-1) 0) R := by
  obtain ⟨B, hB⟩ : ∃ B, B = bestN (fun i => rdyB l done now i && !decide ((i : Int) ∈ out)) (fun i => keyJ l (i : Int)) := ⟨_, rfl⟩
  rw [← hB] at hend
  have hin : ∀ j, -1 ≤ B j ∧ B j < j := by rw [hB]; exact bestN_in _ _
  have hst : ∀ j, B (j + 1) = if (rdyB l done now j && !decide ((j : Int) ∈ out)) && (decide (B j < 0) || decide (keyJ l (j : Int) < keyJ l ((B j).toNat : Int))) then (j : Int) else B j := fun j => by rw [hB]; rfl
  have h0 : B 0 = -1 := by rw [hB]; rfl
  have key := down (Q := fun j => Tl (fun k => spec_l14Pick.l1 k l left now cores out (B j) (j : Int)) R) l.length ?_ ?_
  · rw [h0] at key; exact key
  · refine Tl.step ?_
    simp only [spec_l14Pick.l1]
    exact Tl.iteF (by omega) hend
  · intro j hj h
    have hb := hin j
    have hs := hst j
    rw [hrd j hj] at hs
    have hix := indexG_ev out (j : Int) (by omega)
    have hneg := idx_negG out (j : Int)
    refine Tl.step ?_
    simp only [spec_l14Pick.l1]
    rw [wrap_succ (j := j) (n := l.length) (by omega) (by omega), rd_jb, rd_lstG]
    refine Tl.iteT (by omega) (Tl.iteT (by omega) ?_)
    have k1 : keyJ l (j : Int) = (jb l j).f2 := rfl
    by_cases c1 : (jb l j).f1 ≤ now
    · refine Tl.iteT c1 (Tl.iteT (by omega) ?_)
      by_cases c2 : left.getD j 0 > 0
      · refine Tl.iteT c2 (Tl.bind hix ?_)
        by_cases c3 : (j : Int) ∈ out
        · rw [if_neg (by rw [decide_eq_true c3]; simp)] at hs
          rw [hs] at h
          exact Tl.iteF (by rw [hneg]; exact fun hh => hh c3) h
        · refine Tl.iteT (hneg.2 c3) ?_
          by_cases c4 : B j < 0
          · rw [if_pos (by simp only [decide_eq_true c1, decide_eq_true c2, decide_eq_false c3, decide_eq_true c4]; rfl)] at hs
            rw [hs] at h
            exact Tl.iteT c4 h
          · refine Tl.iteF c4 (Tl.iteT (by omega) (Tl.iteT (by omega) ?_))
            have k2 : keyJ l ((B j).toNat : Int) = (rd_T67 l (B j)).f2 := rfl
            rw [k1, k2] at hs
            by_cases c5 : (jb l j).f2 < (rd_T67 l (B j)).f2
            · rw [if_pos (by simp only [decide_eq_true c1, decide_eq_true c2, decide_eq_false c3, decide_eq_true c5]; simp)] at hs
              rw [hs] at h
              exact Tl.iteT c5 h
            · rw [if_neg (by simp only [decide_eq_false c4, decide_eq_false c5]; simp)] at hs
              rw [hs] at h
              exact Tl.iteF c5 h
      · rw [if_neg (by simp only [decide_eq_false c2]; simp)] at hs
        rw [hs] at h
        exact Tl.iteF c2 h
    · rw [if_neg (by simp only [decide_eq_false c1]; simp)] at hs
      rw [hs] at h
      exact Tl.iteF c1 h
theorem pick0_ev (l : List S67) (left done : List Int) (t cores : Nat) (hn : l.length ≤ 60) (hl : left.length = l.length) (hrd : ∀ i, i < l.length → rdyB l done t i = (decide ((jb l i).f1 ≤ (t : Int)) && decide (left.getD i 0 > 0))) :
    ∀ d r, r + d = cores → r ≤ (stab (keyJ l) (readyL l done t l.length)).length → Tl (fun k => spec_l14Pick.l0 k l left t cores ((stab (keyJ l) (readyL l done t l.length)).take r)) (takeG l cores done t)
  | 0, r, h, hr => by
    obtain rfl : r = cores := by omega
    refine Tl.step ?_
    simp only [spec_l14Pick.l0]
    refine Tl.iteF (by rw [List.length_take]; omega) ?_
    exact Tl.ret _
  | d + 1, r, h, hr => by
    have ih := fun h2 => pick0_ev l left done t cores hn hl hrd d (r + 1) (by omega) h2
    have hbp := best_pick l done (t : Int) r
    have hrl : (readyL l done t l.length).length ≤ 60 := Nat.le_trans (readyL_len l done t l.length) hn
    have hsl := stab_len (keyJ l) (readyL l done t l.length)
    have htk : takeG l cores done t = (stab (keyJ l) (readyL l done t l.length)).take cores := rfl
    have hmem : ∀ z, z ∈ stab (keyJ l) (readyL l done t l.length) → 0 ≤ z := fun z hz => (readyL_in ((stab_mem _ z _).1 hz)).1
    obtain ⟨S, hS⟩ : ∃ S, S = stab (keyJ l) (readyL l done t l.length) := ⟨_, rfl⟩
    rw [← hS] at hbp hr hsl htk ih hmem ⊢
    refine Tl.step ?_
    simp only [spec_l14Pick.l0]
    refine Tl.iteT (by rw [List.length_take]; omega) (pick1_ev l left (S.take r) done t cores hn hl (by rw [List.length_take]; omega) hrd ?_)
    rw [hbp]
    by_cases hlt : r < S.length
    · rw [dif_pos hlt]
      have h0 := hmem S[r] (List.getElem_mem hlt)
      have e : S.take r ++ [S[r]] = S.take (r + 1) := by rw [List.take_add_one, List.getElem?_eq_getElem hlt]; rfl
      rw [e]
      exact Tl.iteF (by omega) (Tl.iteT (by rw [List.length_take]; omega) (ih (by omega)))
    · rw [dif_neg hlt]
      refine Tl.iteT (by omega) (Tl.cast (Tl.ret _) ?_)
      rw [htk, List.take_of_length_le (by omega), List.take_of_length_le (by omega)]
theorem spec_pick_ev (l : List S67) (left done : List Int) (t cores : Nat) (hn : l.length ≤ 60) (hl : left.length = l.length) (hrd : ∀ i, i < l.length → rdyB l done t i = (decide ((jb l i).f1 ≤ (t : Int)) && decide (left.getD i 0 > 0))) :
    Tl (fun k => spec_l14Pick.f k l left t cores) (takeG l cores done t) := by
  unfold spec_l14Pick.f
  have := pick0_ev l left done t cores hn hl hrd cores 0 (by omega) (Nat.zero_le _)
  simpa using this

theorem getD_setG (l : List Int) (i j : Nat) (x : Int) : (l.set i x).getD j 0 = if i = j ∧ j < l.length then x else l.getD j 0 := by
  rw [List.getD_eq_getElem?_getD, List.getD_eq_getElem?_getD, List.getElem?_set]
  split
  · rename_i e
    split
    · rename_i h; rw [if_pos ⟨e, by omega⟩]; rfl
    · rename_i h; rw [if_neg (by omega), List.getElem?_eq_none (by omega)]
  · rename_i e; rw [if_neg (by omega)]
/-- What is left of each job. -/
def leftG (jobs : List S67) (done : List Int) : List Int := (List.range jobs.length).map (fun i => (jb jobs i).f3 - done.getD i 0)
theorem leftG_len (jobs : List S67) (done : List Int) : (leftG jobs done).length = jobs.length := by simp [leftG]
theorem leftG_at (jobs : List S67) (done : List Int) {i : Nat} (h : i < jobs.length) : (leftG jobs done).getD i 0 = (jb jobs i).f3 - done.getD i 0 := by
  unfold leftG
  rw [List.getD_eq_getElem?_getD, List.getElem?_map, List.getElem?_range h]
  rfl
theorem leftG_set (jobs : List S67) (done : List Int) (hl : done.length = jobs.length) {n : Nat} (h : n < jobs.length) : (leftG jobs done).set n ((jb jobs n).f3 - done.getD n 0 - 1) = leftG jobs (done.set n (done.getD n 0 + 1)) := by
  apply List.ext_getElem?
  intro i
  by_cases hi : i < jobs.length
  · rw [List.getElem?_set]
    have e2 := leftG_at jobs (done.set n (done.getD n 0 + 1)) hi
    have e1 := leftG_at jobs done hi
    rw [List.getD_eq_getElem?_getD] at e1 e2
    have h1 : i < (leftG jobs done).length := by rw [leftG_len]; exact hi
    have h2 : i < (leftG jobs (done.set n (done.getD n 0 + 1))).length := by rw [leftG_len]; exact hi
    rw [List.getElem?_eq_getElem h1] at e1 ⊢
    rw [List.getElem?_eq_getElem h2] at e2 ⊢
    simp only [Option.getD_some] at e1 e2
    rw [e2, getD_setG]
    by_cases e : n = i
    · subst e
      rw [if_pos rfl, if_pos h1, if_pos ⟨rfl, by omega⟩]
      congr 1
      omega
    · rw [if_neg e, if_neg (by omega), e1]
  · rw [List.getElem?_eq_none (by rw [List.length_set, leftG_len]; omega), List.getElem?_eq_none (by rw [leftG_len]; omega)]
/-- Behind the first jobs of a tick. -/
def tkS (l : List S67) (t : Nat) (T done fin : List Int) (j : Nat) : List Int × List Int := (T.take j).foldl (gJob l t) (done, fin)
theorem tkS_succ (l : List S67) (t : Nat) (T done fin : List Int) (j : Nat) (h : j < T.length) : tkS l t T done fin (j + 1) = gJob l t (tkS l t T done fin j) (T.getD j 0) := fold_take _ _ _ _ _ h
/-- What a tick's jobs are. -/
structure TickOk (l : List S67) (T done : List Int) : Prop where
  inn : ∀ j, j < T.length → 0 ≤ T.getD j 0 ∧ T.getD j 0 < l.length ∧ done.getD (T.getD j 0).toNat 0 < (jb l (T.getD j 0).toNat).f3
  ne : ∀ i j, i < j → j < T.length → T.getD i 0 ≠ T.getD j 0
  bd : ∀ i, i < l.length → 0 ≤ done.getD i 0 ∧ done.getD i 0 ≤ (jb l i).f3 ∧ (jb l i).f3 ≤ 8
theorem tk_inv {l : List S67} {t : Nat} {T done fin : List Int} (h : TickOk l T done) (hd : done.length = l.length) (hf : fin.length = l.length) : ∀ j, j ≤ T.length →
    ((tkS l t T done fin j).1.length = l.length ∧ (tkS l t T done fin j).2.length = l.length) ∧ (∀ i, i < l.length → 0 ≤ (tkS l t T done fin j).1.getD i 0 ∧ (tkS l t T done fin j).1.getD i 0 ≤ (jb l i).f3) ∧ ∀ q, j ≤ q → q < T.length → (tkS l t T done fin j).1.getD (T.getD q 0).toNat 0 = done.getD (T.getD q 0).toNat 0
  | 0, _ => ⟨⟨hd, hf⟩, fun i hi => by have := h.bd i hi; exact ⟨this.1, this.2.1⟩, fun q _ _ => rfl⟩
  | j + 1, hj => by
    obtain ⟨⟨a1, a2⟩, a3, a4⟩ := tk_inv (t := t) h hd hf j (by omega)
    have e := tkS_succ l t T done fin j (by omega)
    have hi := h.inn j (by omega)
    have h4 := a4 j (Nat.le_refl _) (by omega)
    obtain ⟨X, hX⟩ : ∃ X, X = tkS l t T done fin j := ⟨_, rfl⟩
    rw [← hX] at a1 a2 a3 a4 e h4
    have hb := a3 (T.getD j 0).toNat (by omega)
    have h8 := (h.bd (T.getD j 0).toNat (by omega)).2.2
    have hw : wrap64 (X.1.getD (T.getD j 0).toNat 0 + 1) = X.1.getD (T.getD j 0).toNat 0 + 1 := wrap_id (by omega) (by omega)
    have e1 : (tkS l t T done fin (j + 1)).1 = X.1.set (T.getD j 0).toNat (X.1.getD (T.getD j 0).toNat 0 + 1) := by rw [e]; unfold gJob; rw [hw]
    refine ⟨⟨by rw [e1, List.length_set, a1], ?_⟩, fun i hi2 => ?_, fun q hq hqT => ?_⟩
    · rw [e]; unfold gJob; simp only; split <;> simp [a2]
    · rw [e1, getD_setG]
      split
      · rename_i hc
        rw [← hc.1]
        omega
      · exact a3 i hi2
    · have hne := h.ne j q (by omega) hqT
      have hiq := h.inn q hqT
      rw [e1, getD_setG, if_neg (by omega)]
      exact a4 q (by omega) hqT
/-- The reference's tick. -/
theorem tick_ev {l : List S67} {t : Nat} {cores : Int} {T done fin : List Int} {rows : List (List Int)} {R : List (List Int) × List Int} (h : TickOk l T done) (hd : done.length = l.length) (hf : fin.length = l.length) (hn : l.length ≤ 60) (hT : T.length ≤ 60) (ht : t < 120) (hrw : rows.length ≤ 1000)
    (hend : Tl (fun k => spec_RunGlobal.l1 k l cores (leftG l (tkS l t T done fin T.length).1) ((t + 1 : Nat) : Int) (rows ++ [T]) (tkS l t T done fin T.length).2) R) :
    Tl (fun k => spec_RunGlobal.l2 k l cores (leftG l done) (t : Int) T 0 rows fin) R := by
  have key := down (Q := fun j => Tl (fun k => spec_RunGlobal.l2 k l cores (leftG l (tkS l t T done fin j).1) (t : Int) T (j : Int) rows (tkS l t T done fin j).2) R) T.length ?_ ?_
  · exact key
  · refine Tl.step ?_
    simp only [spec_RunGlobal.l2]
    rw [wrap_succ (j := t) (n := 120) ht (by omega)]
    exact Tl.iteF (by omega) (Tl.iteT (by omega) hend)
  · intro j hj hh
    obtain ⟨⟨a1, a2⟩, a3, a4⟩ := tk_inv (t := t) h hd hf j (by omega)
    have e := tkS_succ l t T done fin j hj
    have hi := h.inn j hj
    have h4 := a4 j (Nat.le_refl _) hj
    rw [e] at hh
    obtain ⟨X, hX⟩ : ∃ X, X = tkS l t T done fin j := ⟨_, rfl⟩
    rw [← hX] at a1 a2 a3 a4 hh h4 ⊢
    obtain ⟨n, hn'⟩ : ∃ n : Nat, T.getD j 0 = (n : Int) := ⟨(T.getD j 0).toNat, by omega⟩
    rw [hn'] at hi h4 hh
    simp only [Int.toNat_natCast] at hi h4
    have hnl : n < l.length := by omega
    have hb := a3 n hnl
    have h8 := (h.bd n hnl).2.2
    have hw : wrap64 (X.1.getD n 0 + 1) = X.1.getD n 0 + 1 := wrap_id (by omega) (by omega)
    unfold gJob at hh
    simp only [Int.toNat_natCast] at hh
    rw [hw] at hh
    have hgj : l.getD n z67 = jb l n := rfl
    rw [hgj] at hh
    refine Tl.step ?_
    simp only [spec_RunGlobal.l2]
    have hrt : rd T (j : Int) = (n : Int) := hn'
    rw [hrt, wrap_succ (j := j) (n := T.length) hj (by omega), wrap_succ (j := t) (n := 120) ht (by omega)]
    refine Tl.iteT (by omega) (Tl.iteT (by omega) (Tl.iteT (by omega) (Tl.iteT (by rw [leftG_len]; omega) ?_)))
    simp only [Option.bind_some, Int.toNat_natCast]
    rw [rd_lstG (leftG l X.1) n, leftG_at l X.1 hnl, wrap_id (n := (jb l n).f3 - X.1.getD n 0 - 1) (by omega) (by omega), leftG_set l X.1 a1 hnl, rd_lstG, leftG_at l _ hnl, getD_setG, if_pos ⟨rfl, by omega⟩]
    by_cases he : X.1.getD n 0 + 1 = (jb l n).f3
    · rw [if_pos he] at hh
      exact Tl.iteT (by omega) (Tl.iteT (by omega) hh)
    · rw [if_neg he] at hh
      exact Tl.iteF (by omega) hh
theorem take_ok {l : List S67} {done : List Int} {t cores : Nat} (hbd : ∀ i, i < l.length → 0 ≤ done.getD i 0 ∧ done.getD i 0 ≤ (jb l i).f3 ∧ (jb l i).f3 ≤ 8) : TickOk l (takeG l cores done t) done where
  bd := hbd
  inn := fun j hj => by
    have h1 := takeG_in hj
    rw [List.getD_eq_getElem?_getD, List.getElem?_eq_getElem hj, Option.getD_some] at h1 ⊢
    have hm : (takeG l cores done t)[j] ∈ stab (keyJ l) (readyL l done t l.length) := List.mem_of_mem_take (List.getElem_mem hj)
    have h2 := (stab_mem _ _ _).1 hm
    obtain ⟨n, hn⟩ : ∃ n : Nat, (takeG l cores done t)[j] = (n : Int) := ⟨((takeG l cores done t)[j]).toNat, by omega⟩
    rw [hn] at h1 h2 ⊢
    have h3 := (mem_readyL.1 h2).2
    unfold rdyB at h3
    rw [Bool.and_eq_true, decide_eq_true_eq, decide_eq_true_eq] at h3
    exact ⟨h1.1, h1.2, h3.2⟩
  ne := fun i j hij hj => by
    have hlex := stab_lex (keyJ l) _ (readyL_asc l done t l.length)
    have hsub : (takeG l cores done t).Pairwise (fun x y => keyJ l x < keyJ l y ∨ (keyJ l x = keyJ l y ∧ x < y)) := List.Pairwise.sublist (List.take_sublist _ _) hlex
    have := List.pairwise_iff_getElem.1 hsub i j (by omega) hj hij
    rw [List.getD_eq_getElem?_getD, List.getElem?_eq_getElem (show i < (takeG l cores done t).length by omega), List.getD_eq_getElem?_getD, List.getElem?_eq_getElem hj]
    simp only [Option.getD_some]
    intro e
    rw [e] at this
    omega
theorem takeG_len (l : List S67) (cores : Nat) (done : List Int) (t : Nat) (hn : l.length ≤ 60) : (takeG l cores done t).length ≤ 60 := by
  unfold takeG
  rw [List.length_take, stab_len]
  have := readyL_len l done t l.length
  omega
theorem gN_tk (l : List S67) (cores t : Nat) : gN l cores (t + 1) = tkS l t (takeG l cores (gN l cores t).1 t) (gN l cores t).1 (gN l cores t).2 (takeG l cores (gN l cores t).1 t).length := by
  unfold tkS
  rw [List.take_length]
  rfl
theorem gN_ok {l : List S67} {cores : Nat} (hex : ∀ i, i < l.length → 0 ≤ (jb l i).f3 ∧ (jb l i).f3 ≤ 8) : ∀ t i, i < l.length → 0 ≤ (gN l cores t).1.getD i 0 ∧ (gN l cores t).1.getD i 0 ≤ (jb l i).f3
  | 0, i, hi => by
    have := hex i hi
    unfold gN
    simp only [List.getD_eq_getElem?_getD, List.getElem?_replicate]
    rw [if_pos hi]
    simp only [Option.getD_some]
    omega
  | t + 1, i, hi => by
    have ih := gN_ok (cores := cores) hex t
    have hl := gN_len (jobs := l) (cores := cores) t
    have hok : TickOk l (takeG l cores (gN l cores t).1 t) (gN l cores t).1 := take_ok (fun i hi => ⟨(ih i hi).1, (ih i hi).2, (hex i hi).2⟩)
    rw [gN_tk]
    exact (tk_inv (t := t) (fin := (gN l cores t).2) hok hl.1 hl.2 _ (Nat.le_refl _)).2.1 i hi
theorem setR_take (rows : List (List Int)) (t : Nat) (x : List Int) (h : t < rows.length) : (rows.set t x).take (t + 1) = rows.take t ++ [x] := by
  apply List.ext_getElem?
  intro i
  rw [List.getElem?_take, List.getElem?_set, List.getElem?_append]
  simp only [List.length_take, List.getElem?_take]
  rw [Nat.min_eq_left (Nat.le_of_lt h)]
  by_cases h1 : i < t
  · rw [if_pos (by omega), if_neg (by omega), if_pos h1, if_pos h1]
  · by_cases h2 : i = t
    · subst h2; simp [h]
    · rw [if_neg (by omega), if_neg h1, List.getElem?_eq_none (by simp; omega)]
theorem glob_ev {l : List S67} {cores : Nat} (hn : l.length ≤ 60) (hex : ∀ i, i < l.length → 0 ≤ (jb l i).f3 ∧ (jb l i).f3 ≤ 8) : ∀ d t, t + d = 120 →
    Tl (fun k => spec_RunGlobal.l1 k l (cores : Int) (leftG l (gN l cores t).1) (t : Int) ((gR l cores t).take t) (gN l cores t).2) (gR l cores 120, (gN l cores 120).2)
  | 0, t, ht => by
    obtain rfl : t = 120 := by omega
    have hl := gR_len l cores 120
    refine Tl.step ?_
    simp only [spec_RunGlobal.l1]
    refine Tl.iteF (by omega) ?_
    rw [List.take_of_length_le (by omega)]
    exact Tl.ret _
  | d + 1, t, ht => by
    have ih := glob_ev (cores := cores) hn hex d (t + 1) (by omega)
    have hl := gN_len (jobs := l) (cores := cores) t
    have hb := gN_ok (cores := cores) hex t
    have hrl := gR_len l cores t
    have hok : TickOk l (takeG l cores (gN l cores t).1 t) (gN l cores t).1 := take_ok (fun i hi => ⟨(hb i hi).1, (hb i hi).2, (hex i hi).2⟩)
    have hg : (gR l cores (t + 1)).take (t + 1) = (gR l cores t).take t ++ [takeG l cores (gN l cores t).1 t] := setR_take _ _ _ (by omega)
    rw [hg, gN_tk] at ih
    refine Tl.step ?_
    simp only [spec_RunGlobal.l1]
    refine Tl.iteT (by omega) (Tl.bind (spec_pick_ev l (leftG l (gN l cores t).1) (gN l cores t).1 t cores hn (leftG_len _ _) (fun i hi => ?_)) (tick_ev hok hl.1 hl.2 hn (takeG_len l cores _ t hn) (by omega) (by rw [List.length_take]; omega) ih))
    unfold rdyB
    have e : l.getD i z67 = jb l i := rfl
    rw [leftG_at l _ hi, e]
    congr 1
    rw [decide_eq_decide]
    omega
theorem globfill_ev {l : List S67} {cores : Nat} (hn : l.length ≤ 60) (hex : ∀ i, i < l.length → 0 ≤ (jb l i).f3 ∧ (jb l i).f3 ≤ 8) : Tl (fun k => spec_RunGlobal.l0 k l (cores : Int) [] 0 []) (gR l cores 120, (gN l cores 120).2) := by
  have h0 := glob_ev (cores := cores) hn hex 120 0 rfl
  have key := down (Q := fun j => Tl (fun k => spec_RunGlobal.l0 k l (cores : Int) ((leftG l (List.replicate l.length 0)).take j) (j : Int) ((List.replicate l.length (-1 : Int)).take j)) (gR l cores 120, (gN l cores 120).2)) l.length ?_ ?_
  · simpa using key
  · refine Tl.step ?_
    simp only [spec_RunGlobal.l0]
    refine Tl.iteF (by omega) ?_
    rw [List.take_of_length_le (by rw [leftG_len]; omega), List.take_of_length_le (by simp)]
    exact h0
  · intro j hj' h
    refine Tl.step ?_
    simp only [spec_RunGlobal.l0]
    rw [wrap_succ (j := j) (n := l.length) (by omega) (by omega), rd_jb]
    refine Tl.iteT (by omega) (Tl.iteT (by omega) (Tl.iteT (by rw [List.length_take]; omega) (Tl.iteT (by rw [List.length_take]; omega) ?_)))
    have e1 : (leftG l (List.replicate l.length 0)).take j ++ [(jb l j).f3] = (leftG l (List.replicate l.length 0)).take (j + 1) := by
      have hlt : j < (leftG l (List.replicate l.length 0)).length := by rw [leftG_len]; exact hj'
      rw [List.take_add_one, List.getElem?_eq_getElem hlt]
      have := leftG_at l (List.replicate l.length 0) hj'
      rw [List.getD_eq_getElem?_getD, List.getElem?_eq_getElem hlt] at this
      simp only [Option.getD_some] at this
      rw [this]
      simp [List.getD_eq_getElem?_getD, List.getElem?_replicate, hj']
    have e2 : (List.replicate l.length (-1 : Int)).take j ++ [(-1 : Int)] = (List.replicate l.length (-1 : Int)).take (j + 1) := by
      simp only [List.take_replicate]
      rw [Nat.min_eq_left (by omega), Nat.min_eq_left (by omega), List.replicate_succ']
    rw [e1, e2]
    exact h
theorem legal_okG {s : List Task} {l : List S67} (h : legal s l = true) : l.length ≤ 60 ∧ ∀ i, i < l.length → 0 ≤ (jb l i).f3 ∧ (jb l i).f3 ≤ 8 := by
  unfold legal at h
  rw [Bool.and_eq_true] at h
  have h2 := h.2
  unfold legalB at h2
  rw [Bool.and_eq_true] at h2
  obtain ⟨h3, h4⟩ := ordB_in h2.1
  refine ⟨h3, fun i hi => ?_⟩
  have h5 := h4 i hi
  unfold jobIn at h5
  simp only [Bool.and_eq_true, decide_eq_true_eq] at h5
  have e : l.getD i z67 = jb l i := rfl
  rw [e, rd_tk'] at h5
  have h6 := okSet_tk h.1 (j := (jb l i).f0.toNat) (by omega)
  omega
/-- What both answer. -/
def runGlob (s : List Task) (l : List S67) (cores : Int) : List (List Int) × List Int := if legal s l = true then (if 1 ≤ cores ∧ cores ≤ 5 then (gR l cores.toNat 120, (gN l cores.toNat 120).2) else ([], [])) else ([], [])
theorem spec_RunGlobal_ev (s : List Task) (l : List S67) (cores : Int) (hs : s.length ≤ 1048576) (hl : l.length ≤ 1048576) : Tl (fun k => spec_RunGlobal.f k s l cores) (runGlob s l cores) := by
  unfold spec_RunGlobal.f runGlob
  refine Tl.bind (spec_JobsLegal_ev s l hs hl) ?_
  cases h : legal s l with
  | false =>
    rw [if_neg (by simp)]
    refine Tl.iteF (by simp) (Tl.step ?_)
    simp only [spec_RunGlobal.j0]
    exact Tl.iteT (by simp) (Tl.ret _)
  | true =>
    rw [if_pos rfl]
    have hk := legal_okG h
    refine Tl.iteT rfl (Tl.bind (Tl.of_eq fun _ => spec_l1In_f _ _ _) (Tl.step ?_))
    simp only [spec_RunGlobal.j0]
    by_cases hc : 1 ≤ cores ∧ cores ≤ 5
    · rw [if_pos hc]
      refine Tl.iteF (by simp [hc]) ?_
      obtain ⟨n, rfl⟩ : ∃ n : Nat, cores = (n : Int) := ⟨cores.toNat, by omega⟩
      rw [Int.toNat_natCast]
      exact globfill_ev hk.1 hk.2
    · rw [if_neg hc]
      refine Tl.iteT ?_ (Tl.ret _)
      simp only [Bool.not_eq_true', decide_eq_false_iff_not]
      exact hc
end Go.Proofs.Ytonifhkplniblaa.Print

namespace Go.Proofs.Ytonifhkplniblaa.Print
open Go.RowKit Go.Proofs.YtonifhkplniblaaW.PrintWords Go.Proofs.Ytonifhkplniblaa.Evs Go.Proofs.Ytonifhkplniblaa.Opens
set_option linter.unusedSimpArgs false
theorem eqIntS_ev (l : List Int) (hl : l.length ≤ 1048576) : Tl (fun k => laws_eqIntS.f k l l) true := by
  unfold laws_eqIntS.f
  simp only [if_true]
  refine down (Q := fun j => Tl (fun k => laws_eqIntS.l0 k l l (j : Int)) true) l.length ?_ ?_
  · refine Tl.step ?_
    have c3 := eq_false (show ¬ ((l.length : Int) < (l.length : Int)) by omega)
    simp only [laws_eqIntS.l0, c3, if_false]
    exact Tl.ret _
  · intro j hj h
    refine Tl.step ?_
    have c3 := eq_true (show (j : Int) < (l.length : Int) by omega)
    have c4 := eq_true (show 0 ≤ (j : Int) by omega)
    simp only [laws_eqIntS.l0, c3, c4, if_true]
    rw [wrap_succ hj (by omega)]
    exact h
end Go.Proofs.Ytonifhkplniblaa.Print

namespace Go.Proofs.Ytonifhkplniblaa.Print
open Go.RowKit Go.Proofs.YtonifhkplniblaaW.PrintWords Go.Proofs.YtonifhkplniblaaW.PrintLast Go.Proofs.YtonifhkplniblaaW.PrintMore
attribute [local go_sem] max2_int min2_int max_two min_two max_three min_three max_four min_four
set_option linter.unusedVariables false
set_option linter.unusedSimpArgs false
open Go.Proofs.Ytonifhkplniblaa.Walk
/-- A row of numbers of the call's own, at block g. -/
def Rw (B : Nat) (w00 V : World) (g N cap : Nat) (xs : List Int) : Prop := Kd.R (Kd.int .i64) 3 V B (fun _ => True) (.slice (some ⟨g, 0, none⟩) N cap) xs ∧ Below B w00 V
section
variable {B : Nat} {w00 V : World} {g N cap : Nat} {xs : List Int}
theorem Rw.len (h : Rw B w00 V g N cap xs) : N = xs.length := (Kd.R_reads' h.1).1
theorem Rw.cell (h : Rw B w00 V g N cap xs) {i : Nat} (hi : i < N) : V.cell? ⟨g, i, none⟩ = some (.int .i64 (xs.getD i 0)) ∧ V.frozen? ⟨g, i, none⟩ = false := by
  have := Kd.R_celln 0 h.1 (i : Int) (by omega) (by omega)
  rw [Int.toNat_natCast] at this
  exact this
theorem Rw.set (h : Rw B w00 V g N cap xs) (i : Nat) (x : Int) : Rw B w00 (V.setCell ⟨g, i, none⟩ (.int .i64 x)) g N cap (xs.set i x) := by
  have := (Kd.R_putg h.1 (i : Int) x).1
  simp only [Int.toNat_natCast] at this
  exact ⟨this, h.2.setCell (Kd.R_base h.1 g rfl) _⟩
theorem Rw.drewN (h : Rw B w00 V g N cap xs) (n : Nat) : Rw B w00 (V.drewN n) g N cap xs := ⟨Kd.R_drewN h.1 n, pw_below_drewN h.2 n⟩
theorem Rw.drew (h : Rw B w00 V g N cap xs) : Rw B w00 V.drew g N cap xs := ⟨Kd.R_drew h.1, below_drew h.2⟩
end
theorem set_mid (A B : List Int) (x y : Int) : (A ++ x :: B).set A.length y = A ++ y :: B := by simp
theorem getD_mid (A B : List Int) (x : Int) : (A ++ x :: B).getD A.length 0 = x := by simp [List.getD_eq_getElem?_getD]
theorem i64_small {x : Int} (h0 : -9223372036854775808 ≤ x) (h1 : x ≤ 9223372036854775807) : IntKind.i64.wrap x = x := by rw [i64_w]; unfold wrap64; omega
theorem sub_w {m i p : Nat} (h : p + i = m) (hm : m ≤ 1000000) : IntKind.i64.wrap ((m : Int) - (i : Int)) = (p : Int) := by rw [i64_small (by omega) (by omega)]; omega
theorem add_w {m i p : Nat} (h : p = m + i) (hm : p ≤ 1000000) : IntKind.i64.wrap ((m : Int) + (i : Int)) = (p : Int) := by rw [i64_small (by omega) (by omega)]; omega
set_option maxHeartbeats 4000000 in
set_option maxRecDepth 100000 in
/-- Two ranges of n change places. -/
theorem swap_calls (B : Nat) (w00 : World) (g N cap : Nat) (fv : Value) (P X Q Y S : List Int) (n a b : Nat) (V : World) (hX : X.length = n) (hY : Y.length = n) (ha : P.length = a) (hb : b = a + n + Q.length) (hN : N ≤ 1000)
    (h : Rw B w00 V g N cap (P ++ (X ++ (Q ++ (Y ++ S))))) :
    Calls Try.prog 178 #[.slice (some ⟨g, 0, none⟩) N cap, .int .i64 (a : Int), .int .i64 (b : Int), .int .i64 (n : Int), fv] V fun e w' => e = .returned (.tuple #[]) ∧ Rw B w00 w' g N cap (P ++ (Y ++ (Q ++ (X ++ S)))) := by
  have hlen := h.len
  simp only [List.length_append] at hlen
  have H0 := Aside0.mk h
  clear h
  go_enter Try.func178, Try.ntmps178
  go_wp2_with fail
  go_loopw [10] (fun v10 w' => ∃ (i : Nat) (X1 X2 Y1 Y2 : List Int), v10 = .int .i64 (i : Int) ∧ X1.length = i ∧ Y1.length = i ∧ i ≤ n ∧ Aside0 (X = X1 ++ X2) ∧ Aside0 (Y = Y1 ++ Y2) ∧ Aside0 (Rw B w00 w' g N cap (P ++ (Y1 ++ (X2 ++ (Q ++ (X1 ++ (Y2 ++ S)))))))) (fun v10 _ => n - (intOf v10).toNat)
  case atStart => exact ⟨0, [], X, [], Y, rfl, rfl, rfl, Nat.zero_le _, ⟨rfl⟩, ⟨rfl⟩, H0⟩
  case round =>
    clear H0
    obtain ⟨i, X1, X2, Y1, Y2, rfl, h1, h2, h3, HX, HY, HR⟩ := hrel
    have hx2 : X2.length = n - i := by have := congrArg List.length HX.out; rw [List.length_append] at this; omega
    have hy2 : Y2.length = n - i := by have := congrArg List.length HY.out; rw [List.length_append] at this; omega
    by_cases hlt : i < n
    · have b1 : decide ((i : Int) < (n : Int)) = true := decide_eq_true (by omega)
      obtain ⟨x, X3, rfl⟩ : ∃ x X3, X2 = x :: X3 := by
        cases X2 with
        | nil => simp at hx2; omega
        | cons x t => exact ⟨x, t, rfl⟩
      obtain ⟨y, Y3, rfl⟩ : ∃ y Y3, Y2 = y :: Y3 := by
        cases Y2 with
        | nil => simp at hy2; omega
        | cons x t => exact ⟨x, t, rfl⟩
      simp only [List.length_cons] at hx2 hy2
      have e1 : P ++ (Y1 ++ (x :: X3 ++ (Q ++ (X1 ++ (y :: Y3 ++ S))))) = (P ++ Y1) ++ x :: (X3 ++ (Q ++ (X1 ++ (y :: Y3 ++ S)))) := by simp
      have e2 : P ++ (Y1 ++ (x :: X3 ++ (Q ++ (X1 ++ (y :: Y3 ++ S))))) = (P ++ (Y1 ++ (x :: X3 ++ (Q ++ X1)))) ++ y :: (Y3 ++ S) := by simp
      have e3 : (P ++ Y1) ++ y :: (X3 ++ (Q ++ (X1 ++ (y :: Y3 ++ S)))) = (P ++ (Y1 ++ (y :: X3 ++ (Q ++ X1)))) ++ y :: (Y3 ++ S) := by simp
      have e4 : (P ++ (Y1 ++ (y :: X3 ++ (Q ++ X1)))) ++ x :: (Y3 ++ S) = P ++ ((Y1 ++ [y]) ++ (X3 ++ (Q ++ ((X1 ++ [x]) ++ (Y3 ++ S))))) := by simp
      have l1 : (P ++ Y1).length = a + i := by rw [List.length_append]; omega
      have l2 : (P ++ (Y1 ++ (x :: X3 ++ (Q ++ X1)))).length = b + i := by simp only [List.length_append, List.length_cons]; omega
      have l3 : (P ++ (Y1 ++ (y :: X3 ++ (Q ++ X1)))).length = b + i := by simp only [List.length_append, List.length_cons]; omega
      have c1 := HR.out.cell (i := a + i) (by omega)
      have c2 := HR.out.cell (i := b + i) (by omega)
      rw [e1, ← l1, getD_mid, l1] at c1
      rw [e2, ← l2, getD_mid, l2] at c2
      have hs := (HR.out.set (a + i) y).set (b + i) x
      rw [e1, ← l1, set_mid, l1, e3, ← l3, set_mid, l3, e4] at hs
      obtain ⟨p, hp⟩ : ∃ p : Nat, p = a + i := ⟨_, rfl⟩
      obtain ⟨q, hq⟩ : ∃ q : Nat, q = b + i := ⟨_, rfl⟩
      rw [← hp, ← hq] at hs
      rw [← hp] at c1
      rw [← hq] at c2
      obtain ⟨c1, f1⟩ := c1
      obtain ⟨c2, f2⟩ := c2
      have W1 := Lib.hid (add_w (m := a) (i := i) (p := p) hp (by omega))
      have W2 := Lib.hid (add_w (m := b) (i := i) (p := q) hq (by omega))
      have q1 : 0 ≤ (p : Int) := by omega
      have q2 : (p : Int) < (N : Int) := by omega
      have q3 : 0 ≤ (q : Int) := by omega
      have q4 : (q : Int) < (N : Int) := by omega
      have hnm : n ≤ 1000 := by omega
      have npq : p ≠ q := by omega
      have nqp : q ≠ p := by omega
      have HS := Aside0.mk hs.drew
      have HX' : Aside0 (X = (X1 ++ [x]) ++ X3) := ⟨by rw [HX.out]; simp⟩
      have HY' : Aside0 (Y = (Y1 ++ [y]) ++ Y3) := ⟨by rw [HY.out]; simp⟩
      have hx1 : (X1 ++ [x]).length = i + 1 := by simp; omega
      have hy1 : (Y1 ++ [y]).length = i + 1 := by simp; omega
      have HX1 := Lib.hid hx1
      have HY1 := Lib.hid hy1
      have w1 := W1.out
      have w2 := W2.out
      clear e1 e2 e3 e4 l1 l2 l3 hs hx1 hy1 hx2 hy2 h1 h2 hX hY ha hb hlen hp hq HX HY
      go_wp2_with fail
      go_region
      generalize World.drew _ = w9 at HS ⊢
      go_wp2_with fail
      go_roundw
      case rel => exact ⟨i + 1, X1 ++ [x], X3, Y1 ++ [y], Y3, by go_num, HX1.out, HY1.out, by omega, HX', HY', HS⟩
      case measure => simp [intOf]; omega
    · have b1 : decide ((i : Int) < (n : Int)) = false := decide_eq_false (by omega)
      obtain rfl := List.eq_nil_of_length_eq_zero (show X2.length = 0 by omega)
      obtain rfl := List.eq_nil_of_length_eq_zero (show Y2.length = 0 by omega)
      have hx : X = X1 := by rw [HX.out, List.append_nil]
      have hy : Y = Y1 := by rw [HY.out, List.append_nil]
      have hr := HR.out
      simp only [List.nil_append] at hr
      rw [← hx, ← hy] at hr
      have HS := Aside0.mk hr
      clear hr hx hy hx2 hy2 h1 h2 hX hY ha hb hlen
      go_wp2
      go_end0
      exact ⟨rfl, HS.out⟩
set_option maxHeartbeats 4000000 in
set_option maxRecDepth 100000 in
/-- Two neighbouring ranges change places. -/
theorem rotate_calls (B : Nat) (w00 : World) (g N cap : Nat) (fv : Value) (P X Y S : List Int) (a m b : Nat) (V : World) (ha : P.length = a) (hX : X.length = m - a) (hY : Y.length = b - m) (ham : a < m) (hmb : m < b) (hN : N ≤ 1000)
    (h : Rw B w00 V g N cap (P ++ (X ++ (Y ++ S)))) :
    Calls Try.prog 177 #[.slice (some ⟨g, 0, none⟩) N cap, .int .i64 (a : Int), .int .i64 (m : Int), .int .i64 (b : Int), fv] V fun e w' => e = .returned (.tuple #[]) ∧ Rw B w00 w' g N cap (P ++ (Y ++ (X ++ S))) := by
  have hlen := h.len
  simp only [List.length_append] at hlen
  have H0 := Aside0.mk h
  obtain ⟨F, hF⟩ : ∃ F, F = P ++ (Y ++ (X ++ S)) := ⟨_, rfl⟩
  rw [← hF]
  have HF := Aside0.mk hF
  have HSW := Lib.hid (fun (P X Q Y S : List Int) (n a b : Nat) (V : World) h1 h2 h3 h4 h5 h6 => swap_calls B w00 g N cap fv P X Q Y S n a b V h1 h2 h3 h4 h5 h6)
  have w1 : IntKind.i64.wrap ((m : Int) - (a : Int)) = ((m - a : Nat) : Int) := sub_w (by omega) (by omega)
  have w2 : IntKind.i64.wrap ((b : Int) - (m : Int)) = ((b - m : Nat) : Int) := sub_w (by omega) (by omega)
  clear h hF
  go_enter Try.func177, Try.ntmps177
  go_wp2_with fail
  go_loopw [10, 11] (fun v10 v11 w' => ∃ (i j : Nat) (P X Y S : List Int), v10 = .int .i64 (i : Int) ∧ v11 = .int .i64 (j : Int) ∧ 1 ≤ i ∧ 1 ≤ j ∧ i ≤ m ∧ j ≤ 1000 ∧ Aside0 (X.length = i) ∧ Aside0 (Y.length = j) ∧ Aside0 (P.length + i = m) ∧ Aside0 (F = P ++ (Y ++ (X ++ S))) ∧ Aside0 (Rw B w00 w' g N cap (P ++ (X ++ (Y ++ S))))) (fun v10 v11 _ => (intOf v10).toNat + (intOf v11).toNat)
  case atStart => exact ⟨m - a, b - m, P, X, Y, S, rfl, rfl, by omega, by omega, by omega, by omega, ⟨hX⟩, ⟨hY⟩, ⟨by omega⟩, HF, H0⟩
  case round =>
    clear H0 HF hlen ha hX hY w1 w2
    obtain ⟨i, j, P, X, Y, S, rfl, rfl, hi, hj, him, hj1, HX, HY, HP, HF, HR⟩ := hrel
    have hm : m ≤ 1000 := by
      have := HR.out.len
      have h1 := HX.out
      have h2 := HP.out
      simp only [List.length_append] at this
      omega
    obtain ⟨mi, hmi⟩ : ∃ mi : Nat, mi = m - i := ⟨_, rfl⟩
    have hPl : P.length = mi := by have := HP.out; omega
    have W1 := Lib.hid (sub_w (m := m) (i := i) (p := mi) (by omega) (by omega))
    by_cases hij : i = j
    · have b1 : ((i : Int) != (j : Int)) = false := by rw [bne_eq_false_iff_eq]; omega
      have b2 : (i != j) = false := by rw [bne_eq_false_iff_eq]; omega
      subst hij
      have hc := HSW.out P X [] Y S i mi m wr HX.out HY.out hPl (by simp only [List.length_nil]; omega) hN HR.out
      simp only [List.nil_append] at hc
      rw [← HF.out] at hc
      have HC := Lib.hid hc
      clear hc hPl HR HF HX HY HP hmi
      have w1 := W1.out
      go_wp2_with (go_at_call 178; refine HC.out.mono ?_; rintro e wz ⟨rfl, hr⟩; have HS := Aside0.mk hr; clear hr)
      go_end0
      exact ⟨rfl, HS.out⟩
    · have b1 : ((i : Int) != (j : Int)) = true := by rw [bne_iff_ne]; omega
      have b2 : (i != j) = true := by rw [bne_iff_ne]; omega
      by_cases hgt : j < i
      · have b3 : decide ((j : Int) < (i : Int)) = true := decide_eq_true (by omega)
        have b4 : decide (j < i) = true := decide_eq_true hgt
        obtain ⟨X1, X2, hX12, hX1⟩ : ∃ X1 X2, X = X1 ++ X2 ∧ X1.length = j := ⟨X.take j, X.drop j, (List.take_append_drop _ _).symm, by rw [List.length_take]; have := HX.out; omega⟩
        have hX2 : X2.length = i - j := by have := HX.out; rw [hX12, List.length_append] at this; omega
        have hrr := HR.out
        rw [hX12, List.append_assoc] at hrr
        have hc := HSW.out P X1 X2 Y S j mi m wr hX1 HY.out hPl (by omega) hN hrr
        have e1 : P ++ (Y ++ (X2 ++ (X1 ++ S))) = (P ++ Y) ++ (X2 ++ (X1 ++ S)) := by simp
        have e2 : F = (P ++ Y) ++ (X1 ++ (X2 ++ S)) := by rw [HF.out, hX12]; simp
        rw [e1] at hc
        have HC := Lib.hid hc
        have HF2 := Aside0.mk e2
        have HX2 := Aside0.mk hX2
        have HX1 := Aside0.mk hX1
        have hP2 : (P ++ Y).length + (i - j) = m := by rw [List.length_append]; have := HY.out; omega
        have HP2 := Aside0.mk hP2
        obtain ⟨d, hd⟩ : ∃ d : Nat, d = i - j := ⟨_, rfl⟩
        have W2 := Lib.hid (sub_w (m := i) (i := j) (p := d) (by omega) (by omega))
        rw [← hd] at HX2 HP2
        have d1 : 1 ≤ d := by omega
        have d2 : d < i := by omega
        clear hc hrr hX12 hX1 hX2 e1 e2 hP2 hPl HR HF HX HY HP b3 b4 b1 b2 hmi hd
        have b1 : ((i : Int) != (j : Int)) = true := by rw [bne_iff_ne]; omega
        have b2 : (i != j) = true := by rw [bne_iff_ne]; omega
        have b3 : decide ((j : Int) < (i : Int)) = true := decide_eq_true (by omega)
        have b4 : decide (j < i) = true := decide_eq_true (by omega)
        have w1 := W1.out
        have w2 := W2.out
        go_wp2_with (go_at_call 178; refine HC.out.mono ?_; rintro e wz ⟨rfl, hr⟩; have HS := Aside0.mk hr; clear hr)
        clear w1 w2
        go_roundw
        case rel => exact ⟨d, j, P ++ Y, X2, X1, S, rfl, rfl, by omega, by omega, by omega, by omega, HX2, HX1, HP2, HF2, HS⟩
        case measure => simp [intOf]; omega
      · have b3 : decide ((j : Int) < (i : Int)) = false := decide_eq_false (by omega)
        have b4 : decide (j < i) = false := decide_eq_false hgt
        obtain ⟨Y1, Y2, hY12, hY1⟩ : ∃ Y1 Y2, Y = Y1 ++ Y2 ∧ Y1.length = j - i := ⟨Y.take (j - i), Y.drop (j - i), (List.take_append_drop _ _).symm, by rw [List.length_take]; have := HY.out; omega⟩
        have hY2 : Y2.length = i := by have := HY.out; rw [hY12, List.length_append] at this; omega
        have hrr := HR.out
        rw [hY12, List.append_assoc] at hrr
        obtain ⟨mj, hmj⟩ : ∃ mj : Nat, mj = m + j := ⟨_, rfl⟩
        obtain ⟨q, hq⟩ : ∃ q : Nat, q = m + j - i := ⟨_, rfl⟩
        obtain ⟨d, hd⟩ : ∃ d : Nat, d = j - i := ⟨_, rfl⟩
        have hc := HSW.out P X Y1 Y2 S i mi q wr HX.out hY2 hPl (by omega) hN hrr
        have e2 : F = P ++ (Y1 ++ (Y2 ++ (X ++ S))) := by rw [HF.out, hY12]; simp
        have HC := Lib.hid hc
        have HF2 := Aside0.mk e2
        have HY2 := Aside0.mk hY2
        rw [← hd] at hY1
        have HY1 := Aside0.mk hY1
        have W2 := Lib.hid (sub_w (m := j) (i := i) (p := d) (by omega) (by omega))
        have W3 := Lib.hid (add_w (m := m) (i := j) (p := mj) (by omega) (by omega))
        have W4 := Lib.hid (sub_w (m := mj) (i := i) (p := q) (by omega) (by omega))
        have d1 : 1 ≤ d := by omega
        have d2 : d < j := by omega
        clear hc hrr hY12 hY1 hY2 e2 hPl HR HF HX HY hmi hmj hq hd
        have w1 := W1.out
        have w2 := W2.out
        have w3 := W3.out
        have w4 := W4.out
        go_wp2_with (go_at_call 178; refine HC.out.mono ?_; rintro e wz ⟨rfl, hr⟩; have HS := Aside0.mk hr; clear hr)
        clear w1 w2
        go_roundw
        case rel => exact ⟨i, d, P, Y2, Y1, X ++ S, rfl, rfl, by omega, by omega, by omega, by omega, HY2, HY1, HP, HF2, HS⟩
        case measure => simp [intOf]; omega

end Go.Proofs.Ytonifhkplniblaa.Print

namespace Go.Proofs.Ytonifhkplniblaa.Print
open Go.RowKit Go.Proofs.YtonifhkplniblaaW.PrintWords Go.Proofs.YtonifhkplniblaaW.PrintLast Go.Proofs.YtonifhkplniblaaW.PrintMore
attribute [local go_sem] max2_int min2_int max_two min_two max_three min_three max_four min_four
set_option linter.unusedVariables false
set_option linter.unusedSimpArgs false
open Go.Proofs.Ytonifhkplniblaa.Walk
theorem pred_w {j p : Nat} (h : p + 1 = j) (hm : j ≤ 1000000) : IntKind.i64.wrap ((j : Int) - 1) = (p : Int) := by rw [i64_small (by omega) (by omega)]; omega
/-- The order of two numbers. -/
def cmI (a b : Int) : Int := if a < b then -1 else if b < a then 1 else 0
theorem cmI_lt {a b : Int} (h : a < b) : decide (cmI a b < 0) = true := by unfold cmI; rw [if_pos h]; decide
theorem cmI_ge {a b : Int} (h : ¬ a < b) : decide (cmI a b < 0) = false := by
  unfold cmI
  rw [if_neg h]
  split <;> decide
/-- What a comparison of the keys answers, in every world that keeps what is elder than the sort's row. -/
def CmpOk (B : Nat) (w00 : World) (fp : FuncId) (cb : Array Value) (K : Int → Int) (ok : Int → Prop) : Prop :=
  ∀ V, Below B w00 V → ∀ x y : Int, ok x → ok y → Calls Try.prog fp (#[.int .i64 x, .int .i64 y] ++ cb) V fun e w' => e = .returned (.int .i64 (cmI (K x) (K y))) ∧ ∃ q, w' = V.drewN q
set_option maxHeartbeats 4000000 in
set_option maxRecDepth 100000 in
theorem ins_calls (B : Nat) (w00 : World) (cb : Array Value) (K : Int → Int) (ok : Int → Prop) (HC : CmpOk B w00 124 cb K ok) (g N cap : Nat) (P L S : List Int) (a b : Nat) (V : World) (ha : P.length = a) (hb : b = a + L.length) (hN : N ≤ 1000) (hok : ∀ x ∈ L, ok x)
    (h : Rw B w00 V g N cap (P ++ (L ++ S))) :
    Calls Try.prog 171 #[.slice (some ⟨g, 0, none⟩) N cap, .int .i64 (a : Int), .int .i64 (b : Int), .func (.func 124) #[] cb] V fun e w' => e = .returned (.tuple #[]) ∧ Rw B w00 w' g N cap (P ++ (stab K L ++ S)) := by
  have hlen := h.len
  simp only [List.length_append] at hlen
  have hab : b ≤ 1000 := by omega
  have haa : a ≤ 1000 := by omega
  have W0 := Lib.hid (add_w (m := a) (i := 1) (p := a + 1) rfl (by omega))
  cases L with
  | nil =>
    have H0 := Aside0.mk h
    have b0 : decide ((a : Int) + 1 < (b : Int)) = false := decide_eq_false (by simp only [List.length_nil] at hb; omega)
    have b1 : decide (a + 1 < b) = false := decide_eq_false (by simp only [List.length_nil] at hb; omega)
    clear h hlen hb ha
    go_enter Try.func171, Try.ntmps171
    go_wp2_with fail
    go_loopw [8] (fun v8 w' => v8 = .int .i64 ((a : Int) + 1) ∧ w' = V) (fun _ _ => 0)
    case atStart => exact ⟨by go_num, rfl⟩
    case round =>
      obtain ⟨rfl, rfl⟩ := hrel
      go_wp2
      go_end0
      exact ⟨rfl, H0.out⟩
  | cons x0 L0 =>
    have H0 : Aside0 (Rw B w00 V g N cap (P ++ (stab K [x0] ++ (L0 ++ S)))) := ⟨by rw [stab_one]; simpa using h⟩
    have HCC := Aside0.mk HC
    have HOK := Aside0.mk hok
    simp only [List.length_cons] at hb hlen
    have HLN := Lib.hid (And.intro hb hlen)
    have hab' : a < b := by omega
    clear h HC hok hb hlen
    go_enter Try.func171, Try.ntmps171
    go_wp2_with fail
    go_loopw [8] (fun v8 w' => ∃ (i : Nat) (L1 L2 : List Int), v8 = .int .i64 (i : Int) ∧ a < i ∧ i ≤ b ∧ Aside0 (L1.length + a = i) ∧ Aside0 (x0 :: L0 = L1 ++ L2) ∧ Aside0 (Rw B w00 w' g N cap (P ++ (stab K L1 ++ (L2 ++ S))))) (fun v8 _ => b - (intOf v8).toNat)
    case atStart => exact ⟨a + 1, [x0], L0, by go_num, by omega, by omega, ⟨by simp; omega⟩, ⟨rfl⟩, H0⟩
    case round =>
      clear H0
      obtain ⟨i, L1, L2, rfl, hai, hib, HL1, HL, HR⟩ := hrel
      by_cases hlt : i < b
      · have b1 : decide ((i : Int) < (b : Int)) = true := decide_eq_true (by omega)
        obtain ⟨x, L3, hx⟩ : ∃ x L3, L2 = x :: L3 := by
          cases L2 with
          | nil =>
            have := congrArg List.length HL.out
            have h1 := HL1.out
            have h2 := HLN.out.1
            simp only [List.length_cons, List.length_append, List.length_nil] at this
            omega
          | cons x t => exact ⟨x, t, rfl⟩
        subst hx
        have hokx : ok x := HOK.out x (by rw [HL.out]; simp)
        have hok1 : ∀ y ∈ stab K L1, ok y := fun y hy => HOK.out y (by rw [HL.out]; exact List.mem_append.2 (Or.inl ((stab_mem K y L1).1 hy)))
        have HOKX := Aside0.mk hokx
        have HOK1 := Aside0.mk hok1
        have HN : Aside0 (x0 :: L0 = (L1 ++ [x]) ++ L3) := ⟨by rw [HL.out]; simp⟩
        have HN1 : Aside0 ((L1 ++ [x]).length + a = i + 1) := ⟨by have := HL1.out; simp only [List.length_append, List.length_cons, List.length_nil]; omega⟩
        have H1 : Aside0 (Rw B w00 wr g N cap (P ++ (stab K L1 ++ x :: ([] ++ (L3 ++ S))))) := ⟨by simpa using HR.out⟩
        have hsl : (stab K L1).length = L1.length := stab_len K L1
        have HSL := Aside0.mk hsl
        clear hokx hok1 hsl HR HL
        go_wp2_with fail
        go_loopw [9] (fun v9 w' => ∃ (j : Nat) (A Q : List Int), v9 = .int .i64 (j : Int) ∧ a ≤ j ∧ j ≤ i ∧ Aside0 (stab K L1 = A ++ Q) ∧ Aside0 (A.length + a = j) ∧ Aside0 (∀ y ∈ Q, K x < K y) ∧ Aside0 (Rw B w00 w' g N cap (P ++ (A ++ x :: (Q ++ (L3 ++ S)))))) (fun v9 _ => (intOf v9).toNat)
        case atStart => exact ⟨i, stab K L1, [], rfl, by omega, Nat.le_refl _, ⟨by simp⟩, ⟨by have := HSL.out; have := HL1.out; omega⟩, ⟨by simp⟩, H1⟩
        case round =>
          clear H1
          obtain ⟨j, A, Q, rfl, haj, hji, HA, HAL, HQ, HR⟩ := hrel
          -- out of the inner loop
          have out : (∀ y ∈ A, K y ≤ K x) → stab K (L1 ++ [x]) = A ++ x :: Q := fun hA => by
            rw [← stab_app, stab_one, HA.out]
            exact mrg_last K x A Q hA HQ.out
          have OUT := Aside0.mk out
          have hcj := HR.out.cell (i := j) (by
            have h1 := HR.out.len
            have h2 := HAL.out
            simp only [List.length_append, List.length_cons] at h1
            omega)
          have e1 : P ++ (A ++ x :: (Q ++ (L3 ++ S))) = (P ++ A) ++ x :: (Q ++ (L3 ++ S)) := by simp
          have l1 : (P ++ A).length = j := by rw [List.length_append]; have := HAL.out; omega
          rw [e1, ← l1, getD_mid, l1] at hcj
          obtain ⟨c1, f1⟩ := hcj
          by_cases hja : a < j
          · obtain ⟨A1, z, rfl⟩ : ∃ A1 z, A = A1 ++ [z] := by
              rcases List.eq_nil_or_concat A with rfl | ⟨A1, z, e⟩
              · have := HAL.out; simp at this; omega
              · exact ⟨A1, z, by simpa using e⟩
            obtain ⟨jp, hjp⟩ : ∃ q : Nat, q + 1 = j := ⟨j - 1, by omega⟩
            have l2 : (P ++ A1).length = jp := by have := HAL.out; simp only [List.length_append, List.length_cons, List.length_nil] at this ⊢; omega
            have e2 : P ++ ((A1 ++ [z]) ++ x :: (Q ++ (L3 ++ S))) = (P ++ A1) ++ z :: (x :: (Q ++ (L3 ++ S))) := by simp
            have hcp := HR.out.cell (i := jp) (by
              have h1 := HR.out.len
              have h2 := HAL.out
              simp only [List.length_append, List.length_cons] at h1 h2
              omega)
            have hsw := fun q => (((HR.out.drewN q).set j z).set jp x)
            have e3 : ((P ++ A1) ++ z :: (x :: (Q ++ (L3 ++ S)))).set j z = (P ++ A1) ++ z :: (z :: (Q ++ (L3 ++ S))) := by
              have : (P ++ A1) ++ z :: (x :: (Q ++ (L3 ++ S))) = (P ++ (A1 ++ [z])) ++ x :: (Q ++ (L3 ++ S)) := by simp
              rw [this, ← l1, set_mid]; simp
            simp only [e2, e3] at hsw
            rw [← l2] at hsw
            simp only [set_mid] at hsw
            rw [l2] at hsw
            rw [e2, ← l2, getD_mid, l2] at hcp
            obtain ⟨c2, f2⟩ := hcp
            have e4 : (P ++ A1) ++ x :: (z :: (Q ++ (L3 ++ S))) = P ++ (A1 ++ x :: ((z :: Q) ++ (L3 ++ S))) := by simp
            simp only [e4] at hsw
            have HSW := Aside0.mk hsw
            have hjN : j < N := by
              have h1 := HR.out.len
              have h2 := HAL.out
              simp only [List.length_append, List.length_cons] at h1 h2
              omega
            have hokz : ok z := HOK1.out z (by rw [HA.out]; simp)
            have hsz := stab_srt K L1
            rw [HA.out] at hsz
            have hsz1 := (Srt.app hsz).1
            have hz := (Srt.app hsz1).2.2
            have hcmp := fun q => HCC.out (wr.drewN q) (pw_below_drewN HR.out.2 q) x z HOKX.out hokz
            have HCMP := Aside0.mk hcmp
            have HZ := Aside0.mk hz
            have WP := Lib.hid (pred_w (j := j) (p := jp) hjp (by omega))
            have hA2 : stab K L1 = A1 ++ (z :: Q) := by rw [HA.out]; simp
            have HA2 := Aside0.mk hA2
            have HAL2 : Aside0 (A1.length + a = jp) := ⟨by have := HAL.out; simp only [List.length_append, List.length_cons, List.length_nil] at this; omega⟩
            have p1 : 0 ≤ (j : Int) := by omega
            have p2 : (j : Int) < (N : Int) := by omega
            have p3 : 0 ≤ (jp : Int) := by omega
            have p4 : (jp : Int) < (N : Int) := by omega
            have n1 : j ≠ jp := by omega
            have n2 : jp ≠ j := by omega
            have g2 : (a : Int) < (j : Int) := by omega
            clear hcmp hz hsz hsz1 hA2 e1 e2 e3 e4 l1 l2 hsw out
            by_cases hk : K x < K z
            · have d1 := cmI_lt hk
              have HK := Aside0.mk hk
              clear hk
              have w1 := WP.out
              go_wp2_with fail
              go_quiet ((go_at_call 124; exact Calls.quiet_of (HCMP.out _)))
              have HQ2 : Aside0 (∀ y ∈ z :: Q, K x < K y) := ⟨fun y hy => by
                rcases List.mem_cons.1 hy with rfl | hy
                · exact HK.out
                · exact HQ.out y hy⟩
              go_wp2_with fail
              go_region
              have HS2 := Aside0.mk (HSW.out (nq + 1))
              clear HSW HCMP c1 c2 f1 f2
              generalize World.setCell (World.setCell (World.drewN wr _) _ _) _ _ = w9 at HS2 ⊢
              go_wp2_with fail
              go_roundw
              case rel => exact ⟨jp, A1, z :: Q, by first | rfl | go_num, by omega, by omega, HA2, HAL2, HQ2, HS2⟩
              case measure => simp [intOf]; omega
            · have d1 := cmI_ge hk
              have hA : ∀ y ∈ A1 ++ [z], K y ≤ K x := fun y hy => by
                rcases List.mem_append.1 hy with hy | hy
                · have := HZ.out y hy z (by simp); omega
                · rw [List.mem_singleton.1 hy]; omega
              have hS := OUT.out hA
              have HS2 : Aside0 (∀ q, Rw B w00 (wr.drewN q) g N cap (P ++ (stab K (L1 ++ [x]) ++ (L3 ++ S)))) := ⟨fun q => by rw [hS]; simpa using HR.out.drewN q⟩
              clear hk hA hS
              have w1 := WP.out
              go_wp2_with fail
              go_quiet ((go_at_call 124; exact Calls.quiet_of (HCMP.out _)))
              have HS3 := Aside0.mk (HS2.out nq)
              go_wp2_with fail
              go_roundw
              case rel => exact ⟨i + 1, L1 ++ [x], L3, by go_num, by omega, by omega, HN1, HN, HS3⟩
              case measure => simp [intOf]; omega
          · have hj : j = a := by omega
            have g1 : decide ((j : Int) > (a : Int)) = false := decide_eq_false (by omega)
            have g2 : decide ((a : Int) < (j : Int)) = false := decide_eq_false (by omega)
            obtain rfl := List.eq_nil_of_length_eq_zero (show A.length = 0 by have := HAL.out; omega)
            have hS := OUT.out (by simp)
            have HS2 : Aside0 (∀ q, Rw B w00 (wr.drewN q) g N cap (P ++ (stab K (L1 ++ [x]) ++ (L3 ++ S)))) := ⟨fun q => by rw [hS]; simpa using HR.out.drewN q⟩
            clear hS e1 l1 out hja c1 f1
            subst hj
            go_wp2_with fail
            go_quiet (fail)
            have HS3 := Aside0.mk (HS2.out nq)
            go_wp2_with fail
            go_roundw
            case rel => exact ⟨i + 1, L1 ++ [x], L3, by go_num, by omega, by omega, HN1, HN, HS3⟩
            case measure => simp [intOf]; omega
      · have b1 : decide ((i : Int) < (b : Int)) = false := decide_eq_false (by omega)
        have hl2 : L2.length = 0 := by
          have h0 := congrArg List.length HL.out
          have h1 := HL1.out
          have h2 := HLN.out.1
          simp only [List.length_cons, List.length_append] at h0
          omega
        obtain rfl := List.eq_nil_of_length_eq_zero hl2
        have hr := HR.out
        rw [← show x0 :: L0 = L1 by rw [HL.out, List.append_nil]] at hr
        have HS2 := Aside0.mk hr
        clear hr hl2 HL
        go_wp2
        go_end0
        exact ⟨rfl, HS2.out⟩


/-- The arguments of a merge. -/
structure SymIn (B : Nat) (w00 : World) (K : Int → Int) (ok : Int → Prop) (g N cap : Nat) (P L R S : List Int) (a m b : Nat) (V : World) : Prop where
  ha : P.length = a
  hm : m = a + L.length
  hb : b = m + R.length
  hL : 0 < L.length
  hR : 0 < R.length
  hN : N ≤ 1000
  sL : Srt K L
  sR : Srt K R
  okL : ∀ x ∈ L, ok x
  okR : ∀ x ∈ R, ok x
  rw : Rw B w00 V g N cap (P ++ (L ++ (R ++ S)))
set_option maxHeartbeats 4000000 in
set_option maxRecDepth 100000 in
/-- The left row holds one element. -/
theorem sym_one (B : Nat) (w00 : World) (cb : Array Value) (K : Int → Int) (ok : Int → Prop) (HC : CmpOk B w00 124 cb K ok) (g N cap : Nat) (P R S : List Int) (x : Int) (a m b : Nat) (V : World) (H : SymIn B w00 K ok g N cap P [x] R S a m b V) :
    Calls Try.prog 172 #[.slice (some ⟨g, 0, none⟩) N cap, .int .i64 (a : Int), .int .i64 (m : Int), .int .i64 (b : Int), .func (.func 124) #[] cb] V fun e w' => e = .returned (.tuple #[]) ∧ Rw B w00 w' g N cap (P ++ (mrg K [x] R ++ S)) := by
  have HCC := Aside0.mk HC
  obtain ⟨F, hF⟩ : ∃ F, F = P ++ (mrg K [x] R ++ S) := ⟨_, rfl⟩
  rw [← hF]
  have HF := Aside0.mk hF
  clear hF
  have hlen := H.rw.len
  simp only [List.length_append, List.length_cons, List.length_nil] at hlen
  have hm := H.hm
  have hb := H.hb
  have ha := H.ha
  have hN := H.hN
  simp only [List.length_cons, List.length_nil] at hm
  have HL := Lib.hid (And.intro hlen (And.intro hm hb))
  have hbb : b ≤ 1000 := by omega
  have hmm : m < b := by have := H.hR; omega
  have ham : a < m := by omega
  have W1 := Lib.hid (sub_w (m := m) (i := a) (p := 1) (by omega) (by omega))
  have hR0 : Aside0 (R = [] ++ (R ++ [])) := ⟨by simp⟩
  have H0 := Aside0.mk H.rw
  have HS := Aside0.mk H
  clear HC hlen hm hb ha H
  have w1 : IntKind.i64.wrap ((m : Int) - (a : Int)) = 1 := by have := W1.out; simpa using this
  go_enter Try.func172, Try.ntmps172
  go_wp2_with fail
  go_loopw [10, 11] (fun v10 v11 w' => ∃ (i j : Nat) (R1 R2 R3 : List Int), v10 = .int .i64 (i : Int) ∧ v11 = .int .i64 (j : Int) ∧ i ≤ j ∧ j ≤ b ∧ m ≤ i ∧ Aside0 (R = R1 ++ (R2 ++ R3)) ∧ Aside0 (R1.length + m = i) ∧ Aside0 (R2.length + i = j) ∧ Aside0 (∀ y ∈ R1, K y < K x) ∧ Aside0 (∀ y ∈ R3, K x ≤ K y) ∧ Aside0 (Rw B w00 w' g N cap (P ++ ([x] ++ (R ++ S))))) (fun v10 v11 _ => (intOf v11).toNat - (intOf v10).toNat)
  case atStart => exact ⟨m, b, [], R, [], rfl, rfl, by omega, Nat.le_refl _, Nat.le_refl _, hR0, ⟨by simp⟩, ⟨by have := HL.out.2.2; omega⟩, ⟨by simp⟩, ⟨by simp⟩, H0⟩
  case round =>
    clear H0
    obtain ⟨i, j, R1, R2, R3, rfl, rfl, hij, hjb, hmi, HR, H1, H2, HLO, HHI, HW⟩ := hrel
    by_cases hlt : i < j
    · have b1 : decide ((i : Int) < (j : Int)) = true := decide_eq_true (by omega)
      obtain ⟨h, hh⟩ : ∃ h : Nat, h = (i + j) / 2 := ⟨_, rfl⟩
      have hd2 : ((i : Int) + (j : Int)) / 2 = (h : Int) := by omega
      have hih : i ≤ h := by omega
      have hhj : h < j := by omega
      obtain ⟨Ra, y, Rb, hR2, hRa⟩ := cut_at (L := R2) (k := h - i) (by have := H2.out; omega)
      have hR : R = (R1 ++ Ra) ++ y :: (Rb ++ R3) := by rw [HR.out, hR2]; simp
      have hsr := HS.out.sR
      rw [hR] at hsr
      have hmid := srt_mid hsr
      have hoky : ok y := HS.out.okR y (by rw [hR]; simp)
      have hokx : ok x := HS.out.okL x (by simp)
      have e1 : P ++ ([x] ++ (R ++ S)) = (P ++ ([x] ++ (R1 ++ Ra))) ++ y :: (Rb ++ (R3 ++ S)) := by rw [hR]; simp
      have l1 : (P ++ ([x] ++ (R1 ++ Ra))).length = h := by
        have h1 := H1.out
        have h2 := HS.out.ha
        have h3 := HL.out.2.1
        have h4 : Ra.length + i = h := by omega
        rw [List.length_append, List.length_append, List.length_append, List.length_singleton]
        omega
      have e2 : P ++ ([x] ++ (R ++ S)) = P ++ x :: (R ++ S) := by simp
      have hhN : h < N := by have := HL.out; have := HS.out.ha; omega
      have haN : a < N := by omega
      have hc1 := HW.out.cell (i := h) hhN
      have hc2 := HW.out.cell (i := a) haN
      rw [e1, ← l1, getD_mid, l1] at hc1
      rw [e2, ← HS.out.ha, getD_mid, HS.out.ha] at hc2
      obtain ⟨c1, f1⟩ := hc1
      obtain ⟨c2, f2⟩ := hc2
      have HCMP := Aside0.mk (fun q => HCC.out (wr.drewN q) (pw_below_drewN HW.out.2 q) y x hoky hokx)
      have p1 : 0 ≤ (h : Int) := by omega
      have p2 : (h : Int) < (N : Int) := by omega
      have p3 : 0 ≤ (a : Int) := by omega
      have p4 : (a : Int) < (N : Int) := by omega
      by_cases hk : K y < K x
      · have d1 := cmI_lt hk
        have n1 : Aside0 (R = ((R1 ++ Ra) ++ [y]) ++ (Rb ++ R3)) := ⟨by rw [hR]; simp⟩
        have n2 : Aside0 (((R1 ++ Ra) ++ [y]).length + m = h + 1) := ⟨by have := H1.out; simp only [List.length_append, List.length_cons, List.length_nil]; omega⟩
        have n3 : Aside0 (Rb.length + (h + 1) = j) := ⟨by have h2 := H2.out; rw [hR2] at h2; simp only [List.length_append, List.length_cons] at h2; omega⟩
        have n4 : Aside0 (∀ z ∈ (R1 ++ Ra) ++ [y], K z < K x) := ⟨fun z hz => by
          rcases List.mem_append.1 hz with hz | hz
          · have := hmid.1 z hz; omega
          · rw [List.mem_singleton.1 hz]; exact hk⟩
        clear hk hmid hsr hR hR2 hRa e1 e2 l1 hh hoky hokx HR H1 H2 HLO
        go_wp2_with fail
        go_quiet ((go_at_call 124; exact Calls.quiet_of (HCMP.out _)))
        have HW2 := Aside0.mk (HW.out.drewN nq)
        go_wp2_with fail
        go_roundw
        case rel => exact ⟨h + 1, j, (R1 ++ Ra) ++ [y], Rb, R3, by go_num, rfl, by omega, by omega, by omega, n1, n2, n3, n4, HHI, HW2⟩
        case measure => simp [intOf]; omega
      · have d1 := cmI_ge hk
        have n1 : Aside0 (R = R1 ++ (Ra ++ (y :: (Rb ++ R3)))) := ⟨by rw [hR]; simp⟩
        have n3 : Aside0 (Ra.length + i = h) := ⟨by omega⟩
        have n4 : Aside0 (∀ z ∈ y :: (Rb ++ R3), K x ≤ K z) := ⟨fun z hz => by
          rcases List.mem_cons.1 hz with rfl | hz
          · omega
          · have := hmid.2 z hz; omega⟩
        clear hk hmid hsr hR hR2 hRa e1 e2 l1 hh hoky hokx HR H2 HHI
        go_wp2_with fail
        go_quiet ((go_at_call 124; exact Calls.quiet_of (HCMP.out _)))
        have HW2 := Aside0.mk (HW.out.drewN nq)
        go_wp2_with fail
        go_roundw
        case rel => exact ⟨i, h, R1, Ra, y :: (Rb ++ R3), rfl, rfl, by omega, by omega, by omega, n1, H1, n3, HLO, n4, HW2⟩
        case measure => simp [intOf]; omega
    · have b1 : decide ((i : Int) < (j : Int)) = false := decide_eq_false (by omega)
      obtain rfl := List.eq_nil_of_length_eq_zero (show R2.length = 0 by have := H2.out; omega)
      have hR : R = R1 ++ R3 := by rw [HR.out]; simp
      have hmg : mrg K [x] R = R1 ++ x :: R3 := by rw [hR]; exact mrg_ins K x R1 R3 HLO.out HHI.out
      have HF2 : Aside0 (F = P ++ (R1 ++ x :: (R3 ++ S))) := ⟨by rw [HF.out, hmg]; simp⟩
      obtain ⟨ip, hip⟩ : ∃ q : Nat, q + 1 = i := ⟨i - 1, by omega⟩
      have WI := Lib.hid (pred_w (j := i) (p := ip) hip (by omega))
      have hs0 : Aside0 (Rw B w00 wr g N cap (P ++ ([] ++ x :: (R1 ++ (R3 ++ S))))) := ⟨by have := HW.out; rw [hR] at this; simpa using this⟩
      have hi1 : Aside0 (R1.length + a = ip) := ⟨by have h1 := H1.out; have h2 := HL.out.2.1; omega⟩
      have hiN : i ≤ N := by have := HL.out; have := HS.out.ha; omega
      clear hR hmg HR H1 H2 HLO HHI HW
      have wi := WI.out
      go_wp2_with fail
      go_loopw [13] (fun v13 w' => ∃ (k : Nat) (A Q : List Int), v13 = .int .i64 (k : Int) ∧ a ≤ k ∧ k ≤ ip ∧ Aside0 (R1 = A ++ Q) ∧ Aside0 (A.length + a = k) ∧ Aside0 (Rw B w00 w' g N cap (P ++ (A ++ x :: (Q ++ (R3 ++ S)))))) (fun v13 _ => ip - (intOf v13).toNat)
      case atStart => exact ⟨a, [], R1, rfl, Nat.le_refl _, by have := hi1.out; omega, ⟨by simp⟩, ⟨by simp⟩, hs0⟩
      case round =>
        clear hs0
        obtain ⟨k, A, Q, rfl, hak, hki, HA, HAL, HW⟩ := hrel
        by_cases hlt : k < ip
        · have b2 : decide ((k : Int) < (ip : Int)) = true := decide_eq_true (by omega)
          obtain ⟨y, Q1, rfl⟩ : ∃ y Q1, Q = y :: Q1 := by
            cases Q with
            | nil =>
              have h1 := congrArg List.length HA.out
              have h2 := hi1.out
              have h3 := HAL.out
              simp only [List.length_append, List.length_nil] at h1
              omega
            | cons y t => exact ⟨y, t, rfl⟩
          have l1 : (P ++ A).length = k := by rw [List.length_append]; have := HAL.out; have := HS.out.ha; omega
          have l2 : (P ++ (A ++ [x])).length = k + 1 := by rw [List.length_append, List.length_append, List.length_singleton]; have := HAL.out; have := HS.out.ha; omega
          have l3 : (P ++ (A ++ [y])).length = k + 1 := by rw [List.length_append, List.length_append, List.length_singleton]; have := HAL.out; have := HS.out.ha; omega
          have e1 : P ++ (A ++ x :: ((y :: Q1) ++ (R3 ++ S))) = (P ++ A) ++ x :: (y :: (Q1 ++ (R3 ++ S))) := by simp
          have e2 : P ++ (A ++ x :: ((y :: Q1) ++ (R3 ++ S))) = (P ++ (A ++ [x])) ++ y :: (Q1 ++ (R3 ++ S)) := by simp
          have e3 : (P ++ A) ++ y :: (y :: (Q1 ++ (R3 ++ S))) = (P ++ (A ++ [y])) ++ y :: (Q1 ++ (R3 ++ S)) := by simp
          have e4 : (P ++ (A ++ [y])) ++ x :: (Q1 ++ (R3 ++ S)) = P ++ ((A ++ [y]) ++ x :: (Q1 ++ (R3 ++ S))) := by simp
          have hc1 := HW.out.cell (i := k) (by omega)
          have hc2 := HW.out.cell (i := k + 1) (by omega)
          rw [e1, ← l1, getD_mid, l1] at hc1
          rw [e2, ← l2, getD_mid, l2] at hc2
          have hsw := ((HW.out.set k y).set (k + 1) x).drew
          rw [e1, ← l1, set_mid, l1, e3, ← l3, set_mid, l3, e4] at hsw
          obtain ⟨k1, hk1⟩ : ∃ k1 : Nat, k1 = k + 1 := ⟨_, rfl⟩
          rw [← hk1] at hc2 hsw
          obtain ⟨c1, f1⟩ := hc1
          obtain ⟨c2, f2⟩ := hc2
          have HSW := Aside0.mk hsw
          have hA2 : Aside0 (R1 = (A ++ [y]) ++ Q1) := ⟨by rw [HA.out]; simp⟩
          have hAL2 : Aside0 ((A ++ [y]).length + a = k1) := ⟨by rw [List.length_append, List.length_singleton]; have := HAL.out; omega⟩
          have WK := Lib.hid (show IntKind.i64.wrap ((k : Int) + 1) = (k1 : Int) by rw [i64_small (by omega) (by omega)]; omega)
          have p1 : 0 ≤ (k : Int) := by omega
          have p2 : (k : Int) < (N : Int) := by omega
          have p3 : 0 ≤ (k1 : Int) := by omega
          have p4 : (k1 : Int) < (N : Int) := by omega
          have n1 : k ≠ k1 := by omega
          have n2 : k1 ≠ k := by omega
          have n3 : k1 ≤ ip := by omega
          have n4 : a ≤ k1 := by omega
          have n5 : k < k1 := by omega
          clear e1 e2 e3 e4 l1 l2 l3 hsw hk1
          have wk := WK.out
          go_wp2_with fail
          go_region
          generalize World.drew _ = w9 at HSW ⊢
          go_wp2_with fail
          go_roundw
          case rel => exact ⟨k1, A ++ [y], Q1, by first | rfl | go_num, n4, n3, hA2, hAL2, HSW⟩
          case measure => simp [intOf]; omega
        · have b2 : decide ((k : Int) < (ip : Int)) = false := decide_eq_false (by omega)
          obtain rfl := List.eq_nil_of_length_eq_zero (show Q.length = 0 by
            have h1 := congrArg List.length HA.out
            have h2 := hi1.out
            have h3 := HAL.out
            simp only [List.length_append] at h1
            omega)
          have hr := HW.out
          have hAe : A = R1 := by rw [HA.out, List.append_nil]
          rw [hAe, List.nil_append, ← HF2.out] at hr
          have HR2 := Aside0.mk hr
          clear hr hAe
          go_wp2_with fail
          (try simp only [Exit.inBlock, Exit.then])
          refine bodyPost_ret (results_none rfl _ _ _) rfl ?_
          exact ⟨rfl, HR2.out⟩
set_option maxHeartbeats 4000000 in
set_option maxRecDepth 100000 in
/-- The right row holds one element, the left one more. -/
theorem sym_last (B : Nat) (w00 : World) (cb : Array Value) (K : Int → Int) (ok : Int → Prop) (HC : CmpOk B w00 124 cb K ok) (g N cap : Nat) (P L S : List Int) (y : Int) (a m b : Nat) (V : World) (H : SymIn B w00 K ok g N cap P L [y] S a m b V) (h2 : L.length ≠ 1) :
    Calls Try.prog 172 #[.slice (some ⟨g, 0, none⟩) N cap, .int .i64 (a : Int), .int .i64 (m : Int), .int .i64 (b : Int), .func (.func 124) #[] cb] V fun e w' => e = .returned (.tuple #[]) ∧ Rw B w00 w' g N cap (P ++ (mrg K L [y] ++ S)) := by
  have HCC := Aside0.mk HC
  obtain ⟨F, hF⟩ : ∃ F, F = P ++ (mrg K L [y] ++ S) := ⟨_, rfl⟩
  rw [← hF]
  have HF := Aside0.mk hF
  clear hF
  have hlen := H.rw.len
  simp only [List.length_append, List.length_cons, List.length_nil] at hlen
  have hm := H.hm
  have hb := H.hb
  have ha := H.ha
  have hN := H.hN
  have hL := H.hL
  simp only [List.length_cons, List.length_nil] at hb
  have HL := Lib.hid (And.intro hlen (And.intro hm hb))
  have hbb : b ≤ 1000 := by omega
  have hmm : m < b := by omega
  have ham : a < m := by omega
  obtain ⟨q, hq⟩ : ∃ q : Nat, q + a = m := ⟨m - a, by omega⟩
  have hq1 : q ≠ 1 := by omega
  have W1 := Lib.hid (sub_w (m := m) (i := a) (p := q) hq (by omega))
  have W2 := Lib.hid (sub_w (m := b) (i := m) (p := 1) (by omega) (by omega))
  have b0 : ((q : Int) == 1) = false := by rw [beq_eq_false_iff_ne]; omega
  have b00 : (q == 1) = false := by rw [beq_eq_false_iff_ne]; omega
  have hR0 : Aside0 (L = [] ++ (L ++ [])) := ⟨by simp⟩
  have H0 := Aside0.mk H.rw
  have HS := Aside0.mk H
  clear HC hlen hm hb ha H hq hL h2
  have w1 := W1.out
  have w2 : IntKind.i64.wrap ((b : Int) - (m : Int)) = 1 := by have := W2.out; simpa using this
  go_enter Try.func172, Try.ntmps172
  go_wp2_with fail
  go_loopw [14, 15] (fun v10 v11 w' => ∃ (i j : Nat) (R1 R2 R3 : List Int), v10 = .int .i64 (i : Int) ∧ v11 = .int .i64 (j : Int) ∧ i ≤ j ∧ j ≤ m ∧ a ≤ i ∧ Aside0 (L = R1 ++ (R2 ++ R3)) ∧ Aside0 (R1.length + a = i) ∧ Aside0 (R2.length + i = j) ∧ Aside0 (∀ z ∈ R1, K z ≤ K y) ∧ Aside0 (∀ z ∈ R3, K y < K z) ∧ Aside0 (Rw B w00 w' g N cap (P ++ (L ++ ([y] ++ S))))) (fun v10 v11 _ => (intOf v11).toNat - (intOf v10).toNat)
  case atStart => exact ⟨a, m, [], L, [], rfl, rfl, by omega, Nat.le_refl _, Nat.le_refl _, hR0, ⟨by simp⟩, ⟨by have := HL.out.2.1; omega⟩, ⟨by simp⟩, ⟨by simp⟩, H0⟩
  case round =>
    clear H0
    obtain ⟨i, j, R1, R2, R3, rfl, rfl, hij, hjm, hai, HR, H1, H2, HLO, HHI, HW⟩ := hrel
    by_cases hlt : i < j
    · have b1 : decide ((i : Int) < (j : Int)) = true := decide_eq_true (by omega)
      obtain ⟨h, hh⟩ : ∃ h : Nat, h = (i + j) / 2 := ⟨_, rfl⟩
      have hd2 : ((i : Int) + (j : Int)) / 2 = (h : Int) := by omega
      have hih : i ≤ h := by omega
      have hhj : h < j := by omega
      obtain ⟨Ra, z, Rb, hR2, hRa⟩ := cut_at (L := R2) (k := h - i) (by have := H2.out; omega)
      have hR : L = (R1 ++ Ra) ++ z :: (Rb ++ R3) := by rw [HR.out, hR2]; simp
      have hsr := HS.out.sL
      rw [hR] at hsr
      have hmid := srt_mid hsr
      have hokz : ok z := HS.out.okL z (by rw [hR]; simp)
      have hoky : ok y := HS.out.okR y (by simp)
      have e1 : P ++ (L ++ ([y] ++ S)) = (P ++ (R1 ++ Ra)) ++ z :: (Rb ++ (R3 ++ ([y] ++ S))) := by rw [hR]; simp
      have l1 : (P ++ (R1 ++ Ra)).length = h := by
        have h1 := H1.out
        have h2 := HS.out.ha
        have h4 : Ra.length + i = h := by omega
        rw [List.length_append, List.length_append]
        omega
      have e2 : P ++ (L ++ ([y] ++ S)) = (P ++ L) ++ y :: S := by simp
      have l2 : (P ++ L).length = m := by rw [List.length_append]; have := HL.out.2.1; have := HS.out.ha; omega
      have hmN : m < N := by have := HL.out; have := HS.out.ha; omega
      have hhN : h < N := by omega
      have hc1 := HW.out.cell (i := h) hhN
      have hc2 := HW.out.cell (i := m) hmN
      rw [e1, ← l1, getD_mid, l1] at hc1
      rw [e2, ← l2, getD_mid, l2] at hc2
      obtain ⟨c1, f1⟩ := hc1
      obtain ⟨c2, f2⟩ := hc2
      have HCMP := Aside0.mk (fun q => HCC.out (wr.drewN q) (pw_below_drewN HW.out.2 q) y z hoky hokz)
      have p1 : 0 ≤ (h : Int) := by omega
      have p2 : (h : Int) < (N : Int) := by omega
      have p3 : 0 ≤ (m : Int) := by omega
      have p4 : (m : Int) < (N : Int) := by omega
      by_cases hk : K y < K z
      · have d1 := cmI_lt hk
        have n1 : Aside0 (L = R1 ++ (Ra ++ (z :: (Rb ++ R3)))) := ⟨by rw [hR]; simp⟩
        have n3 : Aside0 (Ra.length + i = h) := ⟨by omega⟩
        have n4 : Aside0 (∀ u ∈ z :: (Rb ++ R3), K y < K u) := ⟨fun u hu => by
          rcases List.mem_cons.1 hu with rfl | hu
          · omega
          · have := hmid.2 u hu; omega⟩
        clear hk hmid hsr hR hR2 hRa e1 e2 l1 l2 hh hoky hokz HR H2 HHI
        go_wp2_with fail
        go_quiet ((go_at_call 124; exact Calls.quiet_of (HCMP.out _)))
        have HW2 := Aside0.mk (HW.out.drewN nq)
        go_wp2_with fail
        go_roundw
        case rel => exact ⟨i, h, R1, Ra, z :: (Rb ++ R3), rfl, rfl, by omega, by omega, by omega, n1, H1, n3, HLO, n4, HW2⟩
        case measure => simp [intOf]; omega
      · have d1 := cmI_ge hk
        have n1 : Aside0 (L = ((R1 ++ Ra) ++ [z]) ++ (Rb ++ R3)) := ⟨by rw [hR]; simp⟩
        have n2 : Aside0 (((R1 ++ Ra) ++ [z]).length + a = h + 1) := ⟨by have := H1.out; simp only [List.length_append, List.length_cons, List.length_nil]; omega⟩
        have n3 : Aside0 (Rb.length + (h + 1) = j) := ⟨by have h2 := H2.out; rw [hR2] at h2; simp only [List.length_append, List.length_cons] at h2; omega⟩
        have n4 : Aside0 (∀ u ∈ (R1 ++ Ra) ++ [z], K u ≤ K y) := ⟨fun u hu => by
          rcases List.mem_append.1 hu with hu | hu
          · have := hmid.1 u hu; omega
          · rw [List.mem_singleton.1 hu]; omega⟩
        clear hk hmid hsr hR hR2 hRa e1 e2 l1 l2 hh hoky hokz HR H1 H2 HLO
        go_wp2_with fail
        go_quiet ((go_at_call 124; exact Calls.quiet_of (HCMP.out _)))
        have HW2 := Aside0.mk (HW.out.drewN nq)
        go_wp2_with fail
        go_roundw
        case rel => exact ⟨h + 1, j, (R1 ++ Ra) ++ [z], Rb, R3, by go_num, rfl, by omega, by omega, by omega, n1, n2, n3, n4, HHI, HW2⟩
        case measure => simp [intOf]; omega
    · have b1 : decide ((i : Int) < (j : Int)) = false := decide_eq_false (by omega)
      obtain rfl := List.eq_nil_of_length_eq_zero (show R2.length = 0 by have := H2.out; omega)
      have hR : L = R1 ++ R3 := by rw [HR.out]; simp
      have hmg : mrg K L [y] = R1 ++ y :: R3 := by rw [hR]; exact mrg_last K y R1 R3 HLO.out HHI.out
      have HF2 : Aside0 (F = P ++ (R1 ++ y :: (R3 ++ S))) := ⟨by rw [HF.out, hmg]; simp⟩
      have hs0 : Aside0 (Rw B w00 wr g N cap (P ++ (R1 ++ (R3 ++ y :: ([] ++ S))))) := ⟨by have := HW.out; rw [hR] at this; simpa using this⟩
      have hi1 : Aside0 (P.length + R1.length = i) := ⟨by have h1 := H1.out; have h2 := HS.out.ha; omega⟩
      have hi2 : Aside0 (R3.length + i = m) := ⟨by have h1 := congrArg List.length hR; rw [List.length_append] at h1; have h2 := HL.out.2.1; have h3 := H1.out; omega⟩
      have him : i ≤ m := by omega
      clear hR hmg HR H1 H2 HLO HHI HW
      go_wp2_with fail
      go_loopw [17] (fun v13 w' => ∃ (k : Nat) (A Q : List Int), v13 = .int .i64 (k : Int) ∧ i ≤ k ∧ k ≤ m ∧ Aside0 (R3 = A ++ Q) ∧ Aside0 (A.length + i = k) ∧ Aside0 (Rw B w00 w' g N cap (P ++ (R1 ++ (A ++ y :: (Q ++ S)))))) (fun v13 _ => (intOf v13).toNat)
      case atStart => exact ⟨m, R3, [], rfl, him, Nat.le_refl _, ⟨by simp⟩, hi2, hs0⟩
      case round =>
        clear hs0
        obtain ⟨k, A, Q, rfl, hik, hkm, HA, HAL, HW⟩ := hrel
        by_cases hlt2 : i < k
        · have b2 : decide ((k : Int) > (i : Int)) = true := decide_eq_true (by omega)
          have b3 : decide ((i : Int) < (k : Int)) = true := decide_eq_true (by omega)
          obtain ⟨A1, z, rfl⟩ : ∃ A1 z, A = A1 ++ [z] := by
            rcases List.eq_nil_or_concat A with rfl | ⟨A1, z, e⟩
            · have := HAL.out; simp at this; omega
            · exact ⟨A1, z, by simpa using e⟩
          obtain ⟨kp, hkp⟩ : ∃ q : Nat, q + 1 = k := ⟨k - 1, by omega⟩
          have hal := HAL.out
          rw [List.length_append, List.length_singleton] at hal
          have l1 : (P ++ (R1 ++ A1)).length = kp := by rw [List.length_append, List.length_append]; have := hi1.out; omega
          have l2 : (P ++ (R1 ++ (A1 ++ [z]))).length = k := by rw [List.length_append, List.length_append, List.length_append, List.length_singleton]; have := hi1.out; omega
          have e1 : P ++ (R1 ++ ((A1 ++ [z]) ++ y :: (Q ++ S))) = (P ++ (R1 ++ A1)) ++ z :: (y :: (Q ++ S)) := by simp
          have e2 : P ++ (R1 ++ ((A1 ++ [z]) ++ y :: (Q ++ S))) = (P ++ (R1 ++ (A1 ++ [z]))) ++ y :: (Q ++ S) := by simp
          have e3 : (P ++ (R1 ++ (A1 ++ [z]))) ++ z :: (Q ++ S) = (P ++ (R1 ++ A1)) ++ z :: (z :: (Q ++ S)) := by simp
          have e4 : (P ++ (R1 ++ A1)) ++ y :: (z :: (Q ++ S)) = P ++ (R1 ++ (A1 ++ y :: ((z :: Q) ++ S))) := by simp
          have hkN : k < N := by have := HL.out; have := HS.out.ha; omega
          have hc1 := HW.out.cell (i := kp) (by omega)
          have hc2 := HW.out.cell (i := k) hkN
          rw [e1, ← l1, getD_mid, l1] at hc1
          rw [e2, ← l2, getD_mid, l2] at hc2
          have hsw := ((HW.out.set k z).set kp y).drew
          rw [e2, ← l2, set_mid, l2, e3, ← l1, set_mid, l1, e4] at hsw
          obtain ⟨c1, f1⟩ := hc1
          obtain ⟨c2, f2⟩ := hc2
          have HSW := Aside0.mk hsw
          have hA2 : Aside0 (R3 = A1 ++ (z :: Q)) := ⟨by rw [HA.out]; simp⟩
          have hAL2 : Aside0 (A1.length + i = kp) := ⟨by omega⟩
          have WK := Lib.hid (pred_w (j := k) (p := kp) hkp (by omega))
          have p1 : 0 ≤ (k : Int) := by omega
          have p2 : (k : Int) < (N : Int) := by omega
          have p3 : 0 ≤ (kp : Int) := by omega
          have p4 : (kp : Int) < (N : Int) := by omega
          have n1 : k ≠ kp := by omega
          have n2 : kp ≠ k := by omega
          have n3 : kp ≤ m := by omega
          have n4 : i ≤ kp := by omega
          have n5 : kp < k := by omega
          clear e1 e2 e3 e4 l1 l2 hsw hkp hal
          have wk := WK.out
          go_wp2_with fail
          go_region
          generalize World.drew _ = w9 at HSW ⊢
          go_wp2_with fail
          go_roundw
          case rel => exact ⟨kp, A1, z :: Q, by first | rfl | go_num, n4, n3, hA2, hAL2, HSW⟩
          case measure => simp [intOf]; omega
        · have b2 : decide ((k : Int) > (i : Int)) = false := decide_eq_false (by omega)
          have b3 : decide ((i : Int) < (k : Int)) = false := decide_eq_false (by omega)
          obtain rfl := List.eq_nil_of_length_eq_zero (show A.length = 0 by have h3 := HAL.out; omega)
          have hr := HW.out
          have hAe : Q = R3 := by rw [HA.out, List.nil_append]
          rw [hAe, List.nil_append, ← HF2.out] at hr
          have HR2 := Aside0.mk hr
          clear hr hAe
          go_wp2_with fail
          (try simp only [Exit.inBlock, Exit.then])
          refine bodyPost_ret (results_none rfl _ _ _) rfl ?_
          exact ⟨rfl, HR2.out⟩


theorem srt_at {K : Int → Int} {L : List Int} (h : Srt K L) {i j : Nat} (hij : i ≤ j) (hj : j < L.length) : K (L.getD i 0) ≤ K (L.getD j 0) := by
  rcases Nat.eq_or_lt_of_le hij with rfl | hlt
  · exact Int.le_refl _
  · have := List.pairwise_iff_getElem.1 h i j (by omega) hj hlt
    simpa [List.getD_eq_getElem?_getD, List.getElem?_eq_getElem hj, List.getElem?_eq_getElem (show i < L.length by omega)] using this
theorem getD_in (P L S : List Int) (i : Nat) (hi : i < L.length) : (P ++ (L ++ S)).getD (P.length + i) 0 = L.getD i 0 := by
  simp only [List.getD_eq_getElem?_getD]
  rw [List.getElem?_append_right (by omega), Nat.add_sub_cancel_left, List.getElem?_append_left hi]
theorem mem_take_at {L : List Int} {k : Nat} {x : Int} (h : x ∈ L.take k) : ∃ i, i < k ∧ i < L.length ∧ L.getD i 0 = x := by
  obtain ⟨i, hi, e⟩ := List.mem_iff_getElem.1 h
  rw [List.length_take] at hi
  refine ⟨i, by omega, by omega, ?_⟩
  rw [List.getElem_take] at e
  rw [List.getD_eq_getElem?_getD, List.getElem?_eq_getElem (by omega), ← e]
  rfl
theorem mem_drop_at {L : List Int} {k : Nat} {x : Int} (h : x ∈ L.drop k) : ∃ i, k ≤ i ∧ i < L.length ∧ L.getD i 0 = x := by
  obtain ⟨i, hi, e⟩ := List.mem_iff_getElem.1 h
  rw [List.length_drop] at hi
  refine ⟨k + i, by omega, by omega, ?_⟩
  rw [List.getElem_drop] at e
  rw [List.getD_eq_getElem?_getD, List.getElem?_eq_getElem (by omega), ← e]
  rfl
/-- Where the halves of a merge part. -/
structure SymCut (K : Int → Int) (L R L1 L2 R1 R2 : List Int) (a m b s e : Nat) : Prop where
  hL : L = L1 ++ L2
  hR : R = R1 ++ R2
  l1 : L1.length + a = s
  l2 : L2.length + s = m
  r1 : R1.length + m = e
  r2 : R2.length + e = b
  c1 : ∀ x ∈ L1, ∀ y ∈ R2, K x ≤ K y
  c2 : ∀ x ∈ L2, ∀ y ∈ R1, K y < K x
/-- What the search for the middle has found, among the places from s0 to r0. -/
theorem sym_cut {K : Int → Int} {L R : List Int} {a m b mid s0 r0 s : Nat} (hm : m = a + L.length) (hb : b = m + R.length) (hL : 0 < L.length) (hR : 0 < R.length) (sL : Srt K L) (sR : Srt K R) (hmid : mid = (a + b) / 2)
    (h0 : (mid < m ∧ s0 + b = mid + m ∧ r0 = mid) ∨ (m ≤ mid ∧ s0 = a ∧ r0 = m)) (h1 : s0 ≤ s) (h2 : s ≤ r0)
    (hlo : ∀ c, s0 ≤ c → c < s → K (L.getD (c - a) 0) ≤ K (R.getD (mid - 1 - c) 0)) (hhi : ∀ c, s ≤ c → c < r0 → K (R.getD (mid - 1 - c) 0) < K (L.getD (c - a) 0)) :
    SymCut K L R (L.take (s - a)) (L.drop (s - a)) (R.take (mid - s)) (R.drop (mid - s)) a m b s (mid + m - s) where
  hL := (List.take_append_drop _ _).symm
  hR := (List.take_append_drop _ _).symm
  l1 := by rw [List.length_take]; omega
  l2 := by rw [List.length_drop]; omega
  r1 := by rw [List.length_take]; omega
  r2 := by rw [List.length_drop]; omega
  c1 := by
    intro x hx y hy
    obtain ⟨i, hi1, hi2, rfl⟩ := mem_take_at hx
    obtain ⟨j, hj1, hj2, rfl⟩ := mem_drop_at hy
    have hs : s0 < s := by omega
    have h3 := hlo (s - 1) (by omega) (by omega)
    have h4 := srt_at sL (i := i) (j := s - 1 - a) (by omega) (by omega)
    have h5 := srt_at sR (i := mid - 1 - (s - 1)) (j := j) (by omega) hj2
    omega
  c2 := by
    intro x hx y hy
    obtain ⟨i, hi1, hi2, rfl⟩ := mem_drop_at hx
    obtain ⟨j, hj1, hj2, rfl⟩ := mem_take_at hy
    have hs : s < r0 := by omega
    have h3 := hhi s (by omega) hs
    have h4 := srt_at sL (i := s - a) (j := i) (by omega) hi2
    have h5 := srt_at sR (i := j) (j := mid - 1 - s) (by omega) (by omega)
    omega
set_option maxHeartbeats 4000000 in
set_option maxRecDepth 100000 in
theorem sym_calls (B : Nat) (w00 : World) (cb : Array Value) (K : Int → Int) (ok : Int → Prop) (HC : CmpOk B w00 124 cb K ok) (g N cap : Nat) : ∀ (n : Nat) (P L R S : List Int) (a m b : Nat) (V : World), L.length + R.length ≤ n → SymIn B w00 K ok g N cap P L R S a m b V →
    Calls Try.prog 172 #[.slice (some ⟨g, 0, none⟩) N cap, .int .i64 (a : Int), .int .i64 (m : Int), .int .i64 (b : Int), .func (.func 124) #[] cb] V fun e w' => e = .returned (.tuple #[]) ∧ Rw B w00 w' g N cap (P ++ (mrg K L R ++ S)) := by
  intro n
  induction n with
  | zero => intro P L R S a m b V hn H; have := H.hL; omega
  | succ n IH0 =>
    intro P L R S a m b V hn H
    by_cases h1 : L.length = 1
    · obtain ⟨x, rfl⟩ := List.length_eq_one_iff.1 h1
      exact sym_one B w00 cb K ok HC g N cap P R S x a m b V H
    by_cases h2 : R.length = 1
    · obtain ⟨y, rfl⟩ := List.length_eq_one_iff.1 h2
      exact sym_last B w00 cb K ok HC g N cap P L S y a m b V H h1
    have HCC := Aside0.mk HC
    have IH := Lib.hid (fun P L R S a m b V h => IH0 P L R S a m b V h)
    obtain ⟨C3, hC3⟩ : ∃ F, F = P ++ (mrg K L R ++ S) := ⟨_, rfl⟩
    rw [← hC3]
    have HC3 := Aside0.mk hC3
    clear hC3 HC
    have hlen := H.rw.len
    simp only [List.length_append] at hlen
    have hm := H.hm
    have hb := H.hb
    have ha := H.ha
    have hN := H.hN
    have hL := H.hL
    have hR := H.hR
    have HL := Lib.hid (And.intro hlen (And.intro hm hb))
    have HLE := Lib.hid (And.intro h1 (And.intro h2 (And.intro hL (And.intro hR hn))))
    have hbb : b ≤ 1000 := by omega
    have hmm : m < b := by omega
    have ham : a < m := by omega
    obtain ⟨q, hq⟩ : ∃ q : Nat, q + a = m := ⟨m - a, by omega⟩
    obtain ⟨r, hr⟩ : ∃ q : Nat, q + m = b := ⟨b - m, by omega⟩
    have W1 := Lib.hid (sub_w (m := m) (i := a) (p := q) hq (by omega))
    have W2 := Lib.hid (sub_w (m := b) (i := m) (p := r) hr (by omega))
    have b0 : ((q : Int) == 1) = false := by rw [beq_eq_false_iff_ne]; omega
    have b00 : (q == 1) = false := by rw [beq_eq_false_iff_ne]; omega
    have b1 : ((r : Int) == 1) = false := by rw [beq_eq_false_iff_ne]; omega
    have b11 : (r == 1) = false := by rw [beq_eq_false_iff_ne]; omega
    obtain ⟨mid, hmid⟩ : ∃ q : Nat, q = (a + b) / 2 := ⟨_, rfl⟩
    have HMID := Lib.hid hmid
    have hdm : ((a : Int) + (b : Int)) / 2 = (mid : Int) := by omega
    obtain ⟨nn, hnn⟩ : ∃ q : Nat, q = mid + m := ⟨_, rfl⟩
    have HNN := Lib.hid hnn
    have W3 := Lib.hid (add_w (m := mid) (i := m) (p := nn) hnn (by omega))
    obtain ⟨p, hp⟩ : ∃ q : Nat, q + 1 = nn := ⟨nn - 1, by omega⟩
    have HP := Lib.hid hp
    have W4 := Lib.hid (pred_w (j := nn) (p := p) hp (by omega))
    obtain ⟨s0, r0, hsr⟩ : ∃ s0 r0 : Nat, (mid < m ∧ s0 + b = nn ∧ r0 = mid) ∨ (m ≤ mid ∧ s0 = a ∧ r0 = m) := by
      by_cases hc : mid < m
      · exact ⟨nn - b, mid, Or.inl ⟨hc, by omega, rfl⟩⟩
      · exact ⟨a, m, Or.inr ⟨by omega, rfl, rfl⟩⟩
    have HSR := Lib.hid hsr
    have W5 : Hid (mid < m → IntKind.i64.wrap ((nn : Int) - (b : Int)) = (s0 : Int)) := Lib.hid (fun hc => sub_w (m := nn) (i := b) (p := s0) (by omega) (by omega))
    have HS := Aside0.mk H
    clear hlen hm hb ha H hq hr hL hR h1 h2 hn hmid hnn hp hsr
    have w1 := W1.out
    have w2 := W2.out
    have w3 := W3.out
    have w4 := W4.out
    go_enter Try.func172, Try.ntmps172
    go_upto_if 140 with (fail)
    go_cut [20, 21] from 141 to 146 (fun v20 v21 wc => v20 = .int .i64 (s0 : Int) ∧ v21 = .int .i64 (r0 : Int) ∧ wc = V)
    case first =>
      clear w1 w2 w3 w4 b0 b00 b1 b11 hdm hbb hmm ham hN
      by_cases hc : mid < m
      · have d1 : decide ((m : Int) > (mid : Int)) = true := decide_eq_true (by omega)
        have d2 : decide ((mid : Int) < (m : Int)) = true := decide_eq_true (by omega)
        have hr0 : Hid (r0 = mid) := by have := HSR.out; exact Lib.hid (by omega)
        have w5 := W5.out hc
        go_wp2_with fail
        go_meet
        exact ⟨rfl, by rw [hr0.out], rfl⟩
      · have d1 : decide ((m : Int) > (mid : Int)) = false := decide_eq_false (by omega)
        have d2 : decide ((mid : Int) < (m : Int)) = false := decide_eq_false (by omega)
        have hr0 : Hid (r0 = m) := by have := HSR.out; exact Lib.hid (by omega)
        have hs0 : Hid (s0 = a) := by have := HSR.out; exact Lib.hid (by omega)
        go_wp2_with fail
        go_meet
        exact ⟨by rw [hs0.out], by rw [hr0.out], rfl⟩
    case rest =>
      obtain ⟨rfl, rfl, rfl⟩ := hcut
      clear w1 w2 w3 b0 b00 b1 b11 hdm W1 W2 W3 W5
      have hs00 : s0 ≤ r0 := by have h1 := HSR.out; have h2 := HMID.out; have h3 := HNN.out; omega
      have hr1000 : r0 ≤ 1000 := by have h1 := HSR.out; omega
      have H0 := Aside0.mk HS.out.rw
      go_wp2_with fail
      clear w4
      go_loopw [20, 21] (fun v20 v21 w' => ∃ (i j : Nat), v20 = .int .i64 (i : Int) ∧ v21 = .int .i64 (j : Int) ∧ s0 ≤ i ∧ i ≤ j ∧ j ≤ r0 ∧ Aside0 (∀ c, s0 ≤ c → c < i → K (L.getD (c - a) 0) ≤ K (R.getD (mid - 1 - c) 0)) ∧ Aside0 (∀ c, j ≤ c → c < r0 → K (R.getD (mid - 1 - c) 0) < K (L.getD (c - a) 0)) ∧ Aside0 (Rw B w00 w' g N cap (P ++ (L ++ (R ++ S))))) (fun v20 v21 _ => (intOf v21).toNat - (intOf v20).toNat)
      case atStart => exact ⟨s0, r0, rfl, rfl, Nat.le_refl _, hs00, Nat.le_refl _, ⟨fun c h1 h2 => by omega⟩, ⟨fun c h1 h2 => by omega⟩, H0⟩
      case round =>
        clear H0
        obtain ⟨i, j, rfl, rfl, hi0, hij, hj0, HLO, HHI, HW⟩ := hrel
        by_cases hlt : i < j
        · have b1 : decide ((i : Int) < (j : Int)) = true := decide_eq_true (by omega)
          obtain ⟨c, hc⟩ : ∃ h : Nat, h = (i + j) / 2 := ⟨_, rfl⟩
          have hd2 : ((i : Int) + (j : Int)) / 2 = (c : Int) := by omega
          have hic : i ≤ c := by omega
          have hcj : c < j := by omega
          obtain ⟨hlen, hm, hb⟩ := HL.out
          have ha := HS.out.ha
          have hmid := HMID.out
          have hnn := HNN.out
          have hp := HP.out
          have hsr := HSR.out
          have hac : a ≤ c := by omega
          have hcm : c < m := by omega
          have hcl : c - a < L.length := by omega
          have hcr : mid - 1 - c < R.length := by omega
          have hcmid : c + 1 ≤ mid ∨ m ≤ mid := by omega
          obtain ⟨pc, hpc⟩ : ∃ q : Nat, q + c = p := ⟨p - c, by omega⟩
          have hpe : pc = P.length + L.length + (mid - 1 - c) := by omega
          have hca : c = P.length + (c - a) := by omega
          have W6 := Lib.hid (sub_w (m := p) (i := c) (p := pc) hpc (by omega))
          have hcN : c < N := by omega
          have hpN : pc < N := by omega
          have hc1 := HW.out.cell (i := c) hcN
          have hc2 := HW.out.cell (i := pc) hpN
          have g1 : (P ++ (L ++ (R ++ S))).getD c 0 = L.getD (c - a) 0 := by
            have := getD_in P L (R ++ S) (c - a) hcl
            rw [← hca] at this
            exact this
          have g2 : (P ++ (L ++ (R ++ S))).getD pc 0 = R.getD (mid - 1 - c) 0 := by
            have := getD_in (P ++ L) R S (mid - 1 - c) hcr
            rw [List.length_append, ← hpe, List.append_assoc] at this
            exact this
          rw [g1] at hc1
          rw [g2] at hc2
          have hokx : ok (L.getD (c - a) 0) := HS.out.okL _ (by rw [List.getD_eq_getElem?_getD, List.getElem?_eq_getElem hcl]; exact List.getElem_mem hcl)
          have hoky : ok (R.getD (mid - 1 - c) 0) := HS.out.okR _ (by rw [List.getD_eq_getElem?_getD, List.getElem?_eq_getElem hcr]; exact List.getElem_mem hcr)
          have mono1 : ∀ d, s0 ≤ d → d ≤ c → K (L.getD (d - a) 0) ≤ K (L.getD (c - a) 0) ∧ K (R.getD (mid - 1 - c) 0) ≤ K (R.getD (mid - 1 - d) 0) := fun d h1 h2 => ⟨srt_at HS.out.sL (by omega) hcl, srt_at HS.out.sR (by omega) (by omega)⟩
          have mono2 : ∀ d, c ≤ d → d < r0 → K (L.getD (c - a) 0) ≤ K (L.getD (d - a) 0) ∧ K (R.getD (mid - 1 - d) 0) ≤ K (R.getD (mid - 1 - c) 0) := fun d h1 h2 => ⟨srt_at HS.out.sL (by omega) (by omega), srt_at HS.out.sR (by omega) hcr⟩
          obtain ⟨x, hx⟩ : ∃ x, x = L.getD (c - a) 0 := ⟨_, rfl⟩
          obtain ⟨y, hy⟩ : ∃ y, y = R.getD (mid - 1 - c) 0 := ⟨_, rfl⟩
          rw [← hx] at hc1 hokx mono1 mono2
          rw [← hy] at hc2 hoky mono1 mono2
          obtain ⟨c1, f1⟩ := hc1
          obtain ⟨c2, f2⟩ := hc2
          have HCMP := Aside0.mk (fun q => HCC.out (wr.drewN q) (pw_below_drewN HW.out.2 q) y x hoky hokx)
          have p1 : 0 ≤ (c : Int) := by omega
          have p2 : (c : Int) < (N : Int) := by omega
          have p3 : 0 ≤ (pc : Int) := by omega
          have p4 : (pc : Int) < (N : Int) := by omega
          by_cases hk : K y < K x
          · have d1 := cmI_lt hk
            have n1 : Aside0 (∀ d, c ≤ d → d < r0 → K (R.getD (mid - 1 - d) 0) < K (L.getD (d - a) 0)) := ⟨fun d h1 h2 => by have := mono2 d h1 h2; omega⟩
            have n2 : c ≤ r0 := by omega
            clear hk mono1 mono2 hx hy hokx hoky g1 g2 hca hpe hpc hcmid hcl hcr hac hcm hsr hp hnn hmid ha hlen hm hb hc hpN hcN HHI
            have w6 := W6.out
            go_wp2_with fail
            go_quiet ((go_at_call 124; exact Calls.quiet_of (HCMP.out _)))
            have HW2 := Aside0.mk (HW.out.drewN nq)
            clear w6
            go_wp2_with fail
            go_roundw
            case rel => exact ⟨i, c, rfl, rfl, hi0, hic, n2, HLO, n1, HW2⟩
            case measure => simp [intOf]; omega
          · have d1 := cmI_ge hk
            have n1 : Aside0 (∀ d, s0 ≤ d → d < c + 1 → K (L.getD (d - a) 0) ≤ K (R.getD (mid - 1 - d) 0)) := ⟨fun d h1 h2 => by have := mono1 d h1 (by omega); omega⟩
            have n2 : s0 ≤ c + 1 := by omega
            have n3 : c + 1 ≤ j := by omega
            clear hk mono1 mono2 hx hy hokx hoky g1 g2 hca hpe hpc hcmid hcl hcr hac hcm hsr hp hnn hmid ha hlen hm hb hc hpN hcN HLO
            have w6 := W6.out
            go_wp2_with fail
            go_quiet ((go_at_call 124; exact Calls.quiet_of (HCMP.out _)))
            have HW2 := Aside0.mk (HW.out.drewN nq)
            clear w6
            go_wp2_with fail
            go_roundw
            case rel => exact ⟨c + 1, j, by go_num, rfl, n2, n3, hj0, n1, HHI, HW2⟩
            case measure => simp [intOf]; omega
        · have hje : j = i := by omega
          subst hje
          have hsc := sym_cut HL.out.2.1 HL.out.2.2 HLE.out.2.2.1 HLE.out.2.2.2.1 HS.out.sL HS.out.sR HMID.out (by have h1 := HSR.out; have h2 := HNN.out; omega) hi0 hj0 HLO.out HHI.out
          have hef : mid + m - j + j = nn := by have h1 := HSR.out; have h2 := HNN.out; omega
          generalize L.take (j - a) = L1 at hsc
          generalize L.drop (j - a) = L2 at hsc
          generalize R.take (mid - j) = R1 at hsc
          generalize R.drop (mid - j) = R2 at hsc
          generalize mid + m - j = e at hsc hef
          have W7 := Lib.hid (sub_w (m := nn) (i := j) (p := e) hef (by have := HNN.out; have := HMID.out; omega))
          have hnn := HNN.out
          have hmid := HMID.out
          have l1 := hsc.l1
          have l2 := hsc.l2
          have r1 := hsc.r1
          have r2 := hsc.r2
          have hN := HS.out.hN
          have hhL := hsc.hL
          have hhR := hsc.hR
          have hsp := mrg_split K _ L1 L2 R1 R2 rfl hsc.c1 hsc.c2
          rw [← hhL, ← hhR] at hsp
          have sL := HS.out.sL
          have sR := HS.out.sR
          rw [hhL] at sL
          rw [hhR] at sR
          have okL := HS.out.okL
          have okR := HS.out.okR
          rw [hhL] at okL
          rw [hhR] at okR
          have ha := HS.out.ha
          have hle := HLE.out
          have hlL : L.length = L1.length + L2.length := by rw [hhL, List.length_append]
          have hlR : R.length = R1.length + R2.length := by rw [hhR, List.length_append]
          have hml : (mrg K L1 R1).length = L1.length + R1.length := mrg_len K _ _ _ rfl
          obtain ⟨C0, hC0⟩ : ∃ C, C = P ++ (L ++ (R ++ S)) := ⟨_, rfl⟩
          obtain ⟨C1, hC1⟩ : ∃ C, C = P ++ (L1 ++ (R1 ++ (L2 ++ (R2 ++ S)))) := ⟨_, rfl⟩
          obtain ⟨C2, hC2⟩ : ∃ C, C = P ++ (mrg K L1 R1 ++ (L2 ++ (R2 ++ S))) := ⟨_, rfl⟩
          have hC3 := HC3.out
          have HROT : Hid (j < m ∧ m < e → ∀ V, Rw B w00 V g N cap C0 → Calls Try.prog 177 #[.slice (some ⟨g, 0, none⟩) N cap, .int .i64 (j : Int), .int .i64 (m : Int), .int .i64 (e : Int), .func (.func 124) #[] cb] V fun e w' => e = .returned (.tuple #[]) ∧ Rw B w00 w' g N cap C1) := Lib.hid (fun hk V hV => by
            have := rotate_calls B w00 g N cap (.func (.func 124) #[] cb) (P ++ L1) L2 R1 (R2 ++ S) j m e V (by rw [List.length_append]; omega) (by omega) (by omega) hk.1 hk.2 hN (by rw [hC0, hhL, hhR] at hV; simpa using hV)
            rw [show (P ++ L1) ++ (R1 ++ (L2 ++ (R2 ++ S))) = C1 by rw [hC1]; simp] at this
            exact this)
          have HROTn : Hid (¬ (j < m ∧ m < e) → C1 = C0) := Lib.hid (fun hk => by
            rw [hC0, hC1, hhL, hhR]
            rcases Nat.lt_or_ge j m with h3 | h3
            · obtain rfl := List.eq_nil_of_length_eq_zero (show R1.length = 0 by omega)
              simp
            · obtain rfl := List.eq_nil_of_length_eq_zero (show L2.length = 0 by omega)
              simp)
          have HLEFT : Hid (a < j ∧ j < mid → ∀ V, Rw B w00 V g N cap C1 → Calls Try.prog 172 #[.slice (some ⟨g, 0, none⟩) N cap, .int .i64 (a : Int), .int .i64 (j : Int), .int .i64 (mid : Int), .func (.func 124) #[] cb] V fun e w' => e = .returned (.tuple #[]) ∧ Rw B w00 w' g N cap C2) := Lib.hid (fun hk V hV => by
            rw [hC2]
            refine IH.out P L1 R1 (L2 ++ (R2 ++ S)) a j mid V (by omega) ⟨ha, by omega, by omega, by omega, by omega, hN, (Srt.app sL).1, (Srt.app sR).1, fun x hx => okL x (List.mem_append.2 (Or.inl hx)), fun x hx => okR x (List.mem_append.2 (Or.inl hx)), ?_⟩
            rw [hC1] at hV
            exact hV)
          have HLEFTn : Hid (¬ (a < j ∧ j < mid) → C2 = C1) := Lib.hid (fun hk => by
            rw [hC1, hC2]
            rcases Nat.lt_or_ge a j with h3 | h3
            · obtain rfl := List.eq_nil_of_length_eq_zero (show R1.length = 0 by omega)
              rw [mrg_nil_r]; simp
            · obtain rfl := List.eq_nil_of_length_eq_zero (show L1.length = 0 by omega)
              rw [mrg_nil_l]; simp)
          have HRIGHT : Hid (mid < e ∧ e < b → ∀ V, Rw B w00 V g N cap C2 → Calls Try.prog 172 #[.slice (some ⟨g, 0, none⟩) N cap, .int .i64 (mid : Int), .int .i64 (e : Int), .int .i64 (b : Int), .func (.func 124) #[] cb] V fun e w' => e = .returned (.tuple #[]) ∧ Rw B w00 w' g N cap C3) := Lib.hid (fun hk V hV => by
            rw [hC3, hsp]
            have := IH.out (P ++ mrg K L1 R1) L2 R2 S mid e b V (by omega) ⟨by rw [List.length_append, hml]; omega, by omega, by omega, by omega, by omega, hN, (Srt.app sL).2.1, (Srt.app sR).2.1, fun x hx => okL x (List.mem_append.2 (Or.inr hx)), fun x hx => okR x (List.mem_append.2 (Or.inr hx)), by rw [hC2] at hV; simpa using hV⟩
            simpa using this)
          have HRIGHTn : Hid (¬ (mid < e ∧ e < b) → C3 = C2) := Lib.hid (fun hk => by
            rw [hC2, hC3, hsp]
            rcases Nat.lt_or_ge mid e with h3 | h3
            · obtain rfl := List.eq_nil_of_length_eq_zero (show R2.length = 0 by omega)
              rw [mrg_nil_r]; simp
            · obtain rfl := List.eq_nil_of_length_eq_zero (show L2.length = 0 by omega)
              rw [mrg_nil_l]; simp)
          have hw0 := HW.out
          rw [← hC0] at hw0
          have HW0 := Aside0.mk hw0
          clear hw0 hml hlL hlR hle ha okL okR sL sR hsp hhL hhR hN l1 l2 r1 r2 hnn hmid hef hsc HW HLO HHI hC0 hC1 hC2 hC3 HC3 W4
          have w7 := W7.out
          go_upto_region 39 with (fail)
          go_cut [185] from 178 to 185 (fun v185 wc => v185 = .bool (decide (j < m ∧ m < e)) ∧ Aside0 (Rw B w00 wc g N cap C0))
          case first =>
            by_cases k1 : j < m
            · have d1 : decide ((j : Int) < (m : Int)) = true := decide_eq_true (by omega)
              by_cases k2 : m < e
              · have d2 : decide ((m : Int) < (e : Int)) = true := decide_eq_true (by omega)
                go_wp2_with fail
                go_meet
                exact ⟨by simp [k1, k2], HW0⟩
              · have d2 : decide ((m : Int) < (e : Int)) = false := decide_eq_false (by omega)
                go_wp2_with fail
                go_meet
                exact ⟨by simp [k1, k2], HW0⟩
            · have d1 : decide ((j : Int) < (m : Int)) = false := decide_eq_false (by omega)
              go_wp2_with fail
              go_meet
              exact ⟨by simp [k1], HW0⟩
          case rest =>
            obtain ⟨rfl, HW1⟩ := hcut
            go_upto_if 185 with (fail)
            go_cut [24] from 185 to 191 (fun v24 wc => v24 = .int .i64 (e : Int) ∧ Aside0 (Rw B w00 wc g N cap C1))
            case first =>
              by_cases k1 : j < m ∧ m < e
              · have d1 : decide (j < m ∧ m < e) = true := decide_eq_true k1
                have HCA := Lib.hid (HROT.out k1 _ HW1.out)
                go_wp2_with (go_at_call 177; refine HCA.out.mono ?_; rintro e_ wz ⟨rfl, hr⟩; have HS2 := Aside0.mk hr; clear hr)
                go_meet
                exact ⟨rfl, HS2⟩
              · have d1 : decide (j < m ∧ m < e) = false := decide_eq_false k1
                have HS2 : Aside0 (Rw B w00 _ g N cap C1) := ⟨by rw [HROTn.out k1]; exact HW1.out⟩
                go_wp2_with fail
                go_meet
                exact ⟨rfl, HS2⟩
            case rest =>
              obtain ⟨rfl, HW2⟩ := hcut
              clear HW1 HROT HROTn HW0
              go_upto_region 41 with (fail)
              go_cut [199] from 192 to 199 (fun v199 wc => v199 = .bool (decide (a < j ∧ j < mid)) ∧ Aside0 (Rw B w00 wc g N cap C1))
              case first =>
                by_cases k1 : a < j
                · have d1 : decide ((a : Int) < (j : Int)) = true := decide_eq_true (by omega)
                  by_cases k2 : j < mid
                  · have d2 : decide ((j : Int) < (mid : Int)) = true := decide_eq_true (by omega)
                    go_wp2_with fail
                    go_meet
                    exact ⟨by simp [k1, k2], HW2⟩
                  · have d2 : decide ((j : Int) < (mid : Int)) = false := decide_eq_false (by omega)
                    go_wp2_with fail
                    go_meet
                    exact ⟨by simp [k1, k2], HW2⟩
                · have d1 : decide ((a : Int) < (j : Int)) = false := decide_eq_false (by omega)
                  go_wp2_with fail
                  go_meet
                  exact ⟨by simp [k1], HW2⟩
              case rest =>
                obtain ⟨rfl, HW3⟩ := hcut
                go_upto_if 199 with (fail)
                go_cut [24] from 199 to 205 (fun v24 wc => v24 = .int .i64 (e : Int) ∧ Aside0 (Rw B w00 wc g N cap C2))
                case first =>
                  by_cases k1 : a < j ∧ j < mid
                  · have d1 : decide (a < j ∧ j < mid) = true := decide_eq_true k1
                    have HCA := Lib.hid (HLEFT.out k1 _ HW3.out)
                    go_wp2_with (go_at_call 172; refine HCA.out.mono ?_; rintro e_ wz ⟨rfl, hr⟩; have HS2 := Aside0.mk hr; clear hr)
                    go_meet
                    exact ⟨rfl, HS2⟩
                  · have d1 : decide (a < j ∧ j < mid) = false := decide_eq_false k1
                    have HS2 : Aside0 (Rw B w00 _ g N cap C2) := ⟨by rw [HLEFTn.out k1]; exact HW3.out⟩
                    go_wp2_with fail
                    go_meet
                    exact ⟨rfl, HS2⟩
                case rest =>
                  obtain ⟨rfl, HW4⟩ := hcut
                  clear HW2 HW3 HLEFT HLEFTn
                  go_upto_region 43 with (fail)
                  go_cut [213] from 206 to 213 (fun v213 wc => v213 = .bool (decide (mid < e ∧ e < b)) ∧ Aside0 (Rw B w00 wc g N cap C2))
                  case first =>
                    by_cases k1 : mid < e
                    · have d1 : decide ((mid : Int) < (e : Int)) = true := decide_eq_true (by omega)
                      by_cases k2 : e < b
                      · have d2 : decide ((e : Int) < (b : Int)) = true := decide_eq_true (by omega)
                        go_wp2_with fail
                        go_meet
                        exact ⟨by simp [k1, k2], HW4⟩
                      · have d2 : decide ((e : Int) < (b : Int)) = false := decide_eq_false (by omega)
                        go_wp2_with fail
                        go_meet
                        exact ⟨by simp [k1, k2], HW4⟩
                    · have d1 : decide ((mid : Int) < (e : Int)) = false := decide_eq_false (by omega)
                      go_wp2_with fail
                      go_meet
                      exact ⟨by simp [k1], HW4⟩
                  case rest =>
                    obtain ⟨rfl, HW5⟩ := hcut
                    by_cases k1 : mid < e ∧ e < b
                    · have d1 : decide (mid < e ∧ e < b) = true := decide_eq_true k1
                      have HCA := Lib.hid (HRIGHT.out k1 _ HW5.out)
                      go_wp2_with (go_at_call 172; refine HCA.out.mono ?_; rintro e_ wz ⟨rfl, hr⟩; have HS2 := Aside0.mk hr; clear hr)
                      go_end0
                      exact ⟨rfl, HS2.out⟩
                    · have d1 : decide (mid < e ∧ e < b) = false := decide_eq_false k1
                      have HS2 : Aside0 (Rw B w00 _ g N cap C3) := ⟨by rw [HRIGHTn.out k1]; exact HW5.out⟩
                      go_wp2_with fail
                      go_end0
                      exact ⟨rfl, HS2.out⟩


/-- A row that is sorted in blocks of s. -/
inductive IsB (K : Int → Int) (s : Nat) : List Int → List Int → Prop
  | last (xs : List Int) (h : xs.length ≤ s) : IsB K s xs (stab K xs)
  | more (A B ys : List Int) (h : A.length = s) (hB : IsB K s B ys) : IsB K s (A ++ B) (stab K A ++ ys)
def PreB (K : Int → Int) (s : Nat) (A ys : List Int) : Prop := ∀ Z zs, IsB K s Z zs → IsB K s (A ++ Z) (ys ++ zs)
theorem PreB.nil (K : Int → Int) (s : Nat) : PreB K s [] [] := fun Z zs h => h
theorem PreB.add {K : Int → Int} {s : Nat} {A ys C : List Int} (h : PreB K s A ys) (hC : C.length = s) : PreB K s (A ++ C) (ys ++ stab K C) := fun Z zs hz => by
  have := h _ _ (IsB.more C Z zs hC hz)
  simpa using this
theorem IsB.len {K : Int → Int} {s : Nat} {xs ys : List Int} (h : IsB K s xs ys) : ys.length = xs.length := by
  induction h with
  | last xs h => exact stab_len K xs
  | more A B ys h hB ih => rw [List.length_append, List.length_append, stab_len, ih]
theorem IsB.short {K : Int → Int} {s : Nat} (hs : 0 < s) {xs ys : List Int} (h : IsB K s xs ys) (hx : xs.length ≤ s) : ys = stab K xs := by
  cases h with
  | last _ h => rfl
  | more A B zs hA hB =>
    rw [List.length_append] at hx
    have h0 : B.length = 0 := by omega
    obtain rfl := List.eq_nil_of_length_eq_zero h0
    have := hB.len
    obtain rfl := List.eq_nil_of_length_eq_zero (show zs.length = 0 by rw [this]; rfl)
    simp
theorem IsB.head {K : Int → Int} {s : Nat} {xs ys : List Int} (h : IsB K s xs ys) (hx : s < xs.length) : ∃ A B zs, xs = A ++ B ∧ ys = stab K A ++ zs ∧ A.length = s ∧ IsB K s B zs := by
  cases h with
  | last _ h => omega
  | more A B zs hA hB => exact ⟨A, B, zs, rfl, rfl, hA, hB⟩
theorem IsB.head' {K : Int → Int} {s : Nat} {xs ys : List Int} (h : IsB K s xs ys) (hx : s ≤ xs.length) : ∃ A B zs, xs = A ++ B ∧ ys = stab K A ++ zs ∧ A.length = s ∧ IsB K s B zs := by
  cases h with
  | last _ h => exact ⟨xs, [], [], by simp, by simp, by omega, IsB.last [] (by simp)⟩
  | more A B zs hA hB => exact ⟨A, B, zs, rfl, rfl, hA, hB⟩
set_option maxHeartbeats 4000000 in
set_option maxRecDepth 100000 in
theorem stab_calls (B : Nat) (w00 : World) (cb : Array Value) (K : Int → Int) (ok : Int → Prop) (HC : CmpOk B w00 124 cb K ok) (g N cap : Nat) (xs : List Int) (V : World) (hN : N ≤ 100) (hok : ∀ x ∈ xs, ok x) (h : Rw B w00 V g N cap xs) :
    Calls Try.prog 156 #[.slice (some ⟨g, 0, none⟩) N cap, .int .i64 (N : Int), .func (.func 124) #[] cb] V fun e w' => e = .returned (.tuple #[]) ∧ Rw B w00 w' g N cap (stab K xs) := by
  have hlen := h.len
  have HOK := Aside0.mk hok
  have HLN := Lib.hid hlen
  have HINS := Lib.hid (fun P L S a b V h1 h2 h3 h4 h5 => ins_calls B w00 cb K ok HC g N cap P L S a b V h1 h2 h3 h4 h5)
  have HSYM := Lib.hid (fun n P L R S a m b V h1 h2 => sym_calls B w00 cb K ok HC g N cap n P L R S a m b V h1 h2)
  have H0 := Aside0.mk h
  clear h HC hok hlen
  go_enter Try.func156, Try.ntmps156
  go_wp2_with fail
  go_loopw [7, 8] (fun v7 v8 w' => ∃ (a b : Nat) (A Q ys : List Int), v7 = .int .i64 (a : Int) ∧ v8 = .int .i64 (b : Int) ∧ b = a + 20 ∧ a ≤ N ∧ Aside0 (A.length = a) ∧ Aside0 (ys.length = a) ∧ Aside0 (xs = A ++ Q) ∧ Aside0 (PreB K 20 A ys) ∧ Aside0 (Rw B w00 w' g N cap (ys ++ Q))) (fun _ v8 _ => N + 40 - (intOf v8).toNat)
  case atStart => exact ⟨0, 20, [], xs, [], rfl, rfl, rfl, Nat.zero_le _, ⟨rfl⟩, ⟨rfl⟩, ⟨by simp⟩, ⟨PreB.nil K 20⟩, ⟨by simpa using H0.out⟩⟩
  case round =>
    clear H0
    obtain ⟨a, b, A, Q, ys, rfl, rfl, hb, ha, HA, HY, HX, HP, HW⟩ := hrel
    have hql : Q.length + a = N := by
      have h1 := congrArg List.length HX.out
      rw [List.length_append] at h1
      have h2 := HLN.out
      have h3 := HA.out
      omega
    by_cases hlt : b ≤ N
    · have b1 : decide ((b : Int) ≤ (N : Int)) = true := decide_eq_true (by omega)
      have hlt' : (b : Int) ≤ (N : Int) := by omega
      obtain ⟨C, D, hQ, hC⟩ : ∃ C D, Q = C ++ D ∧ C.length = 20 := ⟨Q.take 20, Q.drop 20, (List.take_append_drop _ _).symm, by rw [List.length_take]; omega⟩
      have hins := HINS.out ys C D a b wr HY.out (by omega) (by omega) (fun x hx => HOK.out x (by rw [HX.out, hQ]; simp [hx])) (by have := HW.out; rw [hQ] at this; exact this)
      have HI := Lib.hid hins
      obtain ⟨b2, hb2⟩ : ∃ q : Nat, q = b + 20 := ⟨_, rfl⟩
      have n1 : Aside0 ((A ++ C).length = b) := ⟨by rw [List.length_append]; have := HA.out; omega⟩
      have n2 : Aside0 ((ys ++ stab K C).length = b) := ⟨by rw [List.length_append, stab_len]; have := HY.out; omega⟩
      have n3 : Aside0 (xs = (A ++ C) ++ D) := ⟨by rw [HX.out, hQ]; simp⟩
      have n4 : Aside0 (PreB K 20 (A ++ C) (ys ++ stab K C)) := ⟨HP.out.add hC⟩
      have WB := Lib.hid (show IntKind.i64.wrap ((b : Int) + 20) = (b2 : Int) by rw [i64_small (by omega) (by omega)]; omega)
      have HB2 := Lib.hid hb2
      have n5 : b < b2 := by omega
      have n6 : b2 ≤ N + 20 := by omega
      clear hins hQ hC hb2 hb HW HP HX HA HY hql
      have wb := WB.out
      go_wp2_with (go_at_call 171; refine HI.out.mono ?_; rintro e wz ⟨rfl, hr⟩; have HR := Aside0.mk hr; clear hr)
      clear wb
      go_roundw
      case rel => exact ⟨b, b2, A ++ C, D, ys ++ stab K C, rfl, rfl, HB2.out, hlt, n1, n2, n3, n4, ⟨by have := HR.out; simpa using this⟩⟩
      case measure => simp [intOf]; omega
    · have b1 : decide ((b : Int) ≤ (N : Int)) = false := decide_eq_false (by omega)
      have hlt' : ¬ (b : Int) ≤ (N : Int) := by omega
      have hins := HINS.out ys Q [] a N wr HY.out (by omega) (by omega) (fun x hx => HOK.out x (by rw [HX.out]; simp [hx])) (by have := HW.out; simpa using this)
      have HI := Lib.hid hins
      have hz0 : IsB K 20 xs (ys ++ stab K Q) := by rw [HX.out]; exact HP.out _ _ (IsB.last Q (by omega))
      obtain ⟨zs, hzs⟩ : ∃ zs, zs = ys ++ (stab K Q ++ []) := ⟨_, rfl⟩
      rw [show ys ++ stab K Q = zs by rw [hzs]; simp] at hz0
      rw [← hzs] at HI
      have HZ := Aside0.mk hz0
      clear hins hb HW HP HX HA HY hql hzs hz0
      go_wp2_with (go_at_call 171; refine HI.out.mono ?_; rintro e wz ⟨rfl, hr⟩; have HR := Aside0.mk hr; clear hr)
      go_loopw [6, 7, 8, 9] (fun v6 v7 v8 v9 w' => ∃ (s : Nat) (zs : List Int), v6 = .int .i64 (s : Int) ∧ 20 ≤ s ∧ s ≤ 1000 ∧ Aside0 (IsB K s xs zs) ∧ Aside0 (Rw B w00 w' g N cap zs)) (fun v6 _ _ _ _ => 1000 - (intOf v6).toNat)
      case atStart => exact ⟨20, zs, rfl, Nat.le_refl _, by omega, HZ, HR⟩
      case round =>
        clear HZ HR
        obtain ⟨s, zs, rfl, hs0, hs1, HZ, HR⟩ := hrel
        by_cases hsn : s < N
        · have b2 : decide ((s : Int) < (N : Int)) = true := decide_eq_true (by omega)
          obtain ⟨t, ht⟩ : ∃ q : Nat, q = 2 * s := ⟨_, rfl⟩
          have HT := Lib.hid ht
          have WT : Hid (IntKind.i64.wrap (2 * (s : Int)) = (t : Int)) := Lib.hid (by rw [i64_small (by omega) (by omega)]; omega)
          have WT2 : Hid (IntKind.i64.wrap ((s : Int) * 2) = (t : Int)) := Lib.hid (by rw [i64_small (by omega) (by omega)]; omega)
          clear ht
          have wt := WT.out
          go_wp2_with fail
          clear wt
          go_loopw [7, 8] (fun v7 v8 w' => ∃ (a b : Nat) (A Q ys qs : List Int), v7 = .int .i64 (a : Int) ∧ v8 = .int .i64 (b : Int) ∧ b = a + t ∧ a ≤ N ∧ Aside0 (A.length = a) ∧ Aside0 (ys.length = a) ∧ Aside0 (xs = A ++ Q) ∧ Aside0 (PreB K t A ys) ∧ Aside0 (IsB K s Q qs) ∧ Aside0 (Rw B w00 w' g N cap (ys ++ qs))) (fun _ v8 _ => N + 3 * t - (intOf v8).toNat)
          case atStart => exact ⟨0, t, [], xs, [], zs, rfl, rfl, by omega, Nat.zero_le _, ⟨rfl⟩, ⟨rfl⟩, ⟨by simp⟩, ⟨PreB.nil K t⟩, HZ, ⟨by simpa using HR.out⟩⟩
          case round =>
            clear HZ HR
            obtain ⟨a, b, A, Q, ys, qs, rfl, rfl, hb, ha, HA, HY, HX, HP, HQ, HW⟩ := hrel
            have hql : Q.length + a = N := by
              have h1 := congrArg List.length HX.out
              rw [List.length_append] at h1
              have h2 := HLN.out
              have h3 := HA.out
              omega
            have ht := HT.out
            have hN20 : 20 < N := by omega
            by_cases hltb : b ≤ N
            · have b3 : decide ((b : Int) ≤ (N : Int)) = true := decide_eq_true (by omega)
              have hltb' : (b : Int) ≤ (N : Int) := by omega
              obtain ⟨B1, Q1, q1, rfl, rfl, hB1, hQ1⟩ := HQ.out.head (by omega)
              have hl1 : B1.length + Q1.length + a = N := by rw [← hql, List.length_append]
              obtain ⟨B2, Q2, q2, rfl, rfl, hB2, hQ2⟩ := hQ1.head' (by omega)
              obtain ⟨am, ham⟩ : ∃ q : Nat, q = a + s := ⟨_, rfl⟩
              have hin : SymIn B w00 K ok g N cap ys (stab K B1) (stab K B2) q2 a am b wr := ⟨HY.out, by rw [stab_len]; omega, by rw [stab_len]; omega, by rw [stab_len]; omega, by rw [stab_len]; omega, by omega, stab_srt K B1, stab_srt K B2, fun x hx => HOK.out x (by rw [HX.out]; simp [(stab_mem K x B1).1 hx]), fun x hx => HOK.out x (by rw [HX.out]; simp [(stab_mem K x B2).1 hx]), HW.out⟩
              have hsy := HSYM.out _ ys (stab K B1) (stab K B2) q2 a am b wr (Nat.le_refl _) hin
              rw [stab_app] at hsy
              have HI := Lib.hid hsy
              have hlb : (B1 ++ B2).length = t := by rw [List.length_append]; omega
              obtain ⟨b2', hb2⟩ : ∃ q : Nat, q = b + t := ⟨_, rfl⟩
              have n1 : Aside0 ((A ++ (B1 ++ B2)).length = b) := ⟨by rw [List.length_append, hlb]; have := HA.out; omega⟩
              have n2 : Aside0 ((ys ++ stab K (B1 ++ B2)).length = b) := ⟨by rw [List.length_append, stab_len, hlb]; have := HY.out; omega⟩
              have n3 : Aside0 (xs = (A ++ (B1 ++ B2)) ++ Q2) := ⟨by rw [HX.out]; simp⟩
              have n4 : Aside0 (PreB K t (A ++ (B1 ++ B2)) (ys ++ stab K (B1 ++ B2))) := ⟨HP.out.add hlb⟩
              have n7 : Aside0 (IsB K s Q2 q2) := ⟨hQ2⟩
              have W1 : Hid (IntKind.i64.wrap ((a : Int) + (s : Int)) = (am : Int)) := Lib.hid (add_w ham (by omega))
              have W2 : Hid (IntKind.i64.wrap ((b : Int) + (t : Int)) = (b2' : Int)) := Lib.hid (add_w hb2 (by omega))
              have HB2 := Lib.hid hb2
              have n5 : b < b2' := by omega
              have n6 : b2' ≤ N + t := by omega
              clear hsy hin hB1 hB2 hQ1 hQ2 hl1 hlb hb2 ham hb HW HP HX HA HY HQ hql ht
              have w1 := W1.out
              have w2 := W2.out
              have w3 := WT.out
              have w4 := WT2.out
              go_wp2_with (go_at_call 172; refine HI.out.mono ?_; rintro e wz ⟨rfl, hr⟩; have HR := Aside0.mk hr; clear hr)
              clear w1 w2 w3 w4
              go_roundw
              case rel => exact ⟨b, b2', A ++ (B1 ++ B2), Q2, ys ++ stab K (B1 ++ B2), q2, rfl, rfl, HB2.out, hltb, n1, n2, n3, n4, n7, ⟨by have := HR.out; simpa using this⟩⟩
              case measure => simp [intOf]; omega
            · have b3 : decide ((b : Int) ≤ (N : Int)) = false := decide_eq_false (by omega)
              have hltb' : ¬ (b : Int) ≤ (N : Int) := by omega
              obtain ⟨mm, hmm⟩ : ∃ q : Nat, q = a + s := ⟨_, rfl⟩
              have W1 : Hid (IntKind.i64.wrap ((a : Int) + (s : Int)) = (mm : Int)) := Lib.hid (add_w hmm (by omega))
              have ht1 : t ≤ 1000 := by omega
              have ht0 : 20 ≤ t := by omega
              have hst : s < t := by omega
              by_cases hmn : mm < N
              · have b4 : decide ((mm : Int) < (N : Int)) = true := decide_eq_true (by omega)
                obtain ⟨B1, Q1, q1, rfl, rfl, hB1, hQ1⟩ := HQ.out.head (by omega)
                have hl1 : B1.length + Q1.length + a = N := by rw [← hql, List.length_append]
                obtain rfl := hQ1.short (by omega) (by omega)
                have hin : SymIn B w00 K ok g N cap ys (stab K B1) (stab K Q1) [] a mm N wr := ⟨HY.out, by rw [stab_len]; omega, by rw [stab_len]; omega, by rw [stab_len]; omega, by rw [stab_len]; omega, by omega, stab_srt K B1, stab_srt K Q1, fun x hx => HOK.out x (by rw [HX.out]; simp [(stab_mem K x B1).1 hx]), fun x hx => HOK.out x (by rw [HX.out]; simp [(stab_mem K x Q1).1 hx]), by have := HW.out; simpa using this⟩
                have hsy := HSYM.out _ ys (stab K B1) (stab K Q1) [] a mm N wr (Nat.le_refl _) hin
                rw [stab_app] at hsy
                have HI := Lib.hid hsy
                have n1 : Aside0 (IsB K t xs (ys ++ (stab K (B1 ++ Q1) ++ []))) := ⟨by rw [HX.out, List.append_nil]; exact HP.out _ _ (IsB.last _ (by rw [List.length_append]; omega))⟩
                clear hsy hin hB1 hQ1 hl1 hmm hb HW HP HX HA HY HQ hql ht
                have w1 := W1.out
                have w3 := WT.out
                have w4 := WT2.out
                go_wp2_with (go_at_call 172; refine HI.out.mono ?_; rintro e wz ⟨rfl, hr⟩; have HR := Aside0.mk hr; clear hr)
                clear w1 w3 w4
                go_roundw
                case rel => exact ⟨t, _, rfl, ht0, ht1, n1, HR⟩
                case measure => simp [intOf]; omega
              · have b4 : decide ((mm : Int) < (N : Int)) = false := decide_eq_false (by omega)
                have hq := HQ.out.short (by omega) (by omega)
                have n1 : Aside0 (IsB K t xs (ys ++ qs)) := ⟨by rw [HX.out, hq]; exact HP.out _ _ (IsB.last _ (by omega))⟩
                clear hmm hb HP HX HA HY HQ hql ht hq
                have w1 := W1.out
                have w3 := WT.out
                have w4 := WT2.out
                go_wp2_with fail
                clear w1 w3 w4
                go_roundw
                case rel => exact ⟨t, _, rfl, ht0, ht1, n1, HW⟩
                case measure => simp [intOf]; omega
        · have b2 : decide ((s : Int) < (N : Int)) = false := decide_eq_false (by omega)
          have hz := HZ.out.short (by omega) (by have := HLN.out; omega)
          have hr := HR.out
          rw [hz] at hr
          have HR2 := Aside0.mk hr
          clear hz hr
          go_wp2_with fail
          go_end0
          exact ⟨rfl, HR2.out⟩


set_option maxHeartbeats 2000000 in
set_option maxRecDepth 100000 in
theorem newMachine_calls (A : Option Addr) (c : Nat) (jobs : List (S67)) (w : World) (hl : jobs.length ≤ 1000000) :
    Calls Try.prog 118 #[.slice A jobs.length c] w fun e w' => ∃ (g : Nat) (dv : Value), e = .returned (.pointer (some ⟨g, 0, none⟩)) ∧ w.heap.size ≤ g ∧ w'.heap[g]? = some (.cells #[.slice A jobs.length c, dv, .int .i64 0] 124 (0, 0)) ∧ Kd.R (Kd.int .i64) 3 w' w.heap.size (fun _ => True) dv (List.replicate jobs.length 0) ∧ Below w.heap.size w w' := by
  have hu := Try.underlying124
  have HB := Aside0.mk (Below.refl w.heap.size w)
  have n0 : (0 : Int) ≤ (jobs.length : Int) := by omega
  go_enter Try.func118, Try.ntmps118
  go_wp2_with (first | ((with_reducible refine gate_dst (N := 6) rfl ?_); refine Kd.R_make (Kd.int .i64) _ 3 rfl (N := 6) rfl 30 _ _ rfl (jobs.length : Int) rfl rfl Try.underlying30 (.int .i64 0) 8 info3 rfl (by decide) (by omega) 0 (ok := fun _ => True) (okp := fun _ => True) rfl (fun _ hk => hk) trivial n0 (by simp only [Int.toNat_natCast]; omega) (Below.refl _ _) (Nat.le_refl _) ?_; intro v103 w11 ho12 hb hg_ hnew_; clear hg_ hnew_; simp only [Int.toNat_natCast] at ho12; have n0_ := Aside0.mk ho12; have n1_ := Aside0.mk (below_step (by repeat (first | (with_reducible first | exact HB.out | apply below_alloc | apply pw_below_drewN | apply below_drew1) | exact HB.out)) hb); clear HB; have HO := n0_; have HB := n1_; clear n0_ n1_; clear hb ho12; obtain ⟨Ad, cd, ed⟩ := Kd.R_slice HO.out; have hln : (List.replicate jobs.length (0 : Int)).length = jobs.length := List.length_replicate; rw [hln] at ed; subst ed; clear hln) | ((with_reducible refine gate_dst (N := 8) rfl ?_); refine box_event ?hg (N := 8) ?hd (cs := #[.slice A jobs.length c, .slice Ad jobs.length cd, .int .i64 0]) (t := 124) ?hr ?_; (case hd => rfl); (case hg => rfl); (case hr => first | (go_simp; done) | (go_simp; rfl)); intro g hg w2 hbox hb2; have HG := Aside0.mk hg; have HBX := Aside0.mk hbox; have HB2 := Aside0.mk hb2; clear hg hbox hb2))
  go_ret
  exact ⟨g, .slice Ad jobs.length cd, rfl, by rw [HG.out]; exact HB.out.size, HBX.out, Kd.R_below HO.out HB2.out, below_step HB.out HB2.out⟩


theorem isNaN_calls (x : Int) (w : World) : Calls Try.prog 157 #[.int .i64 x] w fun e w' => e = .returned (.bool false) ∧ ∃ m, w' = w.drewN m := by
  have h1 : (x != x) = false := by simp
  go_enter Try.func157, Try.ntmps157
  go_wp2
  go_ret
  exact ⟨rfl, 0, rfl⟩
set_option maxHeartbeats 2000000 in
set_option maxRecDepth 100000 in
theorem compare_calls (a b : Int) (w : World) : Calls Try.prog 125 #[.int .i64 a, .int .i64 b] w fun e w' => e = .returned (.int .i64 (cmI a b)) ∧ ∃ m, w' = w.drewN m := by
  have HA := Lib.hid (fun V => isNaN_calls a V)
  have HB := Lib.hid (fun V => isNaN_calls b V)
  unfold cmI
  by_cases h1 : a < b
  · have b1 : decide (a < b) = true := decide_eq_true h1
    rw [if_pos h1]
    clear h1
    go_enter Try.func125, Try.ntmps125
    go_wp2_with (first | (go_at_call 157; refine (HA.out _).mono ?_; rintro e w2 ⟨rfl, mm, rfl⟩; try rw [World.drewN_drewN]) | (go_at_call 157; refine (HB.out _).mono ?_; rintro e w2 ⟨rfl, mm, rfl⟩; try rw [World.drewN_drewN]))
    go_ret
    exact ⟨rfl, _, rfl⟩
  · have b1 : decide (a < b) = false := decide_eq_false h1
    rw [if_neg h1]
    clear h1
    by_cases h2 : b < a
    · have b2 : decide (b < a) = true := decide_eq_true h2
      rw [if_pos h2]
      clear h2
      go_enter Try.func125, Try.ntmps125
      go_wp2_with (first | (go_at_call 157; refine (HA.out _).mono ?_; rintro e w2 ⟨rfl, mm, rfl⟩; try rw [World.drewN_drewN]) | (go_at_call 157; refine (HB.out _).mono ?_; rintro e w2 ⟨rfl, mm, rfl⟩; try rw [World.drewN_drewN]))
      go_ret
      exact ⟨rfl, _, rfl⟩
    · have b2 : decide (b < a) = false := decide_eq_false h2
      rw [if_neg h2]
      clear h2
      go_enter Try.func125, Try.ntmps125
      go_wp2_with (first | (go_at_call 157; refine (HA.out _).mono ?_; rintro e w2 ⟨rfl, mm, rfl⟩; try rw [World.drewN_drewN]) | (go_at_call 157; refine (HB.out _).mono ?_; rintro e w2 ⟨rfl, mm, rfl⟩; try rw [World.drewN_drewN]))
      go_ret
      exact ⟨rfl, _, rfl⟩
set_option maxHeartbeats 2000000 in
set_option maxRecDepth 100000 in
theorem g_cmp (gb : Nat) (A : Option Addr) (c : Nat) (jobs : List (S67)) (W : World) (hc : W.cell? ⟨gb, 0, none⟩ = some (.slice A jobs.length c)) (hr : Kd.C k67 W A jobs.length jobs) (x y : Int) (hx0 : 0 ≤ x ∧ x < jobs.length) (hy0 : 0 ≤ y ∧ y < jobs.length) :
    Calls Try.prog 124 (#[.int .i64 x, .int .i64 y] ++ #[.pointer (some ⟨gb, 0, none⟩)]) W fun e w' => e = .returned (.int .i64 (cmI (keyJ jobs x) (keyJ jobs y))) ∧ ∃ q, w' = W.drewN q := by
  obtain ⟨xn, rfl⟩ : ∃ n : Nat, x = (n : Int) := ⟨x.toNat, by omega⟩
  obtain ⟨yn, rfl⟩ : ∃ n : Nat, y = (n : Int) := ⟨y.toNat, by omega⟩
  obtain ⟨ad0, e0, _, _, hx, _⟩ := at_T67 hr (xn : Int) (by omega) (by omega)
  cases e0
  obtain ⟨ad1, e1, _, _, hy, _⟩ := at_T67 hr (yn : Int) (by omega) (by omega)
  cases e1
  simp only [Int.toNat_natCast] at hx hy
  have ex : (rd_T67 jobs (xn : Int)).f2 = keyJ jobs (xn : Int) := rfl
  have ey : (rd_T67 jobs (yn : Int)).f2 = keyJ jobs (yn : Int) := rfl
  rw [ex] at hx
  rw [ey] at hy
  obtain ⟨dx, hdx⟩ : ∃ dx, dx = keyJ jobs (xn : Int) := ⟨_, rfl⟩
  obtain ⟨dy, hdy⟩ : ∃ dy, dy = keyJ jobs (yn : Int) := ⟨_, rfl⟩
  rw [← hdx] at hx ⊢
  rw [← hdy] at hy ⊢
  have hmx : jobs.length ≤ 9223372036854775807 := hr.2.1
  show Calls Try.prog 124 #[.int .i64 (xn : Int), .int .i64 (yn : Int), .pointer (some ⟨gb, 0, none⟩)] W _
  have p0 : 0 ≤ (xn : Int) := by omega
  have p1 : (xn : Int) < (jobs.length : Int) := by omega
  have p2 : 0 ≤ (yn : Int) := by omega
  have p3 : (yn : Int) < (jobs.length : Int) := by omega
  have HC := Lib.hid (fun V => compare_calls dx dy V)
  have huJ := Try.underlying67
  clear ex ey hdx hdy hr hx0 hy0
  go_enter Try.func124, Try.ntmps124
  go_wp2_with fail
  go_quiet ((go_at_call 125; exact Calls.quiet_of (HC.out _)))
  go_wp2
  go_ret
  exact ⟨rfl, _, rfl⟩
theorem insertionNil_calls (A : Option Addr) (c : Nat) (fv : Value) (w : World) : Calls Try.prog 171 #[.slice A 0 c, .int .i64 0, .int .i64 0, fv] w fun e w' => e = .returned (.tuple #[]) ∧ w' = w := by
  go_enter Try.func171, Try.ntmps171
  go_wp2_with fail
  go_loopw [8] (fun v8 w' => v8 = .int .i64 1 ∧ w' = w) (fun _ _ => 0)
  case atStart => exact ⟨rfl, rfl⟩
  case round =>
    obtain ⟨rfl, rfl⟩ := hrel
    go_wp2
    go_end0
    exact ⟨rfl, rfl⟩
theorem stableNil_calls (A : Option Addr) (c : Nat) (fv : Value) (w : World) : Calls Try.prog 156 #[.slice A 0 c, .int .i64 0, fv] w fun e w' => e = .returned (.tuple #[]) ∧ w' = w := by
  have HI := Lib.hid (insertionNil_calls A c fv w)
  go_enter Try.func156, Try.ntmps156
  go_wp2_with fail
  go_loopw [7, 8] (fun v7 v8 w' => v7 = .int .i64 0 ∧ v8 = .int .i64 20 ∧ w' = w) (fun _ _ _ => 0)
  case atStart => exact ⟨rfl, rfl, rfl⟩
  case round =>
    obtain ⟨rfl, rfl, rfl⟩ := hrel
    go_wp2_with (go_at_call 171; refine HI.out.mono ?_; rintro e w2 ⟨rfl, rfl⟩)
    go_loopw [6] (fun v6 w' => v6 = .int .i64 20 ∧ w' = w2) (fun _ _ => 0)
    case atStart => exact ⟨rfl, rfl⟩
    case round =>
      obtain ⟨rfl, rfl⟩ := hrel
      go_wp2
      go_end0
      exact ⟨rfl, rfl⟩
theorem sortNil_calls (A : Option Addr) (c : Nat) (fv : Value) (w : World) : Calls Try.prog 123 #[.slice A 0 c, fv] w fun e w' => e = .returned (.tuple #[]) ∧ w' = w := by
  have HS := Lib.hid (stableNil_calls A c fv w)
  go_enter Try.func123, Try.ntmps123
  go_wp2_with (go_at_call 156; refine HS.out.mono ?_; rintro e w2 ⟨rfl, rfl⟩)
  go_end0
  exact ⟨rfl, rfl⟩
/-- slices.SortStableFunc by deadline, at a row of the call's own. -/
theorem sortJobs_calls (gb : Nat) (A : Option Addr) (c : Nat) (jobs : List (S67)) (Wt V : World) (hc : Wt.cell? ⟨gb, 0, none⟩ = some (.slice A jobs.length c)) (hr : Kd.C k67 Wt A jobs.length jobs)
    (v : Value) (xs : List Int) (h99 : xs.length ≤ 100) (hx : ∀ x ∈ xs, 0 ≤ x ∧ x < jobs.length) (hV : Below Wt.heap.size Wt V)
    (hR : Kd.R (Kd.int .i64) 3 V Wt.heap.size (fun _ => True) v xs) :
    Calls Try.prog 123 #[v, .func (.func 124) #[] #[.pointer (some ⟨gb, 0, none⟩)]] V fun e w' => e = .returned (.tuple #[]) ∧
      Kd.R (Kd.int .i64) 3 w' Wt.heap.size (fun _ => True) v (stab (keyJ jobs) xs) ∧ Below Wt.heap.size Wt w' := by
  rcases Nat.eq_zero_or_pos xs.length with h0 | hpos
  · obtain rfl := List.eq_nil_of_length_eq_zero h0
    obtain ⟨A', c', rfl⟩ := Kd.R_slice hR
    refine (sortNil_calls A' c' _ V).mono ?_
    rintro e w' ⟨rfl, rfl⟩
    exact ⟨rfl, hR, hV⟩
  · obtain ⟨g0, cap, rfl, _⟩ := Kd.R_form hR hpos
    have hst := stab_calls Wt.heap.size Wt #[.pointer (some ⟨gb, 0, none⟩)] (keyJ jobs) (fun x => 0 ≤ x ∧ x < jobs.length) (fun U hU x y hx hy => g_cmp gb A c jobs U ((hU.cell (World.block_lt_of_cell? _ _ hc)).trans hc) (Kd.C_below hr hU) x y hx hy) g0 xs.length cap xs V h99 hx ⟨hR, hV⟩
    have HS := Lib.hid hst
    clear hst hR hV hr hc hx
    go_enter Try.func123, Try.ntmps123
    go_wp2_with (go_at_call 156; refine HS.out.mono ?_; rintro e w2 ⟨rfl, h1⟩; have H1 := Lib.hid h1; clear h1)
    go_end0
    exact ⟨rfl, H1.out.1, H1.out.2⟩


section
variable {w W W2 : World} {g go g4 gb gr : Nat} {A : Option Addr} {c : Nat} {jobs : List (S67)} {dv fv : Value} {done fin : List Int} {now : Int} {us : List Value} {rows : List (List Int)}
def nilV : Value := .slice none 0 0
/-- The rows of a run: the cells of a block are slices, no two of one block. -/
structure Gr (W : World) (base gr : Nat) (us : List Value) (rows : List (List Int)) : Prop where
  blk : W.heap[gr]? = some (.cells us.toArray 30 (0, 0))
  len : us.length = rows.length
  row : ∀ i, i < rows.length → Kd.RR (Kd.int .i64) 3 W base (fun _ => True) (us.getD i nilV) (rows.getD i [])
  apart : ∀ i j k, i < rows.length → j < rows.length → i ≠ j → (us.getD i nilV).ownBlock = some k → (us.getD j nilV).ownBlock ≠ some k
/-- What the simulation holds in memory. -/
def GI (w : World) (g go g4 gb gr : Nat) (A : Option Addr) (c : Nat) (jobs : List (S67)) (dv fv : Value) (W : World) (done fin : List Int) (now : Int) (us : List Value) (rows : List (List Int)) : Prop :=
  W.heap[g]? = some (.cells #[.slice A jobs.length c, dv, .int .i64 now] 124 (0, 0)) ∧
  W.heap[go]? = some (.cells #[.slice (some ⟨gr, 0, none⟩) 120 120, fv] 80 (0, 0)) ∧
  W.heap[g4]? = some (.cells #[.slice none 0 0, .slice none 0 0] 80 (0, 0)) ∧
  W.heap[gb]? = some (.cells #[.slice A jobs.length c] 39 (0, 0)) ∧
  Gr W w.heap.size gr us rows ∧
  Kd.R (Kd.int .i64) 3 W w.heap.size (fun _ => True) dv done ∧ Kd.R (Kd.int .i64) 3 W w.heap.size (fun _ => True) fv fin ∧ Below w.heap.size w W
def GD (w : World) (g go g4 gb gr : Nat) (dv fv : Value) (us : List Value) : Prop :=
  w.heap.size ≤ g ∧ w.heap.size ≤ go ∧ w.heap.size ≤ g4 ∧ w.heap.size ≤ gb ∧ w.heap.size ≤ gr ∧ go ≠ g4 ∧ (∀ k, dv.ownBlock = some k → fv.ownBlock ≠ some k) ∧ (∀ i k, i < us.length → (us.getD i nilV).ownBlock = some k → dv.ownBlock ≠ some k ∧ fv.ownBlock ≠ some k)
theorem ne_of_type {W : World} {a b : Nat} {cs ds : Array Value} {t u : TypeId} (h : W.heap[a]? = some (.cells cs t (0, 0))) (k : W.heap[b]? = some (.cells ds u (0, 0))) (hne : t ≠ u) : a ≠ b := fun e => by
  rw [e, k] at h
  injection h with h
  injection h with _ h
  exact hne h.symm
theorem row_stepG {v : Value} {xs : List Int} {base : Nat} (h : Kd.R (Kd.int .i64) 3 W base (fun _ => True) v xs) (hm : ∀ k, v.ownBlock = some k → k < W.heap.size → W2.heap[k]? = W.heap[k]?) : Kd.R (Kd.int .i64) 3 W2 base (fun _ => True) v xs :=
  Kd.R_mono (Kd.R_step (Kd.R_tight rfl h) (fun k hk hlt => hm k hk.symm hlt)) (fun _ _ => trivial)
theorem rr_stepG {v : Value} {xs : List Int} {base : Nat} (h : Kd.RR (Kd.int .i64) 3 W base (fun _ => True) v xs) (hm : ∀ k, v.ownBlock = some k → k < W.heap.size → W2.heap[k]? = W.heap[k]?) : Kd.RR (Kd.int .i64) 3 W2 base (fun _ => True) v xs := by
  obtain ⟨B, n, c, c', rfl, hcc, hc, h⟩ := h
  exact ⟨B, n, c, c', rfl, hcc, hc, row_stepG h (fun k e => hm k (by rw [ob_eq B n c n c']; exact e))⟩
theorem Gr.step {base : Nat} (h : Gr W base gr us rows) (hg : W2.heap[gr]? = W.heap[gr]?) (hm : ∀ i k, i < us.length → (us.getD i nilV).ownBlock = some k → k < W.heap.size → W2.heap[k]? = W.heap[k]?) : Gr W2 base gr us rows :=
  ⟨hg.trans h.blk, h.len, fun i hi => rr_stepG (h.row i hi) (fun k e hk => hm i k (by rw [h.len]; exact hi) e hk), h.apart⟩
theorem Gr.below {base : Nat} (h : Gr W base gr us rows) (hb : Below W.heap.size W W2) : Gr W2 base gr us rows :=
  h.step (hb.block gr (blk_lt h.blk)) (fun _ k _ _ hk => hb.block k hk)
/-- A store into a block of another type. -/
theorem Gr.far {base q : Nat} {cs : Array Value} {t : TypeId} (h : Gr W base gr us rows) (hq : W.heap[q]? = some (.cells cs t (0, 0))) (ht : 3 ≠ t) (ht2 : 30 ≠ t) (j : Nat) (u : Value) : Gr (W.setCell ⟨q, j, none⟩ u) base gr us rows :=
  h.step (Below.heap_setCell _ _ _ gr (ne_of_type h.blk hq ht2)) (fun i k hi e _ => Below.heap_setCell _ _ _ k (fun e' => Kd.RR_ne (h.row i (by rw [← h.len]; exact hi)) hq ht (by rw [e, e'])))
theorem getD_setV (l : List Value) (i j : Nat) (x : Value) : (l.set i x).getD j nilV = if i = j ∧ j < l.length then x else l.getD j nilV := by
  rw [List.getD_eq_getElem?_getD, List.getD_eq_getElem?_getD, List.getElem?_set]
  split
  · rename_i e
    split
    · rename_i h; rw [if_pos ⟨e, by omega⟩]; rfl
    · rename_i h; rw [if_neg (by omega), List.getElem?_eq_none (by omega)]
  · rename_i e; rw [if_neg (by omega)]
theorem getD_setR (l : List (List Int)) (i j : Nat) (x : List Int) : (l.set i x).getD j [] = if i = j ∧ j < l.length then x else l.getD j [] := by
  rw [List.getD_eq_getElem?_getD, List.getD_eq_getElem?_getD, List.getElem?_set]
  split
  · rename_i e
    split
    · rename_i h; rw [if_pos ⟨e, by omega⟩]; rfl
    · rename_i h; rw [if_neg (by omega), List.getElem?_eq_none (by omega)]
  · rename_i e; rw [if_neg (by omega)]
theorem Gr.put {base t : Nat} (h : Gr W base gr us rows) (ht : t < rows.length) {u : Value} {xs : List Int} (hu : Kd.RR (Kd.int .i64) 3 W base (fun _ => True) u xs) (hap : ∀ i k, i < us.length → (us.getD i nilV).ownBlock = some k → u.ownBlock ≠ some k) :
    Gr (W.setCell ⟨gr, t, none⟩ u) base gr (us.set t u) (rows.set t xs) := by
  have hl := h.len
  refine ⟨?_, by rw [List.length_set, List.length_set, hl], ?_, ?_⟩
  · have := blk_set h.blk t u
    rw [List.setIfInBounds_toArray] at this
    exact this
  · intro i hi
    rw [List.length_set] at hi
    rw [getD_setV, getD_setR]
    by_cases e : t = i
    · rw [if_pos ⟨e, by omega⟩, if_pos ⟨e, hi⟩]
      exact rr_stepG hu (fun k e hk => Below.heap_setCell _ _ _ k (fun e' => Kd.RR_ne hu h.blk (by decide) (by rw [e, e'])))
    · rw [if_neg (by omega), if_neg (by omega)]
      exact rr_stepG (h.row i hi) (fun k e hk => Below.heap_setCell _ _ _ k (fun e' => Kd.RR_ne (h.row i hi) h.blk (by decide) (by rw [e, e'])))
  · intro i j k hi hj hij
    rw [List.length_set] at hi hj
    rw [getD_setV, getD_setV]
    by_cases e1 : t = i
    · rw [if_pos ⟨e1, by omega⟩, if_neg (by omega)]
      intro he h2
      exact hap j k (by omega) h2 he
    · rw [if_neg (by omega)]
      by_cases e2 : t = j
      · rw [if_pos ⟨e2, by omega⟩]
        intro he
        exact hap i k (by omega) he
      · rw [if_neg (by omega)]
        exact h.apart i j k hi hj hij
/-- What reads the rows reads them so. -/
theorem Gr.reads {base : Nat} (h : Gr W base gr us rows) (hn : rows.length ≤ 1000) : Kd.C (Kd.slice 3 (Kd.int .i64)) W (some ⟨gr, 0, none⟩) rows.length rows := by
  refine ⟨rfl, by omega, fun _ => ⟨⟨gr, 0, none⟩, rfl, fun j p hj => ?_⟩⟩
  obtain ⟨hl, hp⟩ := List.getElem?_eq_some_iff.1 hj
  have hr := h.row j hl
  rw [show rows.getD j [] = p by rw [List.getD_eq_getElem?_getD, hj]; rfl] at hr
  obtain ⟨A, c, e⟩ := Kd.RR_slice hr
  rw [e] at hr
  have hrr := Kd.RR_reads' hr
  refine ⟨[.slice A p.length c], rfl, ⟨A, c, rfl, hrr.2.1, hrr.2.2⟩, fun i u hu => ?_⟩
  have hjl : j < us.length := by rw [h.len]; exact hl
  have hc : W.cell? ⟨gr, j, none⟩ = some (us.getD j nilV) := by
    rw [blk_cell h.blk j, List.getElem?_toArray, List.getD_eq_getElem?_getD, List.getElem?_eq_getElem hjl]
    rfl
  rw [e] at hc
  cases i with
  | zero =>
    obtain rfl : .slice A p.length c = u := by simpa using hu
    have e2 : (⟨gr, 0, none⟩ : Addr).add (j * (Kd.slice 3 (Kd.int .i64)).sz + 0) = ⟨gr, j, none⟩ := by
      rw [add_plain]
      show (⟨gr, j * 1 + 0, none⟩ : Addr) = _
      simp
    rw [e2]
    exact hc
  | succ i => simp at hu
theorem GI.keep (h : GI w g go g4 gb gr A c jobs dv fv W done fin now us rows) (hb : Below W.heap.size W W2) : GI w g go g4 gb gr A c jobs dv fv W2 done fin now us rows := by
  obtain ⟨h1, h2, h3, h4, h5, h6, h7, h8⟩ := h
  exact ⟨blk_below h1 hb, blk_below h2 hb, blk_below h3 hb, blk_below h4 hb, h5.below hb, Kd.R_below h6 hb, Kd.R_below h7 hb, below_step h8 hb⟩
theorem GI.setDone {gd n cd : Nat} (h : GI w g go g4 gb gr A c jobs (.slice (some ⟨gd, 0, none⟩) n cd) fv W done fin now us rows) (hD : GD w g go g4 gb gr (.slice (some ⟨gd, 0, none⟩) n cd) fv us) (i : Int) (x : Int) :
    GI w g go g4 gb gr A c jobs (.slice (some ⟨gd, 0, none⟩) n cd) fv (W.setCell ⟨gd, i.toNat, none⟩ (.int .i64 x)) (done.set i.toNat x) fin now us rows := by
  obtain ⟨h1, h2, h3, h4, h5, h6, h7, h8⟩ := h
  obtain ⟨p1, p2⟩ := Kd.R_putg h6 i x
  have hgd : w.heap.size ≤ gd := Kd.R_base h6 gd rfl
  have e1 : g ≠ gd := fun e => Kd.R_ne h6 h1 (by decide) (by rw [e]; rfl)
  have e2 : go ≠ gd := fun e => Kd.R_ne h6 h2 (by decide) (by rw [e]; rfl)
  have e3 : g4 ≠ gd := fun e => Kd.R_ne h6 h3 (by decide) (by rw [e]; rfl)
  have e4 : gb ≠ gd := fun e => Kd.R_ne h6 h4 (by decide) (by rw [e]; rfl)
  have e5 : gr ≠ gd := fun e => Kd.R_ne h6 h5.blk (by decide) (by rw [e]; rfl)
  exact ⟨blk_far h1 e1 _, blk_far h2 e2 _, blk_far h3 e3 _, blk_far h4 e4 _, h5.step (Below.heap_setCell _ _ _ gr e5) (fun j k hj e _ => Below.heap_setCell _ _ _ k (fun e' => (hD.2.2.2.2.2.2.2 j k hj e).1 (by rw [e']; rfl))), p1, row_stepG h7 (fun k e hlt => Below.heap_setCell _ _ _ k (fun e' => hD.2.2.2.2.2.2.1 gd rfl (by rw [e, e']))), h8.setCell hgd _⟩
theorem GI.setFin {gf n cf : Nat} (h : GI w g go g4 gb gr A c jobs dv (.slice (some ⟨gf, 0, none⟩) n cf) W done fin now us rows) (hD : GD w g go g4 gb gr dv (.slice (some ⟨gf, 0, none⟩) n cf) us) (i : Int) (x : Int) :
    GI w g go g4 gb gr A c jobs dv (.slice (some ⟨gf, 0, none⟩) n cf) (W.setCell ⟨gf, i.toNat, none⟩ (.int .i64 x)) done (fin.set i.toNat x) now us rows := by
  obtain ⟨h1, h2, h3, h4, h5, h6, h7, h8⟩ := h
  obtain ⟨p1, p2⟩ := Kd.R_putg h7 i x
  have hgf : w.heap.size ≤ gf := Kd.R_base h7 gf rfl
  have e1 : g ≠ gf := fun e => Kd.R_ne h7 h1 (by decide) (by rw [e]; rfl)
  have e2 : go ≠ gf := fun e => Kd.R_ne h7 h2 (by decide) (by rw [e]; rfl)
  have e3 : g4 ≠ gf := fun e => Kd.R_ne h7 h3 (by decide) (by rw [e]; rfl)
  have e4 : gb ≠ gf := fun e => Kd.R_ne h7 h4 (by decide) (by rw [e]; rfl)
  have e5 : gr ≠ gf := fun e => Kd.R_ne h7 h5.blk (by decide) (by rw [e]; rfl)
  exact ⟨blk_far h1 e1 _, blk_far h2 e2 _, blk_far h3 e3 _, blk_far h4 e4 _, h5.step (Below.heap_setCell _ _ _ gr e5) (fun j k hj e _ => Below.heap_setCell _ _ _ k (fun e' => (hD.2.2.2.2.2.2.2 j k hj e).2 (by rw [e']; rfl))), row_stepG h6 (fun k e hlt => Below.heap_setCell _ _ _ k (fun e' => hD.2.2.2.2.2.2.1 k e (by rw [e']; rfl))), p1, h8.setCell hgf _⟩
theorem GI.setNow (h : GI w g go g4 gb gr A c jobs dv fv W done fin now us rows) (hD : GD w g go g4 gb gr dv fv us) (x : Int) :
    GI w g go g4 gb gr A c jobs dv fv (W.setCell ⟨g, 2, none⟩ (.int .i64 x)) done fin x us rows := by
  obtain ⟨h1, h2, h3, h4, h5, h6, h7, h8⟩ := h
  have e2 : go ≠ g := ne_of_type h2 h1 (by decide)
  have e3 : g4 ≠ g := ne_of_type h3 h1 (by decide)
  have e4 : gb ≠ g := ne_of_type h4 h1 (by decide)
  exact ⟨blk_put h1 2 _ rfl, blk_far h2 e2 _, blk_far h3 e3 _, blk_far h4 e4 _, h5.far h1 (by decide) (by decide) 2 _, row_stepG h6 (fun k e hlt => Below.heap_setCell _ _ _ k (fun e' => Kd.R_ne h6 h1 (by decide) (by rw [e, e']))), row_stepG h7 (fun k e hlt => Below.heap_setCell _ _ _ k (fun e' => Kd.R_ne h7 h1 (by decide) (by rw [e, e']))), h8.setCell hD.1 _⟩
theorem GI.setRow {t : Nat} (h : GI w g go g4 gb gr A c jobs dv fv W done fin now us rows) (hD : GD w g go g4 gb gr dv fv us) (ht : t < rows.length) {u : Value} {xs : List Int} (hu : Kd.RR (Kd.int .i64) 3 W w.heap.size (fun _ => True) u xs) (hap : ∀ i k, i < us.length → (us.getD i nilV).ownBlock = some k → u.ownBlock ≠ some k) :
    GI w g go g4 gb gr A c jobs dv fv (W.setCell ⟨gr, t, none⟩ u) done fin now (us.set t u) (rows.set t xs) := by
  obtain ⟨h1, h2, h3, h4, h5, h6, h7, h8⟩ := h
  have e1 : g ≠ gr := ne_of_type h1 h5.blk (by decide)
  have e2 : go ≠ gr := ne_of_type h2 h5.blk (by decide)
  have e3 : g4 ≠ gr := ne_of_type h3 h5.blk (by decide)
  have e4 : gb ≠ gr := ne_of_type h4 h5.blk (by decide)
  exact ⟨blk_far h1 e1 _, blk_far h2 e2 _, blk_far h3 e3 _, blk_far h4 e4 _, h5.put ht hu hap, row_stepG h6 (fun k e hlt => Below.heap_setCell _ _ _ k (fun e' => Kd.R_ne h6 h5.blk (by decide) (by rw [e, e']))), row_stepG h7 (fun k e hlt => Below.heap_setCell _ _ _ k (fun e' => Kd.R_ne h7 h5.blk (by decide) (by rw [e, e']))), h8.setCell hD.2.2.2.2.1 _⟩
theorem GD.setRow {t : Nat} {u : Value} (hD : GD w g go g4 gb gr dv fv us) (hu : ∀ k, u.ownBlock = some k → dv.ownBlock ≠ some k ∧ fv.ownBlock ≠ some k) : GD w g go g4 gb gr dv fv (us.set t u) := by
  obtain ⟨d1, d2, d3, d4, d5, d6, d7, d8⟩ := hD
  refine ⟨d1, d2, d3, d4, d5, d6, d7, fun i k hi => ?_⟩
  rw [List.length_set] at hi
  rw [getD_setV]
  split
  · exact hu k
  · exact d8 i k hi
end
theorem blk_new1 (w : World) (o o' : Obj) : ((w.alloc o).alloc o').heap[w.heap.size + 1]? = some o' := by
  have := blk_new (w.alloc o) o'
  rw [show (w.alloc o).heap.size = w.heap.size + 1 by simp] at this
  exact this


/-- The marks a, a + 1 .. in a row of n. -/
def mkL (a : Int) (n : Nat) : List Int := (List.range n).map (fun (i : Nat) => a + (i : Int))
theorem mkL_len (a : Int) (n : Nat) : (mkL a n).length = n := by simp [mkL]
theorem mkL_set (a : Int) (xs : List Int) (i : Nat) (h : i < xs.length) : (mkL a i ++ xs.drop i).set i (a + (i : Int)) = mkL a (i + 1) ++ xs.drop (i + 1) := by
  have e : xs.drop i = xs[i] :: xs.drop (i + 1) := List.drop_eq_getElem_cons h
  have hl := mkL_len a i
  rw [e]
  have := set_mid (mkL a i) (xs.drop (i + 1)) xs[i] (a + (i : Int))
  rw [hl] at this
  rw [this]
  unfold mkL
  rw [List.range_succ, List.map_append]
  simp
theorem i64_next {a : Int} (h0 : 0 ≤ a) (h1 : a ≤ 100000000) : IntKind.i64.wrap (a + 1) = a + 1 := i64_small (by omega) (by omega)
set_option maxHeartbeats 2000000 in
set_option maxRecDepth 100000 in
/-- laws.markIntS at a row, whatever the value's capacity. -/
theorem markRow_calls (B : Nat) (w00 : World) (g N cap c : Nat) (a : Int) (xs : List Int) (V : World) (hN : N ≤ 1000000) (ha : 0 ≤ a) (ha2 : a ≤ 10000000) (h : Rw B w00 V g N cap xs) :
    Calls Try.prog 57 #[.slice (some ⟨g, 0, none⟩) N c, .int .i64 a] V fun e w' => e = .returned (.int .i64 (a + (N : Int))) ∧ Rw B w00 w' g N cap (mkL a N) ∧ Kept V w' (fun k => k = g) := by
  have hlen := h.len
  have H0 : Aside0 (Rw B w00 V g N cap (mkL a 0 ++ xs.drop 0)) := ⟨by simpa [mkL] using h⟩
  have HLN := Lib.hid hlen
  have HK0 := Aside0.mk (Kept.refl V (fun k => k = g))
  clear h hlen
  go_enter Try.func57, Try.ntmps57
  go_wp2_with fail
  go_loopw [1, 5] (fun v1 v5 w' => ∃ i : Nat, v5 = .int .i64 (i : Int) ∧ v1 = .int .i64 (a + (i : Int)) ∧ i ≤ N ∧ Aside0 (Rw B w00 w' g N cap (mkL a i ++ xs.drop i)) ∧ Aside0 (Kept V w' (fun k => k = g))) (fun _ v5 _ => N - (intOf v5).toNat)
  case atStart => exact ⟨0, rfl, by simp, Nat.zero_le _, H0, HK0⟩
  case round =>
    clear H0 HK0
    obtain ⟨i, rfl, rfl, hi, HW, HK⟩ := hrel
    by_cases hlt : i < N
    · have b1 : decide ((i : Int) < (N : Int)) = true := decide_eq_true (by omega)
      obtain ⟨c1, f1⟩ := HW.out.cell (i := i) hlt
      have hs := HW.out.set i (a + (i : Int))
      rw [mkL_set a xs i (by have := HLN.out; omega)] at hs
      have HS := Aside0.mk hs
      have hk := HK.out.setCell (p := ⟨g, i, none⟩) (.inl rfl) (.int .i64 (a + (i : Int)))
      have HKS := Aside0.mk hk
      have p1 : 0 ≤ (i : Int) := by omega
      have p2 : (i : Int) < (N : Int) := by omega
      have W1 := Lib.hid (i64_next (a := a + (i : Int)) (by omega) (by omega))
      have W2 := Lib.hid (i64_next (a := (i : Int)) (by omega) (by omega))
      have n1 : i + 1 ≤ N := by omega
      clear hs hk
      have w1 := W1.out
      have w2 := W2.out
      go_wp2_with fail
      clear w1 w2
      go_roundw
      case rel => exact ⟨i + 1, by simp, by congr 1; simp; omega, n1, HS, HKS⟩
      case measure => simp [intOf]; omega
    · have b1 : decide ((i : Int) < (N : Int)) = false := decide_eq_false (by omega)
      have hie : i = N := by omega
      subst hie
      have hr := HW.out
      rw [List.drop_of_length_le (by have := HLN.out; omega), List.append_nil] at hr
      have HR := Aside0.mk hr
      clear hr
      go_wp2_with fail
      go_ret
      exact ⟨rfl, HR.out, HK.out⟩
set_option maxHeartbeats 2000000 in
set_option maxRecDepth 100000 in
/-- .. and at an empty one. -/
theorem markNil_calls (A : Option Addr) (c : Nat) (a : Int) (V : World) :
    Calls Try.prog 57 #[.slice A 0 c, .int .i64 a] V fun e w' => e = .returned (.int .i64 a) ∧ w' = V := by
  go_enter Try.func57, Try.ntmps57
  go_wp2_with fail
  go_loopw [1, 5] (fun v1 v5 w' => v5 = .int .i64 0 ∧ v1 = .int .i64 a ∧ w' = V) (fun _ _ _ => 0)
  case atStart => exact ⟨rfl, rfl, rfl⟩
  case round =>
    obtain ⟨rfl, rfl, rfl⟩ := hrel
    go_wp2_with fail
    go_ret
    exact ⟨rfl, rfl⟩
/-- The number behind the marks of the first rows. -/
def mkN (a : Int) (rows : List (List Int)) : Nat → Int
  | 0 => a
  | i + 1 => mkN a rows i + ((rows.getD i []).length : Int)
/-- The rows once the first are marked. -/
def mkR (a : Int) (rows : List (List Int)) : Nat → List (List Int)
  | 0 => rows
  | i + 1 => (mkR a rows i).set i (mkL (mkN a rows i) (rows.getD i []).length)
theorem mkR_len (a : Int) (rows : List (List Int)) : ∀ i, (mkR a rows i).length = rows.length
  | 0 => rfl
  | i + 1 => by unfold mkR; rw [List.length_set, mkR_len a rows i]
theorem mkR_at (a : Int) (rows : List (List Int)) : ∀ i j, i ≤ j → (mkR a rows i).getD j [] = rows.getD j []
  | 0, _, _ => rfl
  | i + 1, j, h => by unfold mkR; rw [getD_setR, if_neg (by omega), mkR_at a rows i j (by omega)]
/-- One row's marks leave the rows as they are but for it. -/
theorem Gr.mark {W W2 : World} {base gr : Nat} {us : List Value} {rows : List (List Int)} {i g : Nat} {xs : List Int} (h : Gr W base gr us rows) (hi : i < rows.length) (hg : (us.getD i nilV).ownBlock = some g) (hk : Kept W W2 (fun k => k = g)) (hu : Kd.RR (Kd.int .i64) 3 W2 base (fun _ => True) (us.getD i nilV) xs) : Gr W2 base gr us (rows.set i xs) where
  blk := (hk.2 gr (blk_lt h.blk) (fun e => Kd.RR_ne (h.row i hi) h.blk (by decide) (by rw [hg, ← e]))).trans h.blk
  len := by rw [List.length_set]; exact h.len
  row := fun j hj => by
    rw [List.length_set] at hj
    rw [getD_setR]
    by_cases e : i = j
    · subst e; rw [if_pos ⟨rfl, hj⟩]; exact hu
    · rw [if_neg (by omega)]
      exact rr_stepG (h.row j hj) (fun k e2 hlt => hk.2 k hlt (fun e3 => h.apart i j g hi hj e hg (by rw [e2, e3])))
  apart := fun j l k hj hl => by
    rw [List.length_set] at hj hl
    exact h.apart j l k hj hl
theorem mkN_bound {a : Int} {rows : List (List Int)} (hr : ∀ i, (rows.getD i []).length ≤ 1000) (ha : 0 ≤ a) : ∀ i, 0 ≤ mkN a rows i ∧ mkN a rows i ≤ a + 1000 * (i : Int)
  | 0 => by unfold mkN; omega
  | i + 1 => by
    have := mkN_bound hr ha i
    have := hr i
    unfold mkN
    omega
set_option maxHeartbeats 2000000 in
set_option maxRecDepth 100000 in
/-- laws.markIntSS at the rows of a run. -/
theorem markGr_calls (B : Nat) (w00 : World) (gr c : Nat) (us : List Value) (rows : List (List Int)) (a : Int) (V : World) (hn : rows.length ≤ 1000) (hr : ∀ i, (rows.getD i []).length ≤ 1000) (ha : 0 ≤ a) (ha2 : a ≤ 1000000) (hG : Gr V B gr us rows) (hB : Below B w00 V) :
    Calls Try.prog 92 #[.slice (some ⟨gr, 0, none⟩) rows.length c, .int .i64 a] V fun e w' => e = .returned (.int .i64 (mkN a rows rows.length)) ∧ Gr w' B gr us (mkR a rows rows.length) ∧ Below B w00 w' ∧ Kept V w' (fun k => ∃ i, i < us.length ∧ (us.getD i nilV).ownBlock = some k) := by
  have H0 := Aside0.mk hG
  have HB0 := Aside0.mk hB
  have HK0 := Aside0.mk (Kept.refl V (fun k => ∃ i, i < us.length ∧ (us.getD i nilV).ownBlock = some k))
  have HRL := Lib.hid hr
  have HUL := Lib.hid hG.len
  have hu33 := Try.underlying33
  clear hG hB hr
  go_enter Try.func92, Try.ntmps92
  go_wp2_with fail
  go_loopw [1, 5] (fun v1 v5 w' => ∃ i : Nat, v5 = .int .i64 (i : Int) ∧ v1 = .int .i64 (mkN a rows i) ∧ i ≤ rows.length ∧ Aside0 (Gr w' B gr us (mkR a rows i)) ∧ Aside0 (Below B w00 w') ∧ Aside0 (Kept V w' (fun k => ∃ i, i < us.length ∧ (us.getD i nilV).ownBlock = some k))) (fun _ v5 _ => rows.length - (intOf v5).toNat)
  case atStart => exact ⟨0, rfl, rfl, Nat.zero_le _, H0, HB0, HK0⟩
  case round =>
    clear H0 HB0 HK0
    obtain ⟨i, rfl, rfl, hi, HG, HB, HK⟩ := hrel
    by_cases hlt : i < rows.length
    · have b1 : decide ((i : Int) < (rows.length : Int)) = true := decide_eq_true (by omega)
      have hG := HG.out
      have hil : i < (mkR a rows i).length := by rw [mkR_len]; exact hlt
      have hrow := hG.row i hil
      rw [mkR_at a rows i i (Nat.le_refl _)] at hrow
      have hul : i < us.length := by rw [HUL.out]; exact hlt
      have hcell : wr.cell? ⟨gr, i, none⟩ = some (us.getD i nilV) := by
        rw [blk_cell hG.blk i, List.getElem?_toArray, List.getD_eq_getElem?_getD, List.getElem?_eq_getElem hul]
        rfl
      have hbd := mkN_bound (a := a) HRL.out ha i
      have hrl := HRL.out i
      obtain ⟨n, hnn⟩ : ∃ n, n = (rows.getD i []).length := ⟨_, rfl⟩
      have hst : mkR a rows (i + 1) = (mkR a rows i).set i (mkL (mkN a rows i) (rows.getD i []).length) := rfl
      have hsn : mkN a rows (i + 1) = mkN a rows i + ((rows.getD i []).length : Int) := rfl
      obtain ⟨b, hb⟩ : ∃ b, b = mkN a rows i := ⟨_, rfl⟩
      rw [← hb] at hst hsn hbd ⊢
      rw [← hnn] at hst hsn hrl
      have p1 : 0 ≤ (i : Int) := by omega
      have p2 : (i : Int) < (rows.length : Int) := by omega
      have hcall : Calls Try.prog 57 #[us.getD i nilV, .int .i64 b] wr fun e w' => e = .returned (.int .i64 (b + (n : Int))) ∧ Gr w' B gr us (mkR a rows (i + 1)) ∧ Below B w00 w' ∧ Kept wr w' (fun k => ∃ i, i < us.length ∧ (us.getD i nilV).ownBlock = some k) := by
        rcases Nat.eq_zero_or_pos n with hz | hpos
        · obtain ⟨A, cc, e⟩ := Kd.RR_slice hrow
          rw [← hnn, hz] at e
          rw [e]
          refine (markNil_calls A cc b wr).mono ?_
          rintro e' w' ⟨rfl, rfl⟩
          refine ⟨by rw [hz]; simp, ?_, HB.out, Kept.refl _ _⟩
          have hnil : rows.getD i [] = [] := List.eq_nil_of_length_eq_zero (by rw [← hnn]; exact hz)
          rw [hst, hz]
          have hsame : (mkR a rows i).set i (mkL b 0) = mkR a rows i := by
            apply List.ext_getElem?
            intro j
            by_cases e2 : i = j
            · subst e2
              rw [List.getElem?_set_self hil, List.getElem?_eq_getElem hil]
              have h2 := mkR_at a rows i i (Nat.le_refl _)
              rw [List.getD_eq_getElem?_getD, List.getElem?_eq_getElem hil] at h2
              simp only [Option.getD_some] at h2
              rw [h2, hnil]
              rfl
            · rw [List.getElem?_set_ne e2]
          rw [hsame]
          exact HG.out
        · obtain ⟨A, n', c1, c2, e, hcc, hc, hR⟩ := hrow
          obtain ⟨g, cap, e3, hbg, hgl, _⟩ := Kd.R_form hR (by omega)
          injection e3 with e4 e5 e6
          rw [← hnn] at e5
          subst e4 e5 e6
          rw [e]
          refine (markRow_calls B w00 g n' c2 c1 b (rows.getD i []) wr (by omega) (by omega) (by omega) ⟨hR, HB.out⟩).mono ?_
          rintro e' w' ⟨rfl, h1, h2⟩
          have hob : (us.getD i nilV).ownBlock = some g := by rw [e]; rfl
          refine ⟨rfl, ?_, h1.2, h2.mono (fun k hk => ⟨i, hul, by rw [hob, hk]⟩)⟩
          rw [hst]
          exact HG.out.mark hil hob h2 (by rw [e]; exact ⟨_, _, _, _, rfl, hcc, hc, h1.1⟩)
      have HC := Lib.hid hcall
      obtain ⟨u, hu⟩ : ∃ u, u = us.getD i nilV := ⟨_, rfl⟩
      rw [← hu] at hcell HC
      have HSN := Lib.hid hsn
      obtain ⟨A, cc, e⟩ := Kd.RR_slice hrow
      rw [← hu, ← hnn] at e
      subst e
      clear hcall hrow hst hsn hnn hG hil hul hbd hu hb
      go_wp2_with (go_at_call 57; refine HC.out.mono ?_; rintro e w2 ⟨rfl, h1, h2, h3⟩; have H1 := Aside0.mk h1; have H2 := Aside0.mk h2; have H3 := Aside0.mk h3; clear h1 h2 h3)
      go_roundw
      case rel => exact ⟨i + 1, by go_num, by rw [HSN.out], by omega, H1, H2, ⟨HK.out.then_ H3.out (fun k h => .inl h)⟩⟩
      case measure => simp [intOf]; omega
    · have b1 : decide ((i : Int) < (rows.length : Int)) = false := decide_eq_false (by omega)
      obtain rfl : i = rows.length := by omega
      go_wp2_with fail
      go_ret
      exact ⟨rfl, HG.out, HB.out, HK.out⟩
set_option maxHeartbeats 2000000 in
set_option maxRecDepth 100000 in
/-- laws.markGlobalRun at a run. -/
theorem markRun_calls (B : Nat) (w00 : World) (gr c : Nat) (us : List Value) (rows : List (List Int)) (v1 : Value) (fin : List Int) (a : Int) (V : World) (hn : rows.length ≤ 1000) (hr : ∀ i, (rows.getD i []).length ≤ 1000) (hf : fin.length ≤ 1000) (ha : 0 ≤ a) (ha2 : a ≤ 1000) (hG : Gr V B gr us rows)
    (hF : Kd.R (Kd.int .i64) 3 V B (fun _ => True) v1 fin) (hap : ∀ i k, i < us.length → (us.getD i nilV).ownBlock = some k → v1.ownBlock ≠ some k) (hB : Below B w00 V) (hBV : B ≤ V.heap.size) :
    Calls Try.prog 65 #[.agg #[.slice (some ⟨gr, 0, none⟩) rows.length c, v1], .int .i64 a] V fun e w' => e = .returned (.int .i64 (mkN a rows rows.length + (fin.length : Int))) ∧ Gr w' B gr us (mkR a rows rows.length) ∧ Kd.R (Kd.int .i64) 3 w' B (fun _ => True) v1 (mkL (mkN a rows rows.length) fin.length) ∧ Below B w00 w' ∧
      Kept V w' (fun k => (∃ i, i < us.length ∧ (us.getD i nilV).ownBlock = some k) ∨ v1.ownBlock = some k) := by
  have hu := Try.underlying80
  obtain ⟨A1, c1, e1⟩ := Kd.R_slice hF
  subst e1
  have hbd := mkN_bound (a := a) hr ha rows.length
  obtain ⟨W, hW⟩ : ∃ W, W = V.alloc (.cells #[.slice (some ⟨gr, 0, none⟩) rows.length c, .slice A1 fin.length c1] 80) := ⟨_, rfl⟩
  have hVW : Below V.heap.size V W := by rw [hW]; exact below_alloc (Below.refl _ _) _
  have hbx : W.heap[V.heap.size]? = some (.cells #[.slice (some ⟨gr, 0, none⟩) rows.length c, .slice A1 fin.length c1] 80 (0, 0)) := by rw [hW]; exact blk_new _ _
  have hGW := hG.below hVW
  have hFW := Kd.R_below hF hVW
  have hBW : Below B w00 W := below_then hB hBV hVW
  have hnb : ∀ i k, i < us.length → (us.getD i nilV).ownBlock = some k → k ≠ V.heap.size := fun i k hi e => by
    have := Kd.RR_lt (hG.row i (by rw [← hG.len]; exact hi)) k e
    omega
  have HNG := Lib.hid (Kd.R_ne hF hG.blk (by decide))
  have hm1 := markGr_calls B w00 gr c us rows a W hn hr ha (by omega) hGW hBW
  have HM := Lib.hid hm1
  have HX := Lib.hid hbx
  have HFW := Lib.hid hFW
  have HNB := Lib.hid hnb
  have HAP := Lib.hid hap
  have HVW := Lib.hid hVW
  have HBD := Lib.hid hbd
  obtain ⟨q, hq⟩ : ∃ q, q = mkN a rows rows.length := ⟨_, rfl⟩
  rw [← hq] at HM HBD ⊢
  have HWQ := Lib.hid hW
  have hf1 : fin.length ≤ 1000000 := by omega
  have hq0 : 0 ≤ q ∧ q ≤ 1001000 := by have := HBD.out; omega
  -- the second mark
  have HFIN := Lib.hid (fun (w2 : World) (hb2 : Below B w00 w2) (hk2 : Kept W w2 (fun k => ∃ i, i < us.length ∧ (us.getD i nilV).ownBlock = some k)) => (show Calls Try.prog 57 #[.slice A1 fin.length c1, .int .i64 q] w2 fun e w' => e = .returned (.int .i64 (q + (fin.length : Int))) ∧ Kd.R (Kd.int .i64) 3 w' B (fun _ => True) (.slice A1 fin.length c1) (mkL q fin.length) ∧ Below B w00 w' ∧ Kept w2 w' (fun k => (Value.slice A1 fin.length c1).ownBlock = some k) from by
    have hF2 : Kd.R (Kd.int .i64) 3 w2 B (fun _ => True) (.slice A1 fin.length c1) fin := row_stepG HFW.out (fun k e hlt => hk2.2 k hlt (fun ⟨i, hi, h⟩ => HAP.out i k hi h e))
    rcases Nat.eq_zero_or_pos fin.length with hz | hpos
    · have hnil : fin = [] := List.eq_nil_of_length_eq_zero hz
      subst hnil
      refine (markNil_calls A1 c1 q w2).mono ?_
      rintro e w' ⟨rfl, rfl⟩
      exact ⟨by simp, hF2, hb2, Kept.refl _ _⟩
    · obtain ⟨g, cap, e3, _⟩ := Kd.R_form hF2 hpos
      injection e3 with e4 e5 e6
      subst e4 e6
      refine (markRow_calls B w00 g fin.length c1 c1 q fin w2 hf1 hq0.1 (by omega) ⟨hF2, hb2⟩).mono ?_
      rintro e w' ⟨rfl, h1, h2⟩
      exact ⟨rfl, h1.1, h1.2, h2.mono (fun k hk => by rw [hk]; rfl)⟩))
  clear hm1 hbx hFW hnb hap hVW hbd hq hW hGW hBW hG hF hB hr
  go_enter Try.func65, Try.ntmps65
  go_upto_region 1 with (fail)
  rw [← HWQ.out]
  have hx0 := (blk_cell HX.out 0).trans rfl
  go_upto_region 2 with (go_at_call 92; refine HM.out.mono ?_; rintro e w2 ⟨rfl, h1, h2, h3⟩; have H1 := Aside0.mk h1; have H2 := Aside0.mk h2; have H3 := Aside0.mk h3; clear h1 h2 h3)
  have hx1 : w2.cell? ⟨V.heap.size, 1, none⟩ = some (.slice A1 fin.length c1) := (blk_cell (blk_kept HX.out H3.out (fun ⟨i, hi, h⟩ => HNB.out i _ hi h rfl)) 1).trans rfl
  have HC2 := Lib.hid (HFIN.out w2 H2.out H3.out)
  clear hx0
  go_wp2_with (go_at_call 57; refine HC2.out.mono ?_; rintro e w3 ⟨rfl, h1, h2, h3⟩; have H4 := Aside0.mk h1; have H5 := Aside0.mk h2; have H6 := Aside0.mk h3; clear h1 h2 h3)
  go_ret
  refine ⟨rfl, ?_, H4.out, H5.out, ?_⟩
  · exact H1.out.step (H6.out.2 gr (blk_lt H1.out.blk) (fun h => HNG.out h.symm)) (fun i k hi e hlt => H6.out.2 k hlt (fun h => HAP.out i k hi e h))
  · exact (((Kept.of_below HVW.out _).mono (fun k hk => hk)).then_ H3.out (fun k h => .inl (.inl h))).then_ H6.out (fun k h => .inl (.inr h))

end Go.Proofs.Ytonifhkplniblaa.Print

namespace Go.Proofs.Ytonifhkplniblaa.Print
open Go.RowKit Go.Proofs.YtonifhkplniblaaW.PrintWords Go.Proofs.YtonifhkplniblaaW.PrintMore Go.Proofs.Ytonifhkplniblaa.Evs Go.Proofs.Ytonifhkplniblaa.Opens Go.Proofs.Ytonifhkplniblaa.Walk
set_option linter.unusedSimpArgs false
set_option linter.unusedVariables false
theorem rd_rowsG (l : List (List Int)) (j : Nat) : rd_L8 l (j : Int) = l.getD j [] := rfl
theorem heldL_ev (a : Int) (n : Nat) (h0 : 0 ≤ a) (h1 : a ≤ 100000000) (hn : n ≤ 1048576) : Tl (fun k => laws_heldIntS.f k (mkL a n) a) (a + (n : Int)) := by
  unfold laws_heldIntS.f
  have hl := mkL_len a n
  have key := down (Q := fun j => Tl (fun k => laws_heldIntS.l0 k (mkL a n) (a + (j : Int)) (j : Int)) (a + (n : Int))) n ?_ ?_
  · simpa using key
  · refine Tl.step ?_
    simp only [laws_heldIntS.l0]
    exact Tl.iteF (by omega) (Tl.ret _)
  · intro j hj hh
    have e : (mkL a n).getD j 0 = a + (j : Int) := by
      unfold mkL
      rw [List.getD_eq_getElem?_getD, List.getElem?_map, List.getElem?_range hj]
      rfl
    refine Tl.step ?_
    simp only [laws_heldIntS.l0]
    rw [wrap_succ (j := j) (n := n) hj (by omega), wrap_id (n := a + (j : Int) + 1) (by omega) (by omega), rd_lstG, e]
    refine Tl.iteT (by omega) (Tl.iteT (by omega) (Tl.iteT rfl ?_))
    rw [show a + (j : Int) + 1 = a + ((j + 1 : Nat) : Int) by omega]
    exact hh
theorem mkR_done (a : Int) (rows : List (List Int)) : ∀ i j, j < i → i ≤ rows.length → (mkR a rows i).getD j [] = mkL (mkN a rows j) (rows.getD j []).length
  | 0, _, h, _ => by omega
  | i + 1, j, h, hi => by
    unfold mkR
    rw [getD_setR]
    by_cases e : i = j
    · subst e; rw [if_pos ⟨rfl, by rw [mkR_len]; omega⟩]
    · rw [if_neg (by omega), mkR_done a rows i j (by omega) (by omega)]
theorem heldRows_ev (a : Int) (rows : List (List Int)) (h0 : 0 ≤ a) (h1 : a ≤ 1000) (hn : rows.length ≤ 1000) (hw : ∀ i, (rows.getD i []).length ≤ 1000) : Tl (fun k => laws_heldIntSS.f k (mkR a rows rows.length) a) (mkN a rows rows.length) := by
  unfold laws_heldIntSS.f
  have hl := mkR_len a rows rows.length
  have key := down (Q := fun j => Tl (fun k => laws_heldIntSS.l0 k (mkR a rows rows.length) (mkN a rows j) (j : Int)) (mkN a rows rows.length)) rows.length ?_ ?_
  · exact key
  · refine Tl.step ?_
    simp only [laws_heldIntSS.l0]
    exact Tl.iteF (by omega) (Tl.ret _)
  · intro j hj hh
    have hb := mkN_bound (a := a) hw h0 j
    have hwj := hw j
    have e2 : mkN a rows (j + 1) = mkN a rows j + ((rows.getD j []).length : Int) := rfl
    rw [e2] at hh
    have hhl := heldL_ev (mkN a rows j) (rows.getD j []).length hb.1 (by omega) (by omega)
    refine Tl.step ?_
    simp only [laws_heldIntSS.l0]
    rw [wrap_succ (j := j) (n := rows.length) hj (by omega), rd_rowsG, mkR_done a rows rows.length j hj (Nat.le_refl _)]
    exact Tl.iteT (by omega) (Tl.iteT (by omega) (Tl.bind hhl (Tl.iteF (by omega) hh)))
theorem heldRun_ev (a : Int) (rows : List (List Int)) (n : Nat) (h0 : 0 ≤ a) (h1 : a ≤ 1000) (hn : rows.length ≤ 1000) (hw : ∀ i, (rows.getD i []).length ≤ 1000) (hf : n ≤ 1000) :
    Tl (fun k => laws_heldGlobalRun.f k (mkR a rows rows.length) (mkL (mkN a rows rows.length) n) a) (mkN a rows rows.length + (n : Int)) := by
  unfold laws_heldGlobalRun.f
  have hb := mkN_bound (a := a) hw h0 rows.length
  exact Tl.bind (heldRows_ev a rows h0 h1 hn hw) (Tl.iteF (by omega) (Tl.bind (heldL_ev _ n hb.1 (by omega) (by omega)) (Tl.iteF (by omega) (Tl.ret _))))
theorem eqRowsG_ev (l : List (List Int)) (hl : l.length ≤ 1048576) (hw : ∀ i, (l.getD i []).length ≤ 1048576) : Tl (fun k => laws_eqIntSS.f k l l) true := by
  unfold laws_eqIntSS.f
  refine Tl.iteT rfl ?_
  refine down (Q := fun j => Tl (fun k => laws_eqIntSS.l0 k l l (j : Int)) true) l.length ?_ ?_
  · refine Tl.step ?_
    simp only [laws_eqIntSS.l0]
    exact Tl.iteF (by omega) (Tl.ret _)
  · intro j hj hh
    refine Tl.step ?_
    simp only [laws_eqIntSS.l0, rd_rowsG]
    rw [wrap_succ hj (by omega)]
    exact Tl.iteT (by omega) (Tl.iteT (by omega) (Tl.iteT (by omega) (Tl.bind (eqIntS_ev (l.getD j []) (hw j)) (Tl.iteT rfl hh))))
theorem eqRunG_ev (l : List (List Int)) (f : List Int) (hl : l.length ≤ 1048576) (hw : ∀ i, (l.getD i []).length ≤ 1048576) (hf : f.length ≤ 1048576) : Tl (fun k => laws_eqGlobalRun.f k l f l f) true := by
  unfold laws_eqGlobalRun.f
  exact Tl.bind (eqRowsG_ev l hl hw) (Tl.iteT rfl (Tl.bind (eqIntS_ev f hf) (Tl.iteT rfl (Tl.ret _))))
end Go.Proofs.Ytonifhkplniblaa.Print

namespace Go.Proofs.Ytonifhkplniblaa.Print
open Go.RowKit Go.Proofs.YtonifhkplniblaaW.PrintWords Go.Proofs.Ytonifhkplniblaa.Evs Go.Proofs.Ytonifhkplniblaa.Opens
set_option linter.unusedSimpArgs false
set_option linter.unusedVariables false
theorem wrap3 {m : Int} (h0 : 0 ≤ m) (h1 : m ≤ 100000000) : wrap64 ((wrap64 ((wrap64 (m + 1)) + 1)) + 1) = m + 3 := by
  rw [wrap_id (n := m + 1) (by omega) (by omega), wrap_id (n := m + 1 + 1) (by omega) (by omega), wrap_id (n := m + 1 + 1 + 1) (by omega) (by omega)]
  omega
theorem markTaskS_at : ∀ (d j : Nat) (l : List Task) (m : Int), j + d = l.length → 0 ≤ m → m + 3 * d ≤ 100000000 → l.length ≤ 1048576 → ∃ l', Tl (fun k => laws_markTaskS.l0 k l m (j : Int)) (m + 3 * d, l')
  | 0, j, l, m, e, h0, h1, h2 => by
    refine ⟨l, Tl.step ?_⟩
    simp only [laws_markTaskS.l0]
    exact Tl.iteF (by omega) (Tl.cast (Tl.ret _) (by rw [show m + 3 * ((0 : Nat) : Int) = m by omega]))
  | d + 1, j, l, m, e, h0, h1, h2 => by
    have key : ∀ x : List Task, x.length = l.length → ∃ l', Tl (fun k => laws_markTaskS.l0 k x (m + 3) ((j + 1 : Nat) : Int)) (m + 3 + 3 * d, l') := fun x hx => markTaskS_at d (j + 1) x (m + 3) (by omega) (by omega) (by omega) (by omega)
    obtain ⟨l', hl'⟩ := key _ (show (((l.set j ⟨m, (tk l j).f1, (tk l j).f2⟩).set j ⟨(tk (l.set j ⟨m, (tk l j).f1, (tk l j).f2⟩) j).f0, wrap64 (m + 1), (tk (l.set j ⟨m, (tk l j).f1, (tk l j).f2⟩) j).f2⟩).set j ⟨(tk ((l.set j ⟨m, (tk l j).f1, (tk l j).f2⟩).set j ⟨(tk (l.set j ⟨m, (tk l j).f1, (tk l j).f2⟩) j).f0, wrap64 (m + 1), (tk (l.set j ⟨m, (tk l j).f1, (tk l j).f2⟩) j).f2⟩) j).f0, (tk ((l.set j ⟨m, (tk l j).f1, (tk l j).f2⟩).set j ⟨(tk (l.set j ⟨m, (tk l j).f1, (tk l j).f2⟩) j).f0, wrap64 (m + 1), (tk (l.set j ⟨m, (tk l j).f1, (tk l j).f2⟩) j).f2⟩) j).f1, wrap64 ((wrap64 (m + 1)) + 1)⟩).length = l.length by simp only [List.length_set])
    refine ⟨l', Tl.step ?_⟩
    simp only [laws_markTaskS.l0, rd_tk, Int.toNat_natCast, Option.bind_some]
    rw [wrap3 h0 (by omega), wrap_succ (n := l.length) (by omega) (by omega)]
    exact Tl.iteT (by omega) (Tl.iteT (by omega) (Tl.cast hl' (by rw [show m + 3 + 3 * (d : Int) = m + 3 * ((d + 1 : Nat) : Int) by omega])))
theorem markTaskS_ev (l : List Task) (m : Int) (h0 : 0 ≤ m) (h1 : m ≤ 10000000) (hl : l.length ≤ 1048576) : ∃ l', Tl (fun k => laws_markTaskS.f k l m) (m + 3 * l.length, l') :=
  markTaskS_at l.length 0 l m (by omega) h0 (by omega) hl
end Go.Proofs.Ytonifhkplniblaa.Print

namespace Go.Proofs.Ytonifhkplniblaa.Print
open Go.RowKit Go.Proofs.YtonifhkplniblaaW.PrintWords Go.Proofs.Ytonifhkplniblaa.Evs Go.Proofs.Ytonifhkplniblaa.Opens
set_option linter.unusedSimpArgs false
abbrev Job := S67
theorem eqJob_self (x : Job) : laws_eqJob.f x.f0 x.f1 x.f2 x.f3 x.f0 x.f1 x.f2 x.f3 = some true := by simp [laws_eqJob.f]
theorem eqJobS_ev (l : List Job) (hl : l.length ≤ 1048576) : Tl (fun k => laws_eqJobS.f k l l) true := by
  unfold laws_eqJobS.f
  simp only [if_true]
  refine down (Q := fun j => Tl (fun k => laws_eqJobS.l0 k l l (j : Int)) true) l.length ?_ ?_
  · refine Tl.step ?_
    have c3 := eq_false (show ¬ ((l.length : Int) < (l.length : Int)) by omega)
    simp only [laws_eqJobS.l0, c3, if_false]
    exact Tl.ret _
  · intro j hj h
    refine Tl.step ?_
    have c3 := eq_true (show (j : Int) < (l.length : Int) by omega)
    have c4 := eq_true (show 0 ≤ (j : Int) by omega)
    simp only [laws_eqJobS.l0, c3, c4, if_true, eqJob_self, Option.bind_some]
    rw [wrap_succ hj (by omega)]
    exact h
end Go.Proofs.Ytonifhkplniblaa.Print
