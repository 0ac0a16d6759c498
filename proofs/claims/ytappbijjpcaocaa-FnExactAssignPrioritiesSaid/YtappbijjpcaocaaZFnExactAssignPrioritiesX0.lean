/- What the program and the reference compute, and that both agree. No condition. -/
import Derived.Test.YtappbijjpcaocaaPO
import Derived.Test.YtappbijjpcaocaaZFnExactAssignPrioritiesP1
import Derived.RowKit
import Derived.WalkKit
import Derived.Test.YtappbijjpcaocaaZFnExactAssignPrioritiesP0
namespace Go.Proofs.Ytappbijjpcaocaa.Print
open Go.RowKit Go.Proofs.YtappbijjpcaocaaW.PrintWords Go.Proofs.YtappbijjpcaocaaW.PrintLast Go.Proofs.YtappbijjpcaocaaW.PrintMore
attribute [local go_sem] max2_int min2_int max_two min_two max_three min_three max_four min_four
set_option linter.unusedVariables false
set_option linter.unusedSimpArgs false
open Go.Proofs.Ytappbijjpcaocaa.Opens
def PureFnExactAssignPriorities : Prop := ∀ (x0 : List (S56)), (wfL wf56) x0 → ∃ k, laws_FnExactAssignPriorities.f k x0 = some true
end Go.Proofs.Ytappbijjpcaocaa.Print
namespace Go.Proofs.Ytappbijjpcaocaa.Evs
open Go.RowKit
set_option linter.unusedSimpArgs false
set_option linter.unusedVariables false
def Tl {α : Type} (g : Nat → Option α) (r : α) : Prop := ∃ k0, ∀ k, k0 ≤ k → g k = some r
theorem Tl.ret {α : Type} (r : α) : Tl (fun _ => some r) r := ⟨0, fun _ _ => rfl⟩
theorem Tl.of_eq {α : Type} {g : Nat → Option α} {r : α} (h : ∀ k, g k = some r) : Tl g r := ⟨0, fun k _ => h k⟩
theorem Tl.step {α : Type} {g : Nat → Option α} {r : α} (h : Tl (fun k => g (k + 1)) r) : Tl g r := by
 obtain ⟨k0, hk⟩ := h
 refine ⟨k0 + 1, fun k hle => ?_⟩
 obtain ⟨m, rfl⟩ : ∃ m, k = m + 1 := ⟨k - 1, by omega⟩
 exact hk m (by omega)
theorem Tl.bind {α β : Type} {g : Nat → Option α} {a : α} {f : α → Nat → Option β} {r : β} (h : Tl g a) (h2 : Tl (f a) r) : Tl (fun k => (g k).bind fun x => f x k) r := by
 obtain ⟨k0, hk⟩ := h
 obtain ⟨k1, hk1⟩ := h2
 refine ⟨max k0 k1, fun k hle => ?_⟩
 show (g k).bind (fun x => f x k) = some r
 rw [hk k (by omega), Option.bind_some]
 exact hk1 k (by omega)
theorem Tl.once {α : Type} {g : Nat → Option α} {r : α} (h : Tl g r) : ∃ k, g k = some r := by
 obtain ⟨k0, hk⟩ := h
 exact ⟨k0, hk k0 (Nat.le_refl _)⟩
theorem Tl.cast {α : Type} {g : Nat → Option α} {r r' : α} (h : Tl g r) (e : r = r') : Tl g r' := e ▸ h
theorem Tl.iteT {α : Type} {c : Prop} [Decidable c] {g g' : Nat → Option α} {r : α} (hc : c) (h : Tl g r) : Tl (fun k => if c then g k else g' k) r := by simpa only [if_pos hc] using h
theorem Tl.iteF {α : Type} {c : Prop} [Decidable c] {g g' : Nat → Option α} {r : α} (hc : ¬ c) (h : Tl g' r) : Tl (fun k => if c then g k else g' k) r := by simpa only [if_neg hc] using h
theorem down {Q : Nat → Prop} (n : Nat) (he : Q n) (hs : ∀ j, j < n → Q (j + 1) → Q j) : Q 0 := by
 induction n with
 | zero => exact he
 | succ n ih => exact ih (hs n (by omega) he) (fun j hj => hs j (by omega))
theorem downFrom {Q : Nat → Prop} {m n : Nat} (hm : m ≤ n) (he : Q n) (hs : ∀ j, m ≤ j → j < n → Q (j + 1) → Q j) : Q m := by
 obtain ⟨d, rfl⟩ : ∃ d, n = m + d := ⟨n - m, by omega⟩
 induction d with
 | zero => exact he
 | succ d ih => exact ih (by omega) (hs (m + d) (by omega) (by omega) he) (fun j h1 h2 => hs j h1 (by omega))
theorem Tl.all {F : Nat → Int → Option Bool} {n : Nat} {P : Nat → Bool} {fin : Bool}
  (ht : ∀ j, j < n → P j = true → ∀ r, Tl (fun k => F k ((j + 1 : Nat) : Int)) r → Tl (fun k => F k (j : Int)) r)
  (hf : ∀ j, j < n → P j = false → Tl (fun k => F k (j : Int)) false) (he : Tl (fun k => F k (n : Int)) fin) :
  Tl (fun k => F k 0) ((List.range n).all P && fin) := by
 by_cases hall : ∀ j, j < n → P j = true
 ·have h1 : ((List.range n).all P) = true := by simpa using hall
  rw [h1, Bool.true_and]
  exact down (Q := fun j => Tl (fun k => F k (j : Int)) fin) n he (fun j hj h => ht j hj (hall j hj) _ h)
 ·have h1 : ((List.range n).all P) = false := by simpa using hall
  rw [h1, Bool.false_and]
  clear h1
  have key : ∀ m, m ≤ n → (∃ j, j < m ∧ P j = false) → Tl (fun k => F k 0) false := by
   intro m
   induction m with
   | zero => rintro _ ⟨j, hj, _⟩; omega
   | succ m ih =>
    rintro hm ⟨j, hj, hp⟩
    by_cases hlow : ∃ j, j < m ∧ P j = false
    ·exact ih (by omega) hlow
    ·have hjm : j = m := by
      rcases Nat.lt_or_ge j m with h | h
      ·exact absurd ⟨j, h, hp⟩ hlow
      ·omega
     subst hjm
     refine down (Q := fun j => Tl (fun k => F k (j : Int)) false) j (hf j (by omega) hp) (fun i hi h => ht i (by omega) ?_ _ h)
     cases hpi : P i
     ·exact absurd ⟨i, hi, hpi⟩ hlow
     ·rfl
  refine key n (Nat.le_refl _) ?_
  apply Classical.byContradiction
  intro hno
  refine hall (fun j hj => ?_)
  cases hp : P j
  ·exact absurd ⟨j, hj, hp⟩ hno
  ·rfl
theorem wrap_id {n : Int} (h1 : -9223372036854775808 ≤ n) (h2 : n ≤ 9223372036854775807) : wrap64 n = n := by unfold wrap64; omega
theorem wrap_succ {j n : Nat} (h : j < n) (hn : n ≤ 9223372036854775807) : wrap64 ((j : Int) + 1) = ((j + 1 : Nat) : Int) := by unfold wrap64; omega
theorem wrap_pred {j n : Nat} (h : j < n) (h0 : 0 < j) (hn : n ≤ 9223372036854775807) : wrap64 ((j : Int) - 1) = ((j - 1 : Nat) : Int) := by unfold wrap64; omega
end Go.Proofs.Ytappbijjpcaocaa.Evs
namespace Go.Proofs.Ytappbijjpcaocaa.Evs
theorem fill_zero {α : Type} (xs : List α) (z : α) : xs.take 0 ++ List.replicate (xs.length - 0) z = List.replicate xs.length z := by simp
theorem fill_set {α : Type} (xs : List α) (z : α) {j : Nat} (hj : j < xs.length) (x : α) (hx : x = xs.getD j z) :
  (xs.take j ++ List.replicate (xs.length - j) z).set j x = xs.take (j + 1) ++ List.replicate (xs.length - (j + 1)) z := by
 have h1 : (xs.take j).length = j := by simp; omega
 rw [List.set_append_right _ _ (by omega), h1, Nat.sub_self]
 obtain ⟨m, hm⟩ : ∃ m, xs.length - j = m + 1 := ⟨xs.length - j - 1, by omega⟩
 rw [hm, List.replicate_succ, List.set_cons_zero, List.take_succ_eq_append_getElem hj, List.append_assoc, hx]
 have h2 : xs.length - (j + 1) = m := by omega
 rw [h2]
 simp [List.getD_eq_getElem?_getD, hj]
theorem fill_len {α : Type} (xs : List α) (z : α) {j : Nat} (hj : j ≤ xs.length) : (xs.take j ++ List.replicate (xs.length - j) z).length = xs.length := by simp; omega
theorem fill_end {α : Type} (xs : List α) (z : α) : xs.take xs.length ++ List.replicate (xs.length - xs.length) z = xs := by simp
theorem getD_map {α β : Type} (f : α → β) (l : List α) (j : Nat) (z : α) (z' : β) (hj : j < l.length) : (l.map f).getD j z' = f (l.getD j z) := by simp [List.getD_eq_getElem?_getD, hj]
theorem all_range {α : Type} (l : List α) (z : α) (p : α → Bool) : (List.range l.length).all (fun j => p (l.getD j z)) = l.all p := by
 rw [Bool.eq_iff_iff, List.all_eq_true, List.all_eq_true]
 constructor
 ·intro h x hx
  obtain ⟨i, hi, rfl⟩ := List.getElem_of_mem hx
  have := h i (by simpa using hi)
  simpa [List.getD_eq_getElem?_getD, hi] using this
 ·intro h j hj
  have hj' : j < l.length := by simpa using hj
  have := h l[j] (List.getElem_mem hj')
  simpa [List.getD_eq_getElem?_getD, hj'] using this
end Go.Proofs.Ytappbijjpcaocaa.Evs
namespace Go.Proofs.Ytappbijjpcaocaa.Evs
set_option linter.unusedSimpArgs false
set_option linter.unusedVariables false
def idxN (o : List Int) (v : Int) : Nat → Nat → Int
 | 0, _ => -1
 | n + 1, j => if o.getD j 0 = v then (j : Int) else idxN o v n (j + 1)
def idx (o : List Int) (v : Int) : Int := idxN o v o.length 0
theorem idxN_spec (o : List Int) (v : Int) : ∀ (n j : Nat), (idxN o v n j = -1 ∧ ∀ i, j ≤ i → i < j + n → o.getD i 0 ≠ v) ∨ (∃ i, j ≤ i ∧ i < j + n ∧ idxN o v n j = (i : Int) ∧ o.getD i 0 = v ∧ ∀ i', j ≤ i' → i' < i → o.getD i' 0 ≠ v)
 | 0, j => .inl ⟨rfl, fun i h1 h2 => by omega⟩
 | n + 1, j => by
  unfold idxN
  by_cases hc : o.getD j 0 = v
  ·rw [if_pos hc]
   exact .inr ⟨j, Nat.le_refl _, by omega, rfl, hc, fun i' h1 h2 => by omega⟩
  ·rw [if_neg hc]
   rcases idxN_spec o v n (j + 1) with ⟨h1, h2⟩ | ⟨i, h1, h2, h3, h4, h5⟩
   ·refine .inl ⟨h1, fun i h3 h4 => ?_⟩
    rcases Nat.lt_or_ge j i with h | h
    ·exact h2 i h (by omega)
    ·obtain rfl : i = j := by omega
     exact hc
   ·refine .inr ⟨i, by omega, by omega, h3, h4, fun i' h6 h7 => ?_⟩
    rcases Nat.lt_or_ge j i' with h | h
    ·exact h5 i' h h7
    ·obtain rfl : i' = j := by omega
     exact hc
theorem idx_spec (o : List Int) (v : Int) : (idx o v = -1 ∧ ∀ i, i < o.length → o.getD i 0 ≠ v) ∨ (∃ i, i < o.length ∧ idx o v = (i : Int) ∧ o.getD i 0 = v ∧ ∀ i', i' < i → o.getD i' 0 ≠ v) := by
 rcases idxN_spec o v o.length 0 with ⟨h1, h2⟩ | ⟨i, h1, h2, h3, h4, h5⟩
 ·exact .inl ⟨h1, fun i h => h2 i (by omega) (by omega)⟩
 ·exact .inr ⟨i, by omega, h3, h4, fun i' h => h5 i' (by omega) h⟩
theorem take_at (o : List Int) {i j : Nat} (h : i < j) : (o.take j).getD i 0 = o.getD i 0 := by
 simp [List.getD_eq_getElem?_getD, List.getElem?_take, h]
theorem idx_first {o : List Int} {j : Nat} (hj : j < o.length) : idx o (o.getD j 0) = (j : Int) ↔ idx (o.take j) (o.getD j 0) < 0 := by
 have hl : (o.take j).length = j := by simp; omega
 rcases idx_spec (o.take j) (o.getD j 0) with ⟨h1, h2⟩ | ⟨i, h1, h2, h3, h4⟩
 ·constructor
  ·intro _; omega
  ·intro _
   rcases idx_spec o (o.getD j 0) with ⟨g1, g2⟩ | ⟨i, g1, g2, g3, g4⟩
   ·exact absurd rfl (g2 j hj)
   ·rw [g2]
    rcases Nat.lt_or_ge i j with h | h
    ·exact absurd (by rw [take_at o h]; exact g3) (h2 i (by omega))
    ·rcases Nat.lt_or_ge j i with h' | h'
     ·exact absurd rfl (g4 j h')
     ·omega
 ·rw [hl] at h1
  rw [take_at o h1] at h3
  constructor
  ·intro h
   rcases idx_spec o (o.getD j 0) with ⟨g1, g2⟩ | ⟨i', g1, g2, g3, g4⟩
   ·omega
   ·exact absurd h3 (g4 i (by omega))
  ·intro h; omega
theorem Tl.idxN {F : Nat → Int → Option Int} {o : List Int} {v : Int}
  (ht : ∀ j, j < o.length → o.getD j 0 ≠ v → ∀ r, Tl (fun k => F k ((j + 1 : Nat) : Int)) r → Tl (fun k => F k (j : Int)) r)
  (hf : ∀ j, j < o.length → o.getD j 0 = v → Tl (fun k => F k (j : Int)) (j : Int)) (he : Tl (fun k => F k (o.length : Int)) (-1)) :
  ∀ (n j : Nat), j + n = o.length → Tl (fun k => F k (j : Int)) (idxN o v n j)
 | 0, j, e => by
  obtain rfl : j = o.length := by omega
  exact he
 | n + 1, j, e => by
  unfold Evs.idxN
  by_cases hc : o.getD j 0 = v
  ·rw [if_pos hc]; exact hf j (by omega) hc
  ·rw [if_neg hc]; exact ht j (by omega) hc _ (Tl.idxN ht hf he n (j + 1) (by omega))
end Go.Proofs.Ytappbijjpcaocaa.Evs
namespace Go.Proofs.Ytappbijjpcaocaa.Print
open Go.RowKit Go.Proofs.YtappbijjpcaocaaW.PrintWords Go.Proofs.Ytappbijjpcaocaa.Evs Go.Proofs.Ytappbijjpcaocaa.Opens
set_option linter.unusedSimpArgs false
abbrev LTask := S56
abbrev Task := S54
def cvTask (x : LTask) : Task := ⟨x.f0, x.f1, x.f2⟩
theorem toTaskS_ev (l : List LTask) (hl : l.length ≤ 1048576) : Tl (fun k => laws_toTaskS.f k l) (l.map cvTask) := by
 unfold laws_toTaskS.f
 have c1 := eq_true (show 0 ≤ (l.length : Int) by omega)
 have c2 := eq_true (show l.length ≤ 11728124029610 by omega)
 simp only [c1, c2, if_true, Int.toNat_natCast]
 have hlen : (l.map cvTask).length = l.length := by simp
 have key := down (Q := fun j => Tl (fun k => laws_toTaskS.l0 k l ((l.map cvTask).take j ++ List.replicate ((l.map cvTask).length - j) z54) (j : Int)) (l.map cvTask)) l.length ?_ ?_
 ·rw [fill_zero, hlen] at key; exact key
 ·refine Tl.step ?_
  have c3 := eq_false (show ¬ ((l.length : Int) < (l.length : Int)) by omega)
  rw [← hlen, fill_end]
  simp only [hlen]
  simp only [laws_toTaskS.l0, c3, if_false]
  exact Tl.ret _
 ·intro j hj h
  refine Tl.step ?_
  have c3 := eq_true (show (j : Int) < (l.length : Int) by omega)
  have c4 := eq_true (show 0 ≤ (j : Int) by omega)
  have c5 := eq_true (show (j : Int) < (((l.map cvTask).take j ++ List.replicate ((l.map cvTask).length - j) z54).length : Int) by rw [fill_len _ _ (by omega)]; omega)
  simp only [laws_toTaskS.l0, c3, c4, c5, if_true, laws_toTask.f, Option.bind_some, Int.toNat_natCast]
  rw [fill_set _ _ (by omega) _ (by rw [getD_map cvTask l j z56 _ hj]; rfl), wrap_succ hj (by omega)]
  exact h
theorem eqTask_self (x : Task) : laws_eqTask.f x.f0 x.f1 x.f2 x.f0 x.f1 x.f2 = some true := by simp [laws_eqTask.f]
theorem eqTaskS_ev (l : List Task) (hl : l.length ≤ 1048576) : Tl (fun k => laws_eqTaskS.f k l l) true := by
 unfold laws_eqTaskS.f
 simp only [if_true]
 refine down (Q := fun j => Tl (fun k => laws_eqTaskS.l0 k l l (j : Int)) true) l.length ?_ ?_
 ·refine Tl.step ?_
  have c3 := eq_false (show ¬ ((l.length : Int) < (l.length : Int)) by omega)
  simp only [laws_eqTaskS.l0, c3, if_false]
  exact Tl.ret _
 ·intro j hj h
  refine Tl.step ?_
  have c3 := eq_true (show (j : Int) < (l.length : Int) by omega)
  have c4 := eq_true (show 0 ≤ (j : Int) by omega)
  simp only [laws_eqTaskS.l0, c3, c4, if_true, eqTask_self, Option.bind_some]
  rw [wrap_succ hj (by omega)]
  exact h
theorem szTaskS_f (l : List LTask) (a : Int) (h0 : 0 ≤ a) (h1 : a ≤ 1048576) (hl : l.length ≤ 9223372036854775807) : laws_szTaskS.f l a = some (if a < l.length then -1 else a - l.length) := by
 unfold laws_szTaskS.f
 rw [wrap_id (by omega) (by omega)]
 by_cases h : a < l.length
 ·rw [if_pos (by omega), if_pos h]
 ·rw [if_neg (by omega), if_neg h]
end Go.Proofs.Ytappbijjpcaocaa.Print
namespace Go.Proofs.Ytappbijjpcaocaa.Print
open Go.RowKit Go.Proofs.YtappbijjpcaocaaW.PrintWords Go.Proofs.Ytappbijjpcaocaa.Evs Go.Proofs.Ytappbijjpcaocaa.Opens
set_option linter.unusedSimpArgs false
set_option linter.unusedVariables false
theorem spec_l1In_f (a b c : Int) : spec_l1In.f a b c = some (decide (b ≤ a ∧ a ≤ c)) := by
 unfold spec_l1In.f
 by_cases h : a ≥ b
 ·have h' : b ≤ a := h
  simp [h, h']
 ·have h' : ¬ b ≤ a := h
  simp [h, h']
theorem spec_TaskValid_f (x : Task) : spec_TaskValid.f x.f0 x.f1 x.f2 = some (okTask x) := by
 unfold spec_TaskValid.f okTask
 simp only [spec_l1In_f, Option.bind_some, decide_eq_true_eq]
 split
 ·split
  ·congr 1; rw [Bool.eq_iff_iff]; simp only [decide_eq_true_eq, Bool.false_eq_true, false_iff]; omega
  ·congr 1; rw [Bool.eq_iff_iff]; simp only [decide_eq_true_eq, Bool.false_eq_true, false_iff]; omega
 ·congr 1; rw [Bool.eq_iff_iff]; simp only [decide_eq_true_eq, Bool.false_eq_true, false_iff]; omega
def okSet (l : List Task) : Bool := decide (l.length ≤ 5) && l.all okTask
theorem impl_SetValid_f (l : List Task) : impl_SetValid.f l = some (okSet l) := rfl
theorem impl_SetValid_ev (l : List Task) (_ : l.length ≤ 1048576) : Tl (fun _ => impl_SetValid.f l) (okSet l) := Tl.of_eq fun _ => impl_SetValid_f l
theorem spec_SetValid_ev (l : List Task) (hl : l.length ≤ 1048576) : Tl (fun k => spec_SetValid.f k l) (okSet l) := by
 have key := Tl.all (F := fun k i => spec_SetValid.l0 k l i) (n := l.length) (P := fun j => okTask (l.getD j z54)) (fin := decide (l.length ≤ 5)) ?_ ?_ ?_
 ·rw [all_range] at key
  unfold okSet
  rw [Bool.and_comm]
  exact key
 ·intro j hj hp r h
  refine Tl.step ?_
  have c3 := eq_true (show (j : Int) < (l.length : Int) by omega)
  have c4 := eq_true (show 0 ≤ (j : Int) by omega)
  have c5 : spec_TaskValid.f (rd_T54 l (j : Int)).f0 (rd_T54 l (j : Int)).f1 (rd_T54 l (j : Int)).f2 = some true := by rw [spec_TaskValid_f]; exact congrArg some hp
  simp only [spec_SetValid.l0, c3, c4, c5, if_true, Option.bind_some]
  rw [wrap_succ hj (by omega)]
  exact h
 ·intro j hj hp
  refine Tl.step ?_
  have c3 := eq_true (show (j : Int) < (l.length : Int) by omega)
  have c4 := eq_true (show 0 ≤ (j : Int) by omega)
  have c5 : spec_TaskValid.f (rd_T54 l (j : Int)).f0 (rd_T54 l (j : Int)).f1 (rd_T54 l (j : Int)).f2 = some false := by rw [spec_TaskValid_f]; exact congrArg some hp
  simp only [spec_SetValid.l0, c3, c4, c5, if_true, Option.bind_some, Bool.false_eq_true, if_false]
  exact Tl.ret _
 ·refine Tl.step ?_
  have c3 := eq_false (show ¬ ((l.length : Int) < (l.length : Int)) by omega)
  simp only [spec_SetValid.l0, c3, if_false]
  have : decide ((l.length : Int) ≤ 5) = decide (l.length ≤ 5) := by rw [decide_eq_decide]; omega
  rw [this]
  exact Tl.ret _
theorem rd_getD (o : List Int) (j : Nat) : rd o (j : Int) = o.getD j 0 := rfl
theorem spec_Index_ev (o : List Int) (v : Int) (hl : o.length ≤ 1048576) : Tl (fun k => spec_l4Index.f k o v) (idx o v) := by
 unfold spec_l4Index.f
 refine Tl.idxN (F := fun k i => spec_l4Index.l0 k o v i) ?_ ?_ ?_ o.length 0 (by omega)
 ·intro j hj hc r hh
  refine Tl.step ?_
  simp only [spec_l4Index.l0, rd_getD]
  rw [wrap_succ hj (by omega)]
  exact Tl.iteT (by omega) (Tl.iteT (by omega) (Tl.iteF hc hh))
 ·intro j hj hc
  refine Tl.step ?_
  simp only [spec_l4Index.l0, rd_getD]
  exact Tl.iteT (by omega) (Tl.iteT (by omega) (Tl.iteT hc (Tl.ret _)))
 ·refine Tl.step ?_
  simp only [spec_l4Index.l0]
  exact Tl.iteF (by omega) (Tl.ret _)
def okAt (s : List Task) (o : List Int) (j : Nat) : Bool := decide (0 ≤ o.getD j 0 ∧ o.getD j 0 ≤ (s.length : Int) - 1) && decide (idx (o.take j) (o.getD j 0) < 0)
def okOrder (s : List Task) (o : List Int) : Bool := (List.range o.length).all (okAt s o) && (okSet s && decide (o.length = s.length))
theorem tmod_pos {a b : Int} (ha : 0 ≤ a) (_hb : 0 < b) : Int.tmod a b = a % b := Int.tmod_eq_emod_of_nonneg ha
theorem tdiv_pos {a b : Int} (ha : 0 ≤ a) : Int.tdiv a b = a / b := Int.tdiv_eq_ediv_of_nonneg ha
def tk (l : List Task) (j : Nat) : Task := l.getD j z54
theorem rd_tk (l : List Task) (j : Nat) : rd_T54 l (j : Int) = tk l j := rfl
theorem okSet_len {l : List Task} (h : okSet l = true) : l.length ≤ 5 := by unfold okSet at h; simp at h; exact h.1
theorem okSet_tk {l : List Task} (h : okSet l = true) {j : Nat} (hj : j < l.length) : 1 ≤ (tk l j).f0 ∧ (tk l j).f0 ≤ 8 ∧ (tk l j).f0 ≤ (tk l j).f1 ∧ (tk l j).f1 ≤ (tk l j).f2 ∧ (tk l j).f2 ≤ 12 := by
 unfold okSet at h
 rw [Bool.and_eq_true, List.all_eq_true] at h
 have h1 : tk l j ∈ l := by unfold tk; simp [List.getD_eq_getElem?_getD, hj]
 have := h.2 _ h1
 unfold okTask at this
 exact of_decide_eq_true this
def tkAt (s : List Task) (o : List Int) (j : Nat) : Task := tk s (o.getD j 0).toNat
def accN (s : List Task) (o : List Int) (i : Nat) (r : Int) : Nat → Int
 | 0 => (tk s i).f0
 | j + 1 => accN s o i r j + (r + (tkAt s o j).f2 - 1) / (tkAt s o j).f2 * (tkAt s o j).f0
def acc (s : List Task) (o : List Int) (i : Nat) (r : Int) : Int := accN s o i r o.length
structure Part (s : List Task) (o : List Int) : Prop where
 ok : okSet s = true
 len : o.length ≤ 5
 at_ : ∀ j, j < o.length → 0 ≤ o.getD j 0 ∧ o.getD j 0 < (s.length : Int)
theorem Part.tk {s : List Task} {o : List Int} (h : Part s o) {j : Nat} (hj : j < o.length) : 1 ≤ (tkAt s o j).f0 ∧ (tkAt s o j).f0 ≤ 8 ∧ (tkAt s o j).f0 ≤ (tkAt s o j).f1 ∧ (tkAt s o j).f1 ≤ (tkAt s o j).f2 ∧ (tkAt s o j).f2 ≤ 12 := by
 have := h.at_ j hj
 exact okSet_tk h.ok (by omega)
theorem accT_le {s : List Task} {o : List Int} (h : Part s o) {r : Int} (h0 : 1 ≤ r) (h1 : r ≤ 12) {j : Nat} (hj : j < o.length) :
  0 ≤ (r + (tkAt s o j).f2 - 1) / (tkAt s o j).f2 ∧ (r + (tkAt s o j).f2 - 1) / (tkAt s o j).f2 ≤ 23 ∧ 0 ≤ (r + (tkAt s o j).f2 - 1) / (tkAt s o j).f2 * (tkAt s o j).f0 ∧ (r + (tkAt s o j).f2 - 1) / (tkAt s o j).f2 * (tkAt s o j).f0 ≤ 184 := by
 have h2 := h.tk hj
 have h6 : 0 ≤ (r + (tkAt s o j).f2 - 1) / (tkAt s o j).f2 := Int.ediv_nonneg (by omega) (by omega)
 have h7 : (r + (tkAt s o j).f2 - 1) / (tkAt s o j).f2 ≤ r + (tkAt s o j).f2 - 1 := Int.ediv_le_self _ (by omega)
 refine ⟨h6, by omega, Int.mul_nonneg h6 (by omega), ?_⟩
 calc (r + (tkAt s o j).f2 - 1) / (tkAt s o j).f2 * (tkAt s o j).f0 ≤ 23 * 8 := Int.mul_le_mul (by omega) (by omega) (by omega) (by omega)
  _ ≤ _ := by omega
theorem accN_le {s : List Task} {o : List Int} (h : Part s o) {i : Nat} (hi : i < s.length) {r : Int} (h0 : 1 ≤ r) (h1 : r ≤ 12) : ∀ j, j ≤ o.length → (tk s i).f0 ≤ accN s o i r j ∧ accN s o i r j ≤ 8 + 184 * j
 | 0, _ => by
  have := okSet_tk h.ok hi
  unfold accN
  omega
 | j + 1, hj => by
  have h2 := accN_le h hi h0 h1 j (by omega)
  have h3 := accT_le h h0 h1 (show j < o.length by omega)
  unfold accN
  omega
theorem accN_mono {s : List Task} {o : List Int} (h : Part s o) {i : Nat} {r v : Int} (hv : r ≤ v) : ∀ j, j ≤ o.length → accN s o i r j ≤ accN s o i v j
 | 0, _ => by unfold accN; omega
 | j + 1, hj => by
  have h2 := accN_mono h (i := i) hv j (by omega)
  have h3 := h.tk (show j < o.length by omega)
  have h4 : (r + (tkAt s o j).f2 - 1) / (tkAt s o j).f2 ≤ (v + (tkAt s o j).f2 - 1) / (tkAt s o j).f2 := Int.ediv_le_ediv (by omega) (by omega)
  have h5 : (r + (tkAt s o j).f2 - 1) / (tkAt s o j).f2 * (tkAt s o j).f0 ≤ (v + (tkAt s o j).f2 - 1) / (tkAt s o j).f2 * (tkAt s o j).f0 := Int.mul_le_mul_of_nonneg_right h4 (by omega)
  unfold accN
  omega
theorem acc_step {s : List Task} {o : List Int} (h : Part s o) {i : Nat} (hi : i < s.length) {r : Int} (h0 : 1 ≤ r) (h1 : r ≤ 12) {j : Nat} (hj : j < o.length) :
  wrap64 (accN s o i r j + (wrap64 ((wrap64 (Int.tdiv (wrap64 ((wrap64 (r + (tkAt s o j).f2)) - 1)) (tkAt s o j).f2)) * (tkAt s o j).f0))) = accN s o i r (j + 1) := by
 have h2 := h.tk hj
 have h3 := accT_le h h0 h1 hj
 have h4 := accN_le h hi h0 h1 (j + 1) (by omega)
 have hl := h.len
 have h5 := okSet_tk h.ok hi
 rw [wrap_id (n := r + (tkAt s o j).f2) (by omega) (by omega), wrap_id (n := r + (tkAt s o j).f2 - 1) (by omega) (by omega), tdiv_pos (by omega), wrap_id (n := _ / _) (by omega) (by omega), wrap_id (n := _ * _) (by omega) (by omega)]
 show wrap64 (accN s o i r (j + 1)) = _
 exact wrap_id (by omega) (by omega)
def respN (s : List Task) (o : List Int) (i : Nat) : Nat → Int → Int
 | 0, _ => -1
 | n + 1, r => if r ≤ (tk s i).f1 then (if acc s o i r = r then r else respN s o i n (acc s o i r)) else -1
def resp (s : List Task) (o : List Int) (i : Nat) : Int := respN s o i 20 (tk s i).f0
theorem rd_tkAt (s : List Task) (o : List Int) {j : Nat} : rd_T54 s (o.getD j 0) = tkAt s o j := rfl
theorem spec_resp_ev {s : List Task} {o : List Int} (h : Part s o) {i : Nat} (hi : i < s.length) : ∀ (n : Nat) (r : Int), 1 ≤ r → 13 - r < n → (r ≤ 12 → r ≤ acc s o i r) → Tl (fun k => spec_l4Response.l0 k s o (i : Int) r) (respN s o i n r)
 | 0, r, h0, h1, h2 => by
  have h3 := okSet_tk h.ok hi
  refine Tl.step ?_
  simp only [spec_l4Response.l0, rd_tk]
  exact Tl.iteT (by omega) (Tl.iteT (by omega) (Tl.iteF (by omega) (Tl.ret _)))
 | n + 1, r, h0, h1, h2 => by
  have h3 := okSet_tk h.ok hi
  have hlen := okSet_len h.ok
  have hl := h.len
  refine Tl.step ?_
  simp only [spec_l4Response.l0, rd_tk]
  refine Tl.iteT (by omega) (Tl.iteT (by omega) ?_)
  unfold respN
  by_cases hc : r ≤ (tk s i).f1
  ·rw [if_pos hc]
   refine Tl.iteT hc ?_
   have key : ∀ v, Tl (fun k => if acc s o i r = r then some r else spec_l4Response.l0 k s o (i : Int) (acc s o i r)) v → Tl (fun k => spec_l4Response.l1 k s o (i : Int) r (tk s i).f0 0) v := by
    intro v hv
    refine down (Q := fun j => Tl (fun k => spec_l4Response.l1 k s o (i : Int) r (accN s o i r j) (j : Int)) v) o.length ?_ ?_
    ·refine Tl.step ?_
     simp only [spec_l4Response.l1]
     exact Tl.iteF (by omega) hv
    ·intro j hj hh
     have h4 := h.at_ j hj
     have h5 := h.tk hj
     refine Tl.step ?_
     simp only [spec_l4Response.l1, rd_getD, rd_tkAt]
     rw [acc_step h hi h0 (by omega) hj, wrap_succ hj (by omega)]
     exact Tl.iteT (by omega) (Tl.iteT (by omega) (Tl.iteT h4.1 (Tl.iteT h4.2 (Tl.iteF (by omega) hh))))
   refine key _ ?_
   by_cases he : acc s o i r = r
   ·rw [if_pos he]; exact Tl.iteT he (Tl.ret _)
   ·rw [if_neg he]
    have h6 := h2 (by omega)
    have h7 : 12 ≥ r := by omega
    refine Tl.iteF he (spec_resp_ev h hi n _ (by omega) (by omega) (fun _ => accN_mono h h6 _ (Nat.le_refl _)))
  ·rw [if_neg hc]; exact Tl.iteF hc (Tl.ret _)
theorem rd_zero (m : Nat) (x : Int) : rd (List.replicate m 0) x = 0 := by
 unfold rd
 rw [List.getD_eq_getElem?_getD, List.getElem?_replicate]
 split <;> rfl
theorem impl_ceil_ev {a b : Int} (hb : b ≠ 0) : Tl (fun _ => impl_ceil.f a b) (wrap64 (Int.tdiv (wrap64 ((wrap64 (a + b)) - 1)) b)) := by
 unfold impl_ceil.f
 exact Tl.iteF hb (Tl.ret _)
theorem impl_resp_ev {s : List Task} {o : List Int} (h : Part s o) {i : Nat} (hi : i < s.length) : ∀ (n : Nat) (r : Int), 1 ≤ r → r ≤ 2000 → 13 - r < n → (r ≤ 12 → r ≤ acc s o i r) → Tl (fun k => impl_response.l0 k s (List.replicate s.length 0) (i : Int) o r) (respN s o i n r)
 | 0, r, h0, hr, h1, h2 => by
  have h3 := okSet_tk h.ok hi
  refine Tl.step ?_
  simp only [impl_response.l0, rd_tk, rd_zero, List.length_replicate]
  rw [wrap_id (n := r + 0) (by omega) (by omega)]
  exact Tl.iteT (by omega) (Tl.iteT (by omega) (Tl.iteT (by omega) (Tl.iteF (by omega) (Tl.ret _))))
 | n + 1, r, h0, hr, h1, h2 => by
  have h3 := okSet_tk h.ok hi
  have hlen := okSet_len h.ok
  have hl := h.len
  refine Tl.step ?_
  simp only [impl_response.l0, rd_tk, rd_zero, List.length_replicate]
  rw [wrap_id (n := r + 0) (by omega) (by omega), Int.add_zero]
  refine Tl.iteT (by omega) (Tl.iteT (by omega) (Tl.iteT (by omega) ?_))
  unfold respN
  by_cases hc : r ≤ (tk s i).f1
  ·rw [if_pos hc]
   refine Tl.iteT hc ?_
   have key : ∀ v, Tl (fun k => if acc s o i r = r then some r else impl_response.l0 k s (List.replicate s.length 0) (i : Int) o (acc s o i r)) v → Tl (fun k => impl_response.l1 k s (List.replicate s.length 0) (i : Int) o r (tk s i).f0 o (o.length : Int) 0) v := by
    intro v hv
    refine down (Q := fun j => Tl (fun k => impl_response.l1 k s (List.replicate s.length 0) (i : Int) o r (accN s o i r j) o (o.length : Int) (j : Int)) v) o.length ?_ ?_
    ·refine Tl.step ?_
     simp only [impl_response.l1, rd_zero, List.length_replicate]
     rw [wrap_id (n := r + 0) (by omega) (by omega), Int.add_zero]
     refine Tl.iteF (by omega) ?_
     by_cases he : acc s o i r = r
     ·have hv' : v = r := by
       obtain ⟨k0, hk⟩ := hv
       have := hk k0 (Nat.le_refl _)
       simp only [if_pos he] at this
       exact (Option.some.inj this).symm
      rw [hv']
      exact Tl.iteT he (Tl.iteT (by omega) (Tl.iteT (by omega) (Tl.ret _)))
     ·refine Tl.iteF he ?_
      have h9 : Tl (fun k => impl_response.l0 k s (List.replicate s.length 0) (i : Int) o (acc s o i r)) v := by simpa only [if_neg he] using hv
      exact h9
    ·intro j hj hh
     have h4 := h.at_ j hj
     have h5 := h.tk hj
     refine Tl.step ?_
     simp only [impl_response.l1, rd_getD, rd_tkAt, rd_zero, List.length_replicate]
     rw [wrap_id (n := r + 0) (by omega) (by omega), Int.add_zero]
     refine Tl.iteT (by omega) (Tl.iteT (by omega) (Tl.iteT (by omega) (Tl.iteT h4.1 (Tl.iteT h4.2 (Tl.iteT h4.2 (Tl.bind (impl_ceil_ev (by omega)) ?_))))))
     rw [acc_step h hi h0 (by omega) hj, wrap_succ hj (by omega)]
     exact hh
   refine key _ ?_
   by_cases he : acc s o i r = r
   ·rw [if_pos he]; exact Tl.iteT he (Tl.ret _)
   ·rw [if_neg he]
    have h6 := h2 (by omega)
    have h7 := accN_le h hi h0 (show r ≤ 12 by omega) o.length (Nat.le_refl _)
    have h8 : accN s o i r o.length = acc s o i r := rfl
    refine Tl.iteF he (impl_resp_ev h hi n _ (by omega) (by omega) (by omega) (fun _ => accN_mono h h6 _ (Nat.le_refl _)))
  ·rw [if_neg hc]; exact Tl.iteF hc (Tl.ret _)
theorem spec_Response_ev {s : List Task} {o : List Int} (h : Part s o) {i : Nat} (hi : i < s.length) : Tl (fun k => spec_l4Response.f k s o (i : Int)) (resp s o i) := by
 have h3 := okSet_tk h.ok hi
 unfold spec_l4Response.f resp
 simp only [rd_tk]
 exact Tl.iteT (by omega) (Tl.iteT (by omega) (spec_resp_ev h hi 20 _ (by omega) (by omega) (fun _ => (accN_le h hi (by omega) (by omega) _ (Nat.le_refl _)).1)))
theorem impl_Response_ev {s : List Task} {o : List Int} (h : Part s o) {i : Nat} (hi : i < s.length) : Tl (fun k => impl_response.f k s (List.replicate s.length 0) (i : Int) o) (resp s o i) := by
 have h3 := okSet_tk h.ok hi
 unfold impl_response.f resp
 simp only [rd_tk]
 exact Tl.iteT (by omega) (Tl.iteT (by omega) (impl_resp_ev h hi 20 _ (by omega) (by omega) (by omega) (fun _ => (accN_le h hi (by omega) (by omega) _ (Nat.le_refl _)).1)))
theorem respN_ge {s : List Task} {o : List Int} {i : Nat} : ∀ (n : Nat) (r : Int), 1 ≤ r → (r ≤ 12 → r ≤ acc s o i r) → Part s o → i < s.length → respN s o i n r = -1 ∨ 1 ≤ respN s o i n r
 | 0, r, h0, h2, h, hi => .inl rfl
 | n + 1, r, h0, h2, h, hi => by
  have h3 := okSet_tk h.ok hi
  unfold respN
  split
  ·split
   ·exact .inr h0
   ·have h6 := h2 (by omega)
    exact respN_ge n _ (by omega) (fun _ => accN_mono h h6 _ (Nat.le_refl _)) h hi
  ·exact .inl rfl
theorem resp_ge {s : List Task} {o : List Int} (h : Part s o) {i : Nat} (hi : i < s.length) : resp s o i = -1 ∨ 1 ≤ resp s o i := by
 have h3 := okSet_tk h.ok hi
 exact respN_ge 20 _ (by omega) (fun _ => (accN_le h hi (by omega) (by omega) _ (Nat.le_refl _)).1) h hi
end Go.Proofs.Ytappbijjpcaocaa.Print
namespace Go.Proofs.Ytappbijjpcaocaa.Print
open Go.RowKit Go.Proofs.YtappbijjpcaocaaW.PrintWords Go.Proofs.Ytappbijjpcaocaa.Evs Go.Proofs.Ytappbijjpcaocaa.Opens Go.Proofs.YtappbijjpcaocaaW.PrintMore
set_option linter.unusedSimpArgs false
set_option linter.unusedVariables false
def freeN (low : List Int) (n : Nat) : List Int := ((List.range n).filter (fun (i : Nat) => decide (idx low (i : Int) < 0))).map (fun (i : Nat) => (i : Int))
theorem freeN_succ (low : List Int) (j : Nat) : freeN low (j + 1) = if idx low (j : Int) < 0 then freeN low j ++ [(j : Int)] else freeN low j := by
 unfold freeN
 rw [List.range_succ, List.filter_append, List.map_append]
 split
 ·rename_i h; simp [h]
 ·rename_i h; simp [h]
theorem freeN_len (low : List Int) : ∀ j, (freeN low j).length ≤ j
 | 0 => by simp [freeN]
 | j + 1 => by
  have := freeN_len low j
  rw [freeN_succ]
  split
  ·simp; omega
  ·omega
theorem wo_len (l : List Int) (i : Int) : (wo l i).length ≤ l.length := List.length_filter_le _ _
theorem wo_same (l : List Int) (i : Int) : wo (l ++ [i]) i = wo l i := by unfold wo; rw [List.filter_append]; simp
theorem wo_more (l : List Int) {i x : Int} (h : x ≠ i) : wo (l ++ [x]) i = wo l i ++ [x] := by unfold wo; rw [List.filter_append]; simp [h]
theorem spec_others_ev (n : Nat) (i : Int) (low : List Int) (hl : low.length ≤ 1000) (hn : n ≤ 1000)
  (hix : ∀ v, Tl (fun k => spec_l4Index.f k low v) (idx low v)) : Tl (fun k => spec_l4Others.f k (n : Int) i low) (wo (freeN low n) i) := by
 unfold spec_l4Others.f
 refine down (Q := fun j => Tl (fun k => spec_l4Others.l0 k (n : Int) i low (wo (freeN low j) i) (j : Int)) (wo (freeN low n) i)) n ?_ ?_
 ·refine Tl.step ?_
  simp only [spec_l4Others.l0]
  exact Tl.iteF (by omega) (Tl.ret _)
 ·intro j hj h
  have h1 := freeN_len low j
  have h2 := wo_len (freeN low j) i
  refine Tl.step ?_
  simp only [spec_l4Others.l0]
  refine Tl.iteT (by omega) ?_
  rw [wrap_succ hj (by omega)]
  rw [freeN_succ] at h
  by_cases hc : (j : Int) = i
  ·refine Tl.iteT hc ?_
   subst hc
   by_cases hf : idx low (j : Int) < 0
   ·rw [if_pos hf, wo_same] at h
    exact h
   ·rw [if_neg hf] at h; exact h
  ·refine Tl.iteF hc (Tl.bind (hix _) ?_)
   by_cases hf : idx low (j : Int) < 0
   ·rw [if_pos hf, wo_more _ hc] at h
    exact Tl.iteT hf (Tl.iteT (by omega) h)
   ·rw [if_neg hf] at h
    exact Tl.iteF hf h
theorem freeN_in {low : List Int} {n : Nat} {x : Int} (h : x ∈ freeN low n) : 0 ≤ x ∧ x < (n : Int) := by
 unfold freeN at h
 obtain ⟨i, hi, rfl⟩ := List.mem_map.1 h
 have := List.mem_range.1 (List.mem_filter.1 hi).1
 omega
def okF (s : List Task) (low : List Int) (i : Nat) : Bool := decide (idx low (i : Int) < 0) && decide (resp s (wo (freeN low s.length) (i : Int)) i ≥ 0)
def lowF (s : List Task) (low : List Int) : Nat → Int → Int
 | 0, x => x
 | j + 1, x => lowF s low j (if okF s low j = true then (j : Int) else x)
theorem spec_level_ev {s : List Task} {low : List Int} (hn : s.length ≤ 1000) (hl : low.length ≤ 1000) (hix : ∀ v, Tl (fun k => spec_l4Index.f k low v) (idx low v)) (hp : ∀ i : Nat, i < s.length → Part s (wo (freeN low s.length) (i : Int))) {r : List Int × Bool} :
  ∀ (j : Nat) (x : Int), j ≤ s.length → Tl (fun k => if lowF s low j x < 0 then some (([] : List Int), false) else (spec_AssignPriorities.l0 k s (lowF s low j x :: low))) r → Tl (fun k => spec_AssignPriorities.l1 k s low x ((j : Int) - 1)) r
 | 0, x, _, h => by
  refine Tl.step ?_
  simp only [spec_AssignPriorities.l1]
  refine Tl.iteF (by omega) ?_
  unfold lowF at h
  by_cases hx : x < 0
  ·simp only [if_pos hx] at h ⊢
   exact h
  ·simp only [if_neg hx] at h ⊢
   exact Tl.bind (Tl.ret _) (Tl.iteT (by simp; omega) h)
 | j + 1, x, hj, h => by
  have ih := fun y => spec_level_ev hn hl hix hp (r := r) j y (by omega)
  unfold lowF at h
  refine Tl.step ?_
  simp only [spec_AssignPriorities.l1]
  rw [show ((j + 1 : Nat) : Int) - 1 = (j : Int) by omega, wrap_id (n := (j : Int) - 1) (by omega) (by omega)]
  refine Tl.iteT (by omega) (Tl.bind (hix _) ?_)
  by_cases h1 : idx low (j : Int) < 0
  ·refine Tl.iteT h1 (Tl.bind (spec_others_ev s.length (j : Int) low hl hn hix) (Tl.bind (spec_Response_ev (hp j (by omega)) (by omega)) ?_))
   by_cases h2 : resp s (wo (freeN low s.length) (j : Int)) j ≥ 0
   ·have e : okF s low j = true := by unfold okF; rw [decide_eq_true h1, decide_eq_true h2]; rfl
    simp only [if_pos e] at h
    exact Tl.iteT h2 (ih _ h)
   ·have e : ¬ okF s low j = true := by unfold okF; rw [decide_eq_false h2]; simp
    simp only [if_neg e] at h
    exact Tl.iteF h2 (ih _ h)
  ·have e : ¬ okF s low j = true := by unfold okF; rw [decide_eq_false h1]; simp
   simp only [if_neg e] at h
   exact Tl.iteF h1 (ih _ h)
theorem part_wo {s : List Task} (h : okSet s = true) (low : List Int) (i : Int) : Part s (wo (freeN low s.length) i) := by
 have h1 := wo_len (freeN low s.length) i
 have h2 := freeN_len low s.length
 have h3 := okSet_len h
 refine ⟨h, by omega, fun j hj => ?_⟩
 have hm : (wo (freeN low s.length) i).getD j 0 ∈ wo (freeN low s.length) i := by
  rw [List.getD_eq_getElem?_getD, List.getElem?_eq_getElem hj]
  exact List.getElem_mem _
 exact freeN_in (List.mem_filter.1 hm).1
def audF (s : List Task) : Nat → List Int → List Int × Bool
 | 0, low => (low, true)
 | m + 1, low => if lowF s low s.length (-1) < 0 then ([], false) else audF s m (lowF s low s.length (-1) :: low)
theorem spec_aud_ev {s : List Task} (h : okSet s = true) : ∀ (m : Nat) (low : List Int), low.length + m = s.length → Tl (fun k => spec_AssignPriorities.l0 k s low) (audF s m low)
 | 0, low, e => by
  refine Tl.step ?_
  simp only [spec_AssignPriorities.l0]
  exact Tl.iteF (by omega) (Tl.ret _)
 | m + 1, low, e => by
  have hn := okSet_len h
  refine Tl.step ?_
  simp only [spec_AssignPriorities.l0]
  refine Tl.iteT (by omega) ?_
  rw [wrap_id (n := (s.length : Int) - 1) (by omega) (by omega)]
  refine spec_level_ev (by omega) (by omega) (fun v => spec_Index_ev low v (by omega)) (fun i _ => part_wo h low _) s.length (-1) (Nat.le_refl _) ?_
  unfold audF
  by_cases hx : lowF s low s.length (-1) < 0
  ·simp only [if_pos hx]; exact Tl.ret _
  ·simp only [if_neg hx]; exact spec_aud_ev h m _ (by simp; omega)
theorem idx_neg (o : List Int) (v : Int) : idx o v < 0 ↔ v ∉ o := by
 rcases idx_spec o v with ⟨h1, h2⟩ | ⟨i, h1, h2, h3, h4⟩
 ·rw [h1]
  refine ⟨fun _ hm => ?_, fun _ => by omega⟩
  obtain ⟨i, hi, e⟩ := List.mem_iff_getElem.1 hm
  exact h2 i hi (by rw [List.getD_eq_getElem?_getD, List.getElem?_eq_getElem hi]; exact e)
 ·rw [h2]
  refine ⟨fun h => by omega, fun h => absurd ?_ h⟩
  rw [← h3, List.getD_eq_getElem?_getD, List.getElem?_eq_getElem h1]
  exact List.getElem_mem _
theorem idx_cons (x : Int) (low : List Int) (v : Int) : idx (x :: low) v < 0 ↔ v ≠ x ∧ idx low v < 0 := by
 rw [idx_neg, idx_neg, List.mem_cons, not_or]
theorem atF_snoc (p : Int → Bool) (x : Int) : ∀ (l : List Int) (j : Nat), atF p (l ++ [x]) j = if atF p l j < 0 then (if p x = true then ((j + l.length : Nat) : Int) else -1) else atF p l j
 | [], j => by simp [atF]
 | y :: l, j => by
  rw [List.cons_append]
  unfold atF
  by_cases h : p y = true
  ·rw [if_pos h, if_pos h, if_neg (by omega)]
  ·rw [if_neg h, if_neg h, atF_snoc p x l (j + 1)]
   simp only [List.length_cons]
   rw [show j + 1 + l.length = j + (l.length + 1) by omega]
theorem freeN_cons (i : Nat) (low : List Int) : ∀ j, j ≤ i → freeN ((i : Int) :: low) j = freeN low j
 | 0, _ => rfl
 | j + 1, h => by
  rw [freeN_succ, freeN_succ, freeN_cons i low j (by omega)]
  by_cases hc : idx low (j : Int) < 0
  ·rw [if_pos hc, if_pos ((idx_cons _ _ _).2 ⟨by omega, hc⟩)]
  ·rw [if_neg hc, if_neg (fun h2 => hc ((idx_cons _ _ _).1 h2).2)]
theorem aud_match {s : List Task} {low : List Int} {p : Int → Bool} {n : Nat} (hp : ∀ i : Nat, i < n → idx low (i : Int) < 0 → p (i : Int) = okF s low i) : ∀ j, j ≤ n →
  (atF p (freeN low j) 0 = -1 ∧ ∀ i, i < j → okF s low i = false) ∨ (∃ i a : Nat, i < j ∧ okF s low i = true ∧ (∀ i', i' < i → okF s low i' = false) ∧ atF p (freeN low j) 0 = (a : Int) ∧ a < (freeN low j).length ∧ (freeN low j).getD a 0 = (i : Int) ∧ cutAt (freeN low j) a = freeN ((i : Int) :: low) j)
 | 0, _ => .inl ⟨rfl, fun i h => by omega⟩
 | j + 1, hj => by
  rw [freeN_succ]
  rcases aud_match hp j (by omega) with ⟨h1, h2⟩ | ⟨i, a, h1, h2, h3, h4, h5, h6, h7⟩
  ·by_cases hc : idx low (j : Int) < 0
   ·rw [if_pos hc, atF_snoc, h1, if_pos (by omega), hp j (by omega) hc]
    cases hk : okF s low j with
    | true =>
     refine .inr ⟨j, (freeN low j).length, by omega, hk, h2, by simp, by simp, by simp, ?_⟩
     rw [freeN_succ, if_neg (fun h => ((idx_cons _ _ _).1 h).1 rfl), freeN_cons j low j (Nat.le_refl _)]
     unfold cutAt
     simp
    | false =>
     refine .inl ⟨by simp, fun i hi => ?_⟩
     rcases Nat.lt_or_ge i j with h | h
     ·exact h2 i h
     ·obtain rfl : i = j := by omega
      exact hk
   ·rw [if_neg hc]
    refine .inl ⟨h1, fun i hi => ?_⟩
    rcases Nat.lt_or_ge i j with h | h
    ·exact h2 i h
    ·obtain rfl : i = j := by omega
     unfold okF
     rw [decide_eq_false hc]
     rfl
  ·have hcut : idx ((i : Int) :: low) (j : Int) < 0 ↔ idx low (j : Int) < 0 := ⟨fun h => ((idx_cons _ _ _).1 h).2, fun h => (idx_cons _ _ _).2 ⟨by omega, h⟩⟩
   by_cases hc : idx low (j : Int) < 0
   ·rw [if_pos hc, atF_snoc, h4, if_neg (by omega)]
    refine .inr ⟨i, a, by omega, h2, h3, rfl, by simp; omega, ?_, ?_⟩
    ·rw [List.getD_eq_getElem?_getD, List.getElem?_append_left h5, ← List.getD_eq_getElem?_getD]; exact h6
    ·rw [freeN_succ, if_pos (hcut.2 hc), ← h7]
     unfold cutAt
     rw [List.take_append_of_le_length (by omega), List.drop_append_of_le_length (by omega), List.append_assoc]
   ·rw [if_neg hc]
    refine .inr ⟨i, a, by omega, h2, h3, h4, h5, h6, ?_⟩
    rw [freeN_succ, if_neg (fun h => hc (hcut.1 h)), h7]
theorem lowF_none {s : List Task} {low : List Int} : ∀ (j : Nat) (x : Int), (∀ i, i < j → okF s low i = false) → lowF s low j x = x
 | 0, _, _ => rfl
 | j + 1, x, h => by
  unfold lowF
  rw [h j (by omega), if_neg (by simp)]
  exact lowF_none j x (fun i hi => h i (by omega))
theorem lowF_some {s : List Task} {low : List Int} {i : Nat} (hi : okF s low i = true) (hm : ∀ i', i' < i → okF s low i' = false) : ∀ (j : Nat) (x : Int), i < j → lowF s low j x = (i : Int)
 | j + 1, x, h => by
  unfold lowF
  rcases Nat.lt_or_ge i j with h1 | h1
  ·exact lowF_some hi hm j _ h1
  ·obtain rfl : i = j := by omega
   rw [hi, if_pos rfl]
   exact lowF_none i _ hm
theorem all_tl {β : Type} {g : Int → Nat → Option β} {f : Int → β} : ∀ (l : List Int), (∀ i ∈ l, Tl (g i) (f i)) → ∃ K, ∀ k, K ≤ k → ∀ i ∈ l, g i k = some (f i)
 | [], _ => ⟨0, fun _ _ i hi => by cases hi⟩
 | x :: l, h => by
  obtain ⟨K1, h1⟩ := all_tl l (fun i hi => h i (by simp [hi]))
  obtain ⟨K2, h2⟩ := h x (by simp)
  refine ⟨max K1 K2, fun k hk i hi => ?_⟩
  rcases List.mem_cons.1 hi with rfl | hi
  ·exact h2 k (by omega)
  ·exact h1 k (by omega) i hi
theorem impl_aud_ev {s : List Task} (h : okSet s = true) : ∀ (m : Nat) (low : List Int), Tl (fun k => apN k s m (freeN low s.length) (List.replicate m 0 ++ low)) (audF s m low)
 | 0, low => Tl.of_eq fun _ => rfl
 | m + 1, low => by
  have hall : ∀ i ∈ freeN low s.length, Tl (fun k => apV k s (freeN low s.length) i) (resp s (wo (freeN low s.length) i) i.toNat) := fun i hi => by
   have hin := freeN_in hi
   obtain ⟨a, rfl⟩ : ∃ a : Nat, i = (a : Int) := ⟨i.toNat, by omega⟩
   exact impl_Response_ev (part_wo h low _) (by omega)
  obtain ⟨K, hK⟩ := all_tl (g := fun i k => apV k s (freeN low s.length) i) _ hall
  have hok : ∀ k, K ≤ k → apOk k s (freeN low s.length) = true ∧ atF (apP k s (freeN low s.length)) (freeN low s.length) 0 = atF (fun x => decide (resp s (wo (freeN low s.length) x) x.toNat ≥ 0)) (freeN low s.length) 0 := fun k hk => by
   refine ⟨?_, atF_congr _ _ (fun x hx => ?_)⟩
   ·unfold apOk
    rw [List.all_eq_true]
    intro i hi
    rw [hK k hk i hi]
    rfl
   ·unfold apP
    rw [hK k hk x hx]
    rfl
  unfold audF
  rcases aud_match (s := s) (low := low) (p := fun x => decide (resp s (wo (freeN low s.length) x) x.toNat ≥ 0)) (n := s.length) (fun i hi hf => by unfold okF; rw [decide_eq_true hf, Bool.true_and]; rfl) s.length (Nat.le_refl _) with ⟨h1, h2⟩ | ⟨i, a, h1, h2, h3, h4, h5, h6, h7⟩
  ·rw [lowF_none _ _ h2, if_pos (by omega)]
   refine ⟨K, fun k hk => ?_⟩
   obtain ⟨g1, g2⟩ := hok k hk
   unfold apN
   dsimp only
   rw [if_pos g1, g2, h1, if_pos (by omega)]
  ·rw [lowF_some h2 h3 _ _ h1, if_neg (by omega)]
   obtain ⟨K2, hK2⟩ := impl_aud_ev h m ((i : Int) :: low)
   refine ⟨max K K2, fun k hk => ?_⟩
   obtain ⟨g1, g2⟩ := hok k (by omega)
   unfold apN
   dsimp only
   rw [if_pos g1, g2, h4, if_neg (by omega), Int.toNat_natCast, h7, h6]
   have e : (List.replicate (m + 1) (0 : Int) ++ low).set m (i : Int) = List.replicate m 0 ++ (i : Int) :: low := by
    rw [List.replicate_succ', List.append_assoc, List.set_append_right _ _ (by simp)]
    simp
   rw [e]
   exact hK2 k (by omega)
def aud (s : List Task) : List Int × Bool := if okSet s = true then audF s s.length [] else ([], false)
theorem audF_len (s : List Task) : ∀ (m : Nat) (low : List Int), (audF s m low).1.length ≤ m + low.length
 | 0, low => by unfold audF; simp
 | m + 1, low => by
  unfold audF
  split
  ·simp
  ·have := audF_len s m (lowF s low s.length (-1) :: low)
   simp at this
   omega
theorem aud_len (s : List Task) : (aud s).1.length ≤ 5 := by
 unfold aud
 split
 ·rename_i h
  have h1 := audF_len s s.length []
  have h2 := okSet_len h
  simp at h1
  omega
 ·simp
theorem spec_AssignPriorities_ev (s : List Task) (hs : s.length ≤ 1048576) : Tl (fun k => spec_AssignPriorities.f k s) (aud s) := by
 unfold spec_AssignPriorities.f
 refine Tl.bind (spec_SetValid_ev s hs) ?_
 by_cases h : okSet s = true
 ·refine Tl.iteT h (Tl.cast (spec_aud_ev h s.length [] (by simp)) ?_)
  unfold aud
  rw [if_pos h]
 ·refine Tl.iteF h (Tl.cast (Tl.ret _) ?_)
  unfold aud
  rw [if_neg h]
theorem freeN_all (n : Nat) : freeN [] n = (List.range n).map (fun (i : Nat) => (i : Int)) := by
 unfold freeN
 rw [List.filter_eq_self.2 (fun i _ => decide_eq_true ((idx_neg _ _).2 (by simp)))]
theorem impl_AssignPriorities_ev (s : List Task) (hs : s.length ≤ 1048576) : Tl (fun k => impl_AssignPriorities.f k s) (aud s) := by
 unfold impl_AssignPriorities.f
 refine Tl.bind (impl_SetValid_ev s hs) ?_
 by_cases h : okSet s = true
 ·have hn := okSet_len h
  refine Tl.iteT h (Tl.iteT (by omega) ?_)
  have h1 := impl_aud_ev h s.length []
  rw [freeN_all, List.append_nil] at h1
  refine Tl.cast h1 ?_
  unfold aud
  rw [if_pos h]
 ·refine Tl.iteF h (Tl.cast (Tl.ret _) ?_)
  unfold aud
  rw [if_neg h]
end Go.Proofs.Ytappbijjpcaocaa.Print
namespace Go.Proofs.Ytappbijjpcaocaa.Print
open Go.RowKit Go.Proofs.YtappbijjpcaocaaW.PrintWords Go.Proofs.Ytappbijjpcaocaa.Evs Go.Proofs.Ytappbijjpcaocaa.Opens
set_option linter.unusedSimpArgs false
set_option linter.unusedVariables false
theorem wrap3 {m : Int} (h0 : 0 ≤ m) (h1 : m ≤ 100000000) : wrap64 ((wrap64 ((wrap64 (m + 1)) + 1)) + 1) = m + 3 := by
 rw [wrap_id (n := m + 1) (by omega) (by omega), wrap_id (n := m + 1 + 1) (by omega) (by omega), wrap_id (n := m + 1 + 1 + 1) (by omega) (by omega)]
 omega
theorem markTaskS_at : ∀ (d j : Nat) (l : List Task) (m : Int), j + d = l.length → 0 ≤ m → m + 3 * d ≤ 100000000 → l.length ≤ 1048576 → ∃ l', Tl (fun k => laws_markTaskS.l0 k l m (j : Int)) (m + 3 * d, l')
 | 0, j, l, m, e, h0, h1, h2 => by
  refine ⟨l, Tl.step ?_⟩
  simp only [laws_markTaskS.l0]
  exact Tl.iteF (by omega) (Tl.cast (Tl.ret _) (by rw [show m + 3 * ((0 : Nat) : Int) = m by omega]))
 | d + 1, j, l, m, e, h0, h1, h2 => by
  have key : ∀ x : List Task, x.length = l.length → ∃ l', Tl (fun k => laws_markTaskS.l0 k x (m + 3) ((j + 1 : Nat) : Int)) (m + 3 + 3 * d, l') := fun x hx => markTaskS_at d (j + 1) x (m + 3) (by omega) (by omega) (by omega) (by omega)
  obtain ⟨l', hl'⟩ := key _ (show (((l.set j ⟨m, (tk l j).f1, (tk l j).f2⟩).set j ⟨(tk (l.set j ⟨m, (tk l j).f1, (tk l j).f2⟩) j).f0, wrap64 (m + 1), (tk (l.set j ⟨m, (tk l j).f1, (tk l j).f2⟩) j).f2⟩).set j ⟨(tk ((l.set j ⟨m, (tk l j).f1, (tk l j).f2⟩).set j ⟨(tk (l.set j ⟨m, (tk l j).f1, (tk l j).f2⟩) j).f0, wrap64 (m + 1), (tk (l.set j ⟨m, (tk l j).f1, (tk l j).f2⟩) j).f2⟩) j).f0, (tk ((l.set j ⟨m, (tk l j).f1, (tk l j).f2⟩).set j ⟨(tk (l.set j ⟨m, (tk l j).f1, (tk l j).f2⟩) j).f0, wrap64 (m + 1), (tk (l.set j ⟨m, (tk l j).f1, (tk l j).f2⟩) j).f2⟩) j).f1, wrap64 ((wrap64 (m + 1)) + 1)⟩).length = l.length by simp only [List.length_set])
  refine ⟨l', Tl.step ?_⟩
  simp only [laws_markTaskS.l0, rd_tk, Int.toNat_natCast, Option.bind_some]
  rw [wrap3 h0 (by omega), wrap_succ (n := l.length) (by omega) (by omega)]
  exact Tl.iteT (by omega) (Tl.iteT (by omega) (Tl.cast hl' (by rw [show m + 3 + 3 * (d : Int) = m + 3 * ((d + 1 : Nat) : Int) by omega])))
theorem markTaskS_ev (l : List Task) (m : Int) (h0 : 0 ≤ m) (h1 : m ≤ 10000000) (hl : l.length ≤ 1048576) : ∃ l', Tl (fun k => laws_markTaskS.f k l m) (m + 3 * l.length, l') :=
 markTaskS_at l.length 0 l m (by omega) h0 (by omega) hl
end Go.Proofs.Ytappbijjpcaocaa.Print
namespace Go.Proofs.Ytappbijjpcaocaa.Print
open Go.RowKit Go.Proofs.YtappbijjpcaocaaW.PrintWords Go.Proofs.Ytappbijjpcaocaa.Evs Go.Proofs.Ytappbijjpcaocaa.Opens
set_option linter.unusedSimpArgs false
theorem eqIntS_ev (l : List Int) (hl : l.length ≤ 1048576) : Tl (fun k => laws_eqIntS.f k l l) true := by
 unfold laws_eqIntS.f
 simp only [if_true]
 refine down (Q := fun j => Tl (fun k => laws_eqIntS.l0 k l l (j : Int)) true) l.length ?_ ?_
 ·refine Tl.step ?_
  have c3 := eq_false (show ¬ ((l.length : Int) < (l.length : Int)) by omega)
  simp only [laws_eqIntS.l0, c3, if_false]
  exact Tl.ret _
 ·intro j hj h
  refine Tl.step ?_
  have c3 := eq_true (show (j : Int) < (l.length : Int) by omega)
  have c4 := eq_true (show 0 ≤ (j : Int) by omega)
  simp only [laws_eqIntS.l0, c3, c4, if_true]
  rw [wrap_succ hj (by omega)]
  exact h
end Go.Proofs.Ytappbijjpcaocaa.Print
namespace Go.Proofs.Ytappbijjpcaocaa.Print
open Go.RowKit Go.Proofs.YtappbijjpcaocaaW.PrintWords Go.Proofs.Ytappbijjpcaocaa.Evs Go.Proofs.Ytappbijjpcaocaa.Opens
set_option linter.unusedSimpArgs false
set_option linter.unusedVariables false
structure Marked (l : List Int) (m : Int) (n : Nat) : Prop where
 len : l.length = n
 at_ : ∀ i, i < n → l.getD i 0 = m + i
theorem markIntS_at : ∀ (d j : Nat) (l : List Int) (m : Int), j + d = l.length → 0 ≤ m → m + l.length ≤ 100000000 → (∀ i, i < j → l.getD i 0 = m + i) → ∃ l', Marked l' m l.length ∧ Tl (fun k => laws_markIntS.l0 k l (m + j) (j : Int)) (m + l.length, l')
 | 0, j, l, m, e, h0, h1, hm => by
  refine ⟨l, ⟨rfl, fun i hi => hm i (by omega)⟩, Tl.step ?_⟩
  simp only [laws_markIntS.l0]
  exact Tl.iteF (by omega) (Tl.cast (Tl.ret _) (by rw [show m + (j : Int) = m + (l.length : Int) by omega]))
 | d + 1, j, l, m, e, h0, h1, hm => by
  obtain ⟨l', h2, h3⟩ := markIntS_at d (j + 1) (l.set j (m + j)) m (by rw [List.length_set]; omega) h0 (by rw [List.length_set]; exact h1) (fun i hi => by
   by_cases hij : i = j
   ·subst hij
    simp [List.getD_eq_getElem?_getD, List.getElem?_set, show i < l.length by omega]
   ·have := hm i (by omega)
    rw [← this]
    simp [List.getD_eq_getElem?_getD, List.getElem?_set, show ¬ j = i by omega])
  rw [List.length_set] at h2 h3
  refine ⟨l', h2, Tl.step ?_⟩
  simp only [laws_markIntS.l0, Int.toNat_natCast]
  rw [wrap_id (n := m + (j : Int) + 1) (by omega) (by omega), wrap_succ (n := l.length) (by omega) (by omega), show m + (j : Int) + 1 = m + ((j + 1 : Nat) : Int) by omega]
  exact Tl.iteT (by omega) (Tl.iteT (by omega) h3)
theorem markIntS_ev (l : List Int) (m : Int) (h0 : 0 ≤ m) (h1 : m ≤ 10000000) (hl : l.length ≤ 1048576) : ∃ l', Marked l' m l.length ∧ Tl (fun k => laws_markIntS.f k l m) (m + l.length, l') := by
 obtain ⟨l', h2, h3⟩ := markIntS_at l.length 0 l m (by omega) h0 (by omega) (fun i hi => by omega)
 rw [show m + ((0 : Nat) : Int) = m by omega] at h3
 exact ⟨l', h2, h3⟩
theorem heldIntS_ev {l : List Int} {m : Int} {n : Nat} (h : Marked l m n) (h0 : 0 ≤ m) (h1 : m ≤ 10000000) (hl : n ≤ 1048576) : Tl (fun k => laws_heldIntS.f k l m) (m + n) := by
 unfold laws_heldIntS.f
 have he := h.len
 have key := down (Q := fun j => Tl (fun k => laws_heldIntS.l0 k l (m + j) (j : Int)) (m + n)) n ?_ ?_
 ·rw [show m + ((0 : Nat) : Int) = m by omega] at key; exact key
 ·refine Tl.step ?_
  simp only [laws_heldIntS.l0]
  exact Tl.iteF (by omega) (Tl.ret _)
 ·intro j hj hh
  refine Tl.step ?_
  have ha : rd l (j : Int) = m + j := h.at_ j hj
  simp only [laws_heldIntS.l0, ha]
  rw [wrap_id (n := m + (j : Int) + 1) (by omega) (by omega), wrap_succ hj (by omega), show m + (j : Int) + 1 = m + ((j + 1 : Nat) : Int) by omega]
  exact Tl.iteT (by omega) (Tl.iteT (by omega) (Tl.iteT (by trivial) hh))
set_option maxHeartbeats 1000000 in
theorem FnExactAssignPriorities_pure : PureFnExactAssignPriorities := by
 intro x0 w0
 apply Tl.once
 unfold laws_FnExactAssignPriorities.f
 refine Tl.bind (Tl.of_eq fun _ => szTaskS_f x0 _ (by omega) (by omega) w0.1) ?_
 by_cases g0 : (1048576 : Int) < x0.length
 ·rw [if_pos g0]; exact Tl.iteT (by omega) (Tl.ret _)
 rw [if_neg g0]
 refine Tl.iteF (by omega) ?_
 have hl0 : x0.length ≤ 1048576 := by omega
 have hm0 : (x0.map cvTask).length ≤ 1048576 := by simpa using hl0
 have HS := spec_AssignPriorities_ev (x0.map cvTask) hm0
 have HI := impl_AssignPriorities_ev (x0.map cvTask) hm0
 have hd := aud_len (x0.map cvTask)
 obtain ⟨D, b, hD⟩ : ∃ D b, aud (x0.map cvTask) = (D, b) := ⟨_, _, rfl⟩
 rw [hD] at HS HI hd
 change D.length ≤ 5 at hd
 have HE := eqIntS_ev D (by omega)
 obtain ⟨t1, m1⟩ := markTaskS_ev (x0.map cvTask) 1 (by omega) (by omega) hm0
 obtain ⟨t3, mk, m3⟩ := markIntS_ev D 1 (by omega) (by omega) (by omega)
 have m4 := heldIntS_ev mk (by omega) (by omega) (by omega)
 have hbb : (b != b) = false := by simp
 repeat (first
  | exact Tl.ret _
  | with_reducible refine Tl.bind (toTaskS_ev x0 hl0) ?_
  | with_reducible refine Tl.bind (eqTaskS_ev (x0.map cvTask) hm0) ?_
  | dsimp only
  | with_reducible refine Tl.bind HE ?_
  | with_reducible refine Tl.bind m1 ?_
  | with_reducible refine Tl.bind m3 ?_
  | with_reducible refine Tl.bind m4 ?_
  | with_reducible refine Tl.iteF (by omega) ?_
  | with_reducible refine Tl.iteT rfl ?_
  | (with_reducible refine Tl.step (g := fun k => laws_FnExactAssignPriorities.j0 k _ _ _ _ _ _ _) ?_; rw [hbb]; simp only [laws_FnExactAssignPriorities.j0])
  | (with_reducible refine Tl.step (g := fun k => laws_FnExactAssignPriorities.j1 k _ _ _ _ _) ?_; rw [hbb]; simp only [laws_FnExactAssignPriorities.j1])
  | (with_reducible refine Tl.step (g := fun k => laws_FnExactAssignPriorities.j2 k _ _ _) ?_; rw [hbb]; simp only [laws_FnExactAssignPriorities.j2])
  | with_reducible refine Tl.bind HS ?_
  | with_reducible refine Tl.bind HI ?_
  | with_reducible refine Tl.iteT rfl ?_
  | with_reducible refine Tl.iteF (by simp) ?_
  | dsimp only)
end Go.Proofs.Ytappbijjpcaocaa.Print
