/- What the program and the reference compute, and that both agree. No condition. -/
import Derived.Test.YtappbijjpcaocaaPO
import Derived.Test.YtappbijjpcaocaaZFnExactWorstChoicesP2
import Derived.RowKit
import Derived.WalkKit
import Derived.Test.YtappbijjpcaocaaZFnExactWorstChoicesP1
import Derived.Test.YtappbijjpcaocaaZFnExactWorstChoicesP0
import Derived.Test.YtappbijjpcaocaaPImplLworst
import Derived.Test.YtappbijjpcaocaaPSpecLl8Worst
namespace Go.Proofs.Ytappbijjpcaocaa.Print
open Go.RowKit Go.Proofs.YtappbijjpcaocaaW.PrintWords Go.Proofs.YtappbijjpcaocaaW.PrintLast Go.Proofs.YtappbijjpcaocaaW.PrintMore
attribute [local go_sem] max2_int min2_int max_two min_two max_three min_three max_four min_four   -- for this text's walks alone
set_option linter.unusedVariables false
set_option linter.unusedSimpArgs false

open Go.Proofs.Ytappbijjpcaocaa.Opens
/-- The pure statement of FnExactWorstChoices. -/
def PureFnExactWorstChoices : Prop := ∀ (x0 : List (S63)), (wfL wf63) x0 → ∃ k, laws_FnExactWorstChoices.f k x0 = some true
end Go.Proofs.Ytappbijjpcaocaa.Print

namespace Go.Proofs.Ytappbijjpcaocaa.Evs
open Go.RowKit
set_option linter.unusedSimpArgs false
set_option linter.unusedVariables false

/-- From some number of rounds on, g tells r. -/
def Tl {α : Type} (g : Nat → Option α) (r : α) : Prop := ∃ k0, ∀ k, k0 ≤ k → g k = some r

theorem Tl.ret {α : Type} (r : α) : Tl (fun _ => some r) r := ⟨0, fun _ _ => rfl⟩
theorem Tl.of_eq {α : Type} {g : Nat → Option α} {r : α} (h : ∀ k, g k = some r) : Tl g r := ⟨0, fun k _ => h k⟩
theorem Tl.step {α : Type} {g : Nat → Option α} {r : α} (h : Tl (fun k => g (k + 1)) r) : Tl g r := by
  obtain ⟨k0, hk⟩ := h
  refine ⟨k0 + 1, fun k hle => ?_⟩
  obtain ⟨m, rfl⟩ : ∃ m, k = m + 1 := ⟨k - 1, by omega⟩
  exact hk m (by omega)
theorem Tl.bind {α β : Type} {g : Nat → Option α} {a : α} {f : α → Nat → Option β} {r : β} (h : Tl g a) (h2 : Tl (f a) r) : Tl (fun k => (g k).bind fun x => f x k) r := by
  obtain ⟨k0, hk⟩ := h
  obtain ⟨k1, hk1⟩ := h2
  refine ⟨max k0 k1, fun k hle => ?_⟩
  show (g k).bind (fun x => f x k) = some r
  rw [hk k (by omega), Option.bind_some]
  exact hk1 k (by omega)
theorem Tl.once {α : Type} {g : Nat → Option α} {r : α} (h : Tl g r) : ∃ k, g k = some r := by
  obtain ⟨k0, hk⟩ := h
  exact ⟨k0, hk k0 (Nat.le_refl _)⟩
theorem Tl.cast {α : Type} {g : Nat → Option α} {r r' : α} (h : Tl g r) (e : r = r') : Tl g r' := e ▸ h
theorem Tl.iteT {α : Type} {c : Prop} [Decidable c] {g g' : Nat → Option α} {r : α} (hc : c) (h : Tl g r) : Tl (fun k => if c then g k else g' k) r := by simpa only [if_pos hc] using h
theorem Tl.iteF {α : Type} {c : Prop} [Decidable c] {g g' : Nat → Option α} {r : α} (hc : ¬ c) (h : Tl g' r) : Tl (fun k => if c then g k else g' k) r := by simpa only [if_neg hc] using h

/-- Downwards. -/
theorem down {Q : Nat → Prop} (n : Nat) (he : Q n) (hs : ∀ j, j < n → Q (j + 1) → Q j) : Q 0 := by
  induction n with
  | zero => exact he
  | succ n ih => exact ih (hs n (by omega) he) (fun j hj => hs j (by omega))
theorem downFrom {Q : Nat → Prop} {m n : Nat} (hm : m ≤ n) (he : Q n) (hs : ∀ j, m ≤ j → j < n → Q (j + 1) → Q j) : Q m := by
  obtain ⟨d, rfl⟩ : ∃ d, n = m + d := ⟨n - m, by omega⟩
  induction d with
  | zero => exact he
  | succ d ih => exact ih (by omega) (hs (m + d) (by omega) (by omega) he) (fun j h1 h2 => hs j h1 (by omega))

/-- A loop that asks something of each index, and stops at the first 'no'. -/
theorem Tl.all {F : Nat → Int → Option Bool} {n : Nat} {P : Nat → Bool} {fin : Bool}
    (ht : ∀ j, j < n → P j = true → ∀ r, Tl (fun k => F k ((j + 1 : Nat) : Int)) r → Tl (fun k => F k (j : Int)) r)
    (hf : ∀ j, j < n → P j = false → Tl (fun k => F k (j : Int)) false) (he : Tl (fun k => F k (n : Int)) fin) :
    Tl (fun k => F k 0) ((List.range n).all P && fin) := by
  by_cases hall : ∀ j, j < n → P j = true
  · have h1 : ((List.range n).all P) = true := by simpa using hall
    rw [h1, Bool.true_and]
    exact down (Q := fun j => Tl (fun k => F k (j : Int)) fin) n he (fun j hj h => ht j hj (hall j hj) _ h)
  · have h1 : ((List.range n).all P) = false := by simpa using hall
    rw [h1, Bool.false_and]
    clear h1
    have key : ∀ m, m ≤ n → (∃ j, j < m ∧ P j = false) → Tl (fun k => F k 0) false := by
      intro m
      induction m with
      | zero => rintro _ ⟨j, hj, _⟩; omega
      | succ m ih =>
        rintro hm ⟨j, hj, hp⟩
        by_cases hlow : ∃ j, j < m ∧ P j = false
        · exact ih (by omega) hlow
        · have hjm : j = m := by
            rcases Nat.lt_or_ge j m with h | h
            · exact absurd ⟨j, h, hp⟩ hlow
            · omega
          subst hjm
          refine down (Q := fun j => Tl (fun k => F k (j : Int)) false) j (hf j (by omega) hp) (fun i hi h => ht i (by omega) ?_ _ h)
          cases hpi : P i
          · exact absurd ⟨i, hi, hpi⟩ hlow
          · rfl
    refine key n (Nat.le_refl _) ?_
    apply Classical.byContradiction
    intro hno
    refine hall (fun j hj => ?_)
    cases hp : P j
    · exact absurd ⟨j, hj, hp⟩ hno
    · rfl

theorem wrap_id {n : Int} (h1 : -9223372036854775808 ≤ n) (h2 : n ≤ 9223372036854775807) : wrap64 n = n := by unfold wrap64; omega
theorem wrap_succ {j n : Nat} (h : j < n) (hn : n ≤ 9223372036854775807) : wrap64 ((j : Int) + 1) = ((j + 1 : Nat) : Int) := by unfold wrap64; omega
theorem wrap_pred {j n : Nat} (h : j < n) (h0 : 0 < j) (hn : n ≤ 9223372036854775807) : wrap64 ((j : Int) - 1) = ((j - 1 : Nat) : Int) := by unfold wrap64; omega
end Go.Proofs.Ytappbijjpcaocaa.Evs

namespace Go.Proofs.Ytappbijjpcaocaa.Evs
theorem fill_zero {α : Type} (xs : List α) (z : α) : xs.take 0 ++ List.replicate (xs.length - 0) z = List.replicate xs.length z := by simp
theorem fill_set {α : Type} (xs : List α) (z : α) {j : Nat} (hj : j < xs.length) (x : α) (hx : x = xs.getD j z) :
    (xs.take j ++ List.replicate (xs.length - j) z).set j x = xs.take (j + 1) ++ List.replicate (xs.length - (j + 1)) z := by
  have h1 : (xs.take j).length = j := by simp; omega
  rw [List.set_append_right _ _ (by omega), h1, Nat.sub_self]
  obtain ⟨m, hm⟩ : ∃ m, xs.length - j = m + 1 := ⟨xs.length - j - 1, by omega⟩
  rw [hm, List.replicate_succ, List.set_cons_zero, List.take_succ_eq_append_getElem hj, List.append_assoc, hx]
  have h2 : xs.length - (j + 1) = m := by omega
  rw [h2]
  simp [List.getD_eq_getElem?_getD, hj]
theorem fill_len {α : Type} (xs : List α) (z : α) {j : Nat} (hj : j ≤ xs.length) : (xs.take j ++ List.replicate (xs.length - j) z).length = xs.length := by simp; omega
theorem fill_end {α : Type} (xs : List α) (z : α) : xs.take xs.length ++ List.replicate (xs.length - xs.length) z = xs := by simp
theorem getD_map {α β : Type} (f : α → β) (l : List α) (j : Nat) (z : α) (z' : β) (hj : j < l.length) : (l.map f).getD j z' = f (l.getD j z) := by simp [List.getD_eq_getElem?_getD, hj]
theorem all_range {α : Type} (l : List α) (z : α) (p : α → Bool) : (List.range l.length).all (fun j => p (l.getD j z)) = l.all p := by
  rw [Bool.eq_iff_iff, List.all_eq_true, List.all_eq_true]
  constructor
  · intro h x hx
    obtain ⟨i, hi, rfl⟩ := List.getElem_of_mem hx
    have := h i (by simpa using hi)
    simpa [List.getD_eq_getElem?_getD, hi] using this
  · intro h j hj
    have hj' : j < l.length := by simpa using hj
    have := h l[j] (List.getElem_mem hj')
    simpa [List.getD_eq_getElem?_getD, hj'] using this
end Go.Proofs.Ytappbijjpcaocaa.Evs

namespace Go.Proofs.Ytappbijjpcaocaa.Print
open Go.RowKit Go.Proofs.YtappbijjpcaocaaW.PrintWords Go.Proofs.Ytappbijjpcaocaa.Evs Go.Proofs.Ytappbijjpcaocaa.Opens
set_option linter.unusedSimpArgs false
abbrev LNode := S63
abbrev Node := S60
def cvNode (x : LNode) : Node := ⟨x.f0, x.f1, x.f2, x.f3, x.f4⟩
theorem toNodeS_ev (l : List LNode) (hl : l.length ≤ 1048576) : Tl (fun k => laws_toNodeS.f k l) (l.map cvNode) := by
  unfold laws_toNodeS.f
  have c1 := eq_true (show 0 ≤ (l.length : Int) by omega)
  have c2 := eq_true (show l.length ≤ 7036874417766 by omega)
  simp only [c1, c2, if_true, Int.toNat_natCast]
  have hlen : (l.map cvNode).length = l.length := by simp
  have key := down (Q := fun j => Tl (fun k => laws_toNodeS.l0 k l ((l.map cvNode).take j ++ List.replicate ((l.map cvNode).length - j) z60) (j : Int)) (l.map cvNode)) l.length ?_ ?_
  · rw [fill_zero, hlen] at key; exact key
  · refine Tl.step ?_
    have c3 := eq_false (show ¬ ((l.length : Int) < (l.length : Int)) by omega)
    rw [← hlen, fill_end]
    simp only [hlen]
    simp only [laws_toNodeS.l0, c3, if_false]
    exact Tl.ret _
  · intro j hj h
    refine Tl.step ?_
    have c3 := eq_true (show (j : Int) < (l.length : Int) by omega)
    have c4 := eq_true (show 0 ≤ (j : Int) by omega)
    have c5 := eq_true (show (j : Int) < (((l.map cvNode).take j ++ List.replicate ((l.map cvNode).length - j) z60).length : Int) by rw [fill_len _ _ (by omega)]; omega)
    simp only [laws_toNodeS.l0, c3, c4, c5, if_true, laws_toNode.f, Option.bind_some, Int.toNat_natCast]
    rw [fill_set _ _ (by omega) _ (by rw [getD_map cvNode l j z63 _ hj]; rfl), wrap_succ hj (by omega)]
    exact h
theorem eqNode_self (x : Node) : laws_eqNode.f x.f0 x.f1 x.f2 x.f3 x.f4 x.f0 x.f1 x.f2 x.f3 x.f4 = some true := by simp [laws_eqNode.f]
theorem eqNodeS_ev (l : List Node) (hl : l.length ≤ 1048576) : Tl (fun k => laws_eqNodeS.f k l l) true := by
  unfold laws_eqNodeS.f
  simp only [if_true]
  refine down (Q := fun j => Tl (fun k => laws_eqNodeS.l0 k l l (j : Int)) true) l.length ?_ ?_
  · refine Tl.step ?_
    have c3 := eq_false (show ¬ ((l.length : Int) < (l.length : Int)) by omega)
    simp only [laws_eqNodeS.l0, c3, if_false]
    exact Tl.ret _
  · intro j hj h
    refine Tl.step ?_
    have c3 := eq_true (show (j : Int) < (l.length : Int) by omega)
    have c4 := eq_true (show 0 ≤ (j : Int) by omega)
    simp only [laws_eqNodeS.l0, c3, c4, if_true, eqNode_self, Option.bind_some]
    rw [wrap_succ hj (by omega)]
    exact h
theorem szNodeS_f (l : List LNode) (a : Int) (h0 : 0 ≤ a) (h1 : a ≤ 1048576) (hl : l.length ≤ 9223372036854775807) : laws_szNodeS.f l a = some (if a < l.length then -1 else a - l.length) := by
  unfold laws_szNodeS.f
  rw [wrap_id (by omega) (by omega)]
  by_cases h : a < l.length
  · rw [if_pos (by omega), if_pos h]
  · rw [if_neg (by omega), if_neg h]
end Go.Proofs.Ytappbijjpcaocaa.Print

namespace Go.Proofs.Ytappbijjpcaocaa.Print
open Go.RowKit Go.Proofs.YtappbijjpcaocaaW.PrintWords Go.Proofs.Ytappbijjpcaocaa.Evs Go.Proofs.Ytappbijjpcaocaa.Opens
set_option linter.unusedSimpArgs false
set_option linter.unusedVariables false
def nd (l : List Node) (j : Nat) : Node := l.getD j z60
/-- A valid node at a place. -/
def okNode (n : Node) (i : Int) : Bool :=
  if n.f0 = 1 then decide (1 ≤ n.f1 ∧ n.f1 ≤ 9 ∧ n.f2 = 0 ∧ n.f3 = 0 ∧ n.f4 = 0)
  else if n.f0 = 2 then decide (n.f1 = 0 ∧ 0 ≤ n.f2 ∧ n.f2 < i ∧ 0 ≤ n.f3 ∧ n.f3 < i ∧ n.f4 = 0)
  else if n.f0 = 3 then decide (1 ≤ n.f1 ∧ n.f1 ≤ 9 ∧ 0 ≤ n.f2 ∧ n.f2 < i ∧ 0 ≤ n.f3 ∧ n.f3 < i ∧ n.f4 = 0)
  else if n.f0 = 4 then decide (1 ≤ n.f1 ∧ n.f1 ≤ 9 ∧ 0 ≤ n.f2 ∧ n.f2 < i ∧ n.f3 = 0 ∧ 0 ≤ n.f4 ∧ n.f4 ≤ 4)
  else false
/-- What a valid node is. -/
inductive NodeIs (n : Node) (i : Int) : Prop
  | block (k : n.f0 = 1) (c0 : 1 ≤ n.f1) (c1 : n.f1 ≤ 9)
  | seq (k : n.f0 = 2) (c : n.f1 = 0) (a0 : 0 ≤ n.f2) (a1 : n.f2 < i) (b0 : 0 ≤ n.f3) (b1 : n.f3 < i)
  | branch (k : n.f0 = 3) (c0 : 1 ≤ n.f1) (c1 : n.f1 ≤ 9) (a0 : 0 ≤ n.f2) (a1 : n.f2 < i) (b0 : 0 ≤ n.f3) (b1 : n.f3 < i)
  | loop (k : n.f0 = 4) (c0 : 1 ≤ n.f1) (c1 : n.f1 ≤ 9) (a0 : 0 ≤ n.f2) (a1 : n.f2 < i) (m0 : 0 ≤ n.f4) (m1 : n.f4 ≤ 4)
theorem okNode_is {n : Node} {i : Int} (h : okNode n i = true) : NodeIs n i := by
  unfold okNode at h
  split at h
  · rw [decide_eq_true_eq] at h; exact .block (by assumption) h.1 h.2.1
  · split at h
    · rw [decide_eq_true_eq] at h; exact .seq (by assumption) h.1 h.2.1 h.2.2.1 h.2.2.2.1 h.2.2.2.2.1
    · split at h
      · rw [decide_eq_true_eq] at h; exact .branch (by assumption) h.1 h.2.1 h.2.2.1 h.2.2.2.1 h.2.2.2.2.1 h.2.2.2.2.2.1
      · split at h
        · rw [decide_eq_true_eq] at h; exact .loop (by assumption) h.1 h.2.1 h.2.2.1 h.2.2.2.1 h.2.2.2.2.2.1 h.2.2.2.2.2.2
        · cases h
/-- The worst and the best time of a node, the times of the nodes ahead of it given. -/
def wv (b : Bool) (n : Node) (o : List Int) : Int :=
  if n.f0 = 1 then n.f1
  else if n.f0 = 2 then o.getD n.f2.toNat 0 + o.getD n.f3.toNat 0
  else if n.f0 = 3 then (if b = true then n.f1 + max (o.getD n.f2.toNat 0) (o.getD n.f3.toNat 0) else n.f1 + min (o.getD n.f2.toNat 0) (o.getD n.f3.toNat 0))
  else if n.f0 = 4 then (if b = true then n.f1 + n.f4 * (n.f1 + o.getD n.f2.toNat 0) else n.f1)
  else 0
def wl (b : Bool) (l : List Node) : Nat → List Int
  | 0 => []
  | i + 1 => wl b l i ++ [wv b (nd l i) (wl b l i)]
theorem wl_succ (b : Bool) (l : List Node) (i : Nat) : wl b l (i + 1) = wl b l i ++ [wv b (nd l i) (wl b l i)] := rfl
theorem wl_len (b : Bool) (l : List Node) : ∀ i, (wl b l i).length = i
  | 0 => rfl
  | i + 1 => by unfold wl; rw [List.length_append, wl_len b l i]; rfl
theorem getD_app1 {α : Type} (a b : List α) (j : Nat) (z : α) (h : j < a.length) : (a ++ b).getD j z = a.getD j z := by
  simp [List.getD_eq_getElem?_getD, List.getElem?_append, h]
theorem getD_app2 {α : Type} (a : List α) (x z : α) : (a ++ [x]).getD a.length z = x := by
  simp [List.getD_eq_getElem?_getD, List.getElem?_append]
def Bd : Nat → Int
  | 0 => 0
  | i + 1 => 45 + 5 * Bd i
theorem Bd_nn : ∀ i, 0 ≤ Bd i
  | 0 => Int.le_refl _
  | i + 1 => by have := Bd_nn i; unfold Bd; omega
theorem Bd_mono : ∀ i d, Bd i ≤ Bd (i + d)
  | i, 0 => Int.le_refl _
  | i, d + 1 => by have h1 := Bd_mono i d; have h2 := Bd_nn (i + d); show Bd i ≤ 45 + 5 * Bd (i + d); omega
theorem Bd_le {i : Nat} (h : i ≤ 12) : Bd i ≤ 3000000000 := by
  have h1 := Bd_mono i (12 - i)
  rw [show i + (12 - i) = 12 by omega] at h1
  have h2 : Bd 12 = 2746582020 := by decide
  omega
/-- All nodes up to a place are valid. -/
def okUp (l : List Node) (i : Nat) : Prop := ∀ j, j < i → okNode (nd l j) (j : Int) = true
theorem wv_in {b : Bool} {n : Node} {i : Nat} {o : List Int} {M : Int} (hn : NodeIs n i) (h0 : 0 ≤ M) (ho : ∀ j, j < i → 0 ≤ o.getD j 0 ∧ o.getD j 0 ≤ M) : 0 ≤ wv b n o ∧ wv b n o ≤ 45 + 5 * M := by
  unfold wv
  cases hn with
  | block k c0 c1 => rw [if_pos k]; omega
  | seq k c a0 a1 b0 b1 =>
    have h1 := ho n.f2.toNat (by omega)
    have h2 := ho n.f3.toNat (by omega)
    rw [if_neg (by omega), if_pos k]; omega
  | branch k c0 c1 a0 a1 b0 b1 =>
    have h1 := ho n.f2.toNat (by omega)
    have h2 := ho n.f3.toNat (by omega)
    rw [if_neg (by omega), if_neg (by omega), if_pos k]
    split <;> omega
  | loop k c0 c1 a0 a1 m0 m1 =>
    have h1 := ho n.f2.toNat (by omega)
    rw [if_neg (by omega), if_neg (by omega), if_neg (by omega), if_pos k]
    have h3 : 0 ≤ n.f4 * (n.f1 + o.getD n.f2.toNat 0) := Int.mul_nonneg m0 (by omega)
    have h4 : n.f4 * (n.f1 + o.getD n.f2.toNat 0) ≤ 4 * (n.f1 + o.getD n.f2.toNat 0) := Int.mul_le_mul_of_nonneg_right m1 (by omega)
    split <;> omega
theorem wl_at (b : Bool) (l : List Node) : ∀ (i j : Nat), j < i → (wl b l i).getD j 0 = wv b (nd l j) (wl b l j)
  | 0, j, h => by omega
  | i + 1, j, h => by
    rw [wl_succ]
    by_cases hc : j = i
    · subst hc
      have := getD_app2 (wl b l j) (wv b (nd l j) (wl b l j)) 0
      rw [wl_len] at this
      exact this
    · rw [getD_app1 _ _ _ _ (by rw [wl_len]; omega)]
      exact wl_at b l i j (by omega)
theorem wl_in {b : Bool} {l : List Node} : ∀ (i : Nat), okUp l i → ∀ j, j < i → 0 ≤ (wl b l i).getD j 0 ∧ (wl b l i).getD j 0 ≤ Bd i
  | 0, _, j, h => by omega
  | i + 1, hu, j, h => by
    have hu' : okUp l i := fun j hj => hu j (by omega)
    have hm := Bd_mono i 1
    have hnn := Bd_nn i
    by_cases hc : j = i
    · subst hc
      rw [wl_at b l (j + 1) j (by omega)]
      exact wv_in (okNode_is (hu j (by omega))) hnn (wl_in j hu')
    · have h1 := wl_in (b := b) i hu' j (by omega)
      rw [wl_at b l (i + 1) j (by omega), ← wl_at b l i j (by omega)]
      omega
/-- Cut off at 601. -/
def cut (x : Int) : Int := min x 601
theorem getD_cut (o : List Int) (j : Nat) : (o.map cut).getD j 0 = cut (o.getD j 0) := by
  simp only [List.getD_eq_getElem?_getD, List.getElem?_map]
  cases o[j]? <;> rfl
theorem cut_wv {b : Bool} {n : Node} {i : Nat} {o : List Int} (hn : NodeIs n i) (ho : ∀ j, j < i → 0 ≤ o.getD j 0) : cut (wv b n (o.map cut)) = cut (wv b n o) := by
  unfold wv
  simp only [getD_cut]
  cases hn with
  | block k c0 c1 => simp only [if_pos k]
  | seq k c a0 a1 b0 b1 =>
    have h1 := ho n.f2.toNat (by omega)
    have h2 := ho n.f3.toNat (by omega)
    have e1 : ¬ n.f0 = 1 := by omega
    simp only [if_neg e1, if_pos k]
    unfold cut; omega
  | branch k c0 c1 a0 a1 b0 b1 =>
    have h1 := ho n.f2.toNat (by omega)
    have h2 := ho n.f3.toNat (by omega)
    have e1 : ¬ n.f0 = 1 := by omega
    have e2 : ¬ n.f0 = 2 := by omega
    simp only [if_neg e1, if_neg e2, if_pos k]
    unfold cut
    cases b <;> simp only [Bool.false_eq_true, if_false, if_true] <;> omega
  | loop k c0 c1 a0 a1 m0 m1 =>
    have h1 := ho n.f2.toNat (by omega)
    have e1 : ¬ n.f0 = 1 := by omega
    have e2 : ¬ n.f0 = 2 := by omega
    have e3 : ¬ n.f0 = 3 := by omega
    simp only [if_neg e1, if_neg e2, if_neg e3, if_pos k]
    cases b
    · rfl
    · simp only [if_true]
      generalize o.getD n.f2.toNat 0 = x at h1 ⊢
      have hm : n.f4 = 0 ∨ n.f4 = 1 ∨ n.f4 = 2 ∨ n.f4 = 3 ∨ n.f4 = 4 := by omega
      unfold cut
      rcases hm with h | h | h | h | h <;> rw [h] <;> omega
theorem best_le {l : List Node} : ∀ (i : Nat), okUp l i → ∀ j, j < i → (wl false l i).getD j 0 ≤ (wl true l i).getD j 0
  | 0, _, j, h => by omega
  | i + 1, hu, j, h => by
    have hu' : okUp l i := fun j hj => hu j (by omega)
    rw [wl_at false l (i + 1) j (by omega), wl_at true l (i + 1) j (by omega)]
    by_cases hc : j = i
    · subst hc
      have hb := best_le j hu'
      have hw := wl_in (b := true) j hu'
      unfold wv
      cases okNode_is (hu j (by omega)) with
      | block k c0 c1 => rw [if_pos k, if_pos k]; exact Int.le_refl _
      | seq k c a0 a1 b0 b1 =>
        have h1 := hb (nd l j).f2.toNat (by omega)
        have h2 := hb (nd l j).f3.toNat (by omega)
        have e1 : ¬ (nd l j).f0 = 1 := by omega
        simp only [if_neg e1, if_pos k]; omega
      | branch k c0 c1 a0 a1 b0 b1 =>
        have h1 := hb (nd l j).f2.toNat (by omega)
        have h2 := hb (nd l j).f3.toNat (by omega)
        have e1 : ¬ (nd l j).f0 = 1 := by omega
        have e2 : ¬ (nd l j).f0 = 2 := by omega
        simp only [if_neg e1, if_neg e2, if_pos k]
        simp only [Bool.false_eq_true, if_false, if_true]
        omega
      | loop k c0 c1 a0 a1 m0 m1 =>
        have h1 := hw (nd l j).f2.toNat (by omega)
        have e1 : ¬ (nd l j).f0 = 1 := by omega
        have e2 : ¬ (nd l j).f0 = 2 := by omega
        have e3 : ¬ (nd l j).f0 = 3 := by omega
        simp only [if_neg e1, if_neg e2, if_neg e3, if_pos k]
        simp only [Bool.false_eq_true, if_false, if_true]
        have h3 : 0 ≤ (nd l j).f4 * ((nd l j).f1 + (wl true l j).getD (nd l j).f2.toNat 0) := Int.mul_nonneg m0 (by omega)
        omega
    · rw [← wl_at false l i j (by omega), ← wl_at true l i j (by omega)]
      exact best_le i hu' j (by omega)
/-- A valid program, and its times. -/
def okProg (l : List Node) : Bool := decide (1 ≤ l.length ∧ l.length ≤ 12) && ((List.range l.length).all (fun j => okNode (nd l j) (j : Int)) && decide ((wl true l l.length).getD (l.length - 1) 0 ≤ 600))
def timeOf (b : Bool) (l : List Node) : Int := if okProg l = true then (wl b l l.length).getD (l.length - 1) 0 else -1
end Go.Proofs.Ytappbijjpcaocaa.Print

namespace Go.Proofs.Ytappbijjpcaocaa.Evs
/-- As Tl.all; the end is reached only if all say yes. -/
theorem Tl.all' {F : Nat → Int → Option Bool} {n : Nat} {P : Nat → Bool} {fin : Bool}
    (ht : ∀ j, j < n → P j = true → ∀ r, Tl (fun k => F k ((j + 1 : Nat) : Int)) r → Tl (fun k => F k (j : Int)) r)
    (hf : ∀ j, j < n → P j = false → Tl (fun k => F k (j : Int)) false) (he : (∀ j, j < n → P j = true) → Tl (fun k => F k (n : Int)) fin) :
    Tl (fun k => F k 0) ((List.range n).all P && fin) := by
  by_cases hall : ∀ j, j < n → P j = true
  · exact Tl.all ht hf (he hall)
  · have h1 : ((List.range n).all P) = false := by simpa using hall
    rw [h1, Bool.false_and]
    have h0 : ∃ j, j < n ∧ P j = false := by
      apply Classical.byContradiction
      intro hno
      refine hall (fun j hj => ?_)
      cases hp : P j
      · exact absurd ⟨j, hj, hp⟩ hno
      · rfl
    obtain ⟨j0, hj0, hp0⟩ := h0
    have h2 : ∃ m, m < n ∧ P m = false ∧ ∀ i, i < m → P i = true := by
      induction j0 using Nat.strongRecOn with
      | _ j0 ih =>
        by_cases hlow : ∃ i, i < j0 ∧ P i = false
        · obtain ⟨i, hi, hpi⟩ := hlow
          exact ih i hi (by omega) hpi
        · refine ⟨j0, hj0, hp0, fun i hi => ?_⟩
          cases hq : P i
          · exact absurd ⟨i, hi, hq⟩ hlow
          · rfl
    obtain ⟨m, hm, hpm, hlow⟩ := h2
    exact down (Q := fun j => Tl (fun k => F k (j : Int)) false) m (hf m hm hpm) (fun j hj h => ht j (by omega) (hlow j hj) _ h)
end Go.Proofs.Ytappbijjpcaocaa.Evs

namespace Go.Proofs.Ytappbijjpcaocaa.Print
open Go.RowKit Go.Proofs.YtappbijjpcaocaaW.PrintWords Go.Proofs.YtappbijjpcaocaaW.PrintMore Go.Proofs.Ytappbijjpcaocaa.Evs Go.Proofs.Ytappbijjpcaocaa.Opens
set_option linter.unusedSimpArgs false
set_option linter.unusedVariables false
theorem spec_in_n (a b c : Int) : spec_l1In.f a b c = some (decide (b ≤ a ∧ a ≤ c)) := by
  unfold spec_l1In.f
  by_cases h : a ≥ b
  · have h' : b ≤ a := h
    simp [h, h']
  · have h' : ¬ b ≤ a := h
    simp [h, h']
theorem impl_in_n (a b c : Int) : impl_in.f a b c = some (decide (b ≤ a ∧ a ≤ c)) := by
  unfold impl_in.f
  by_cases h : a ≥ b
  · have h' : b ≤ a := h
    simp [h, h']
  · have h' : ¬ b ≤ a := h
    simp [h, h']
theorem some_dec {a b : Bool} (h : a = true ↔ b = true) : some a = some b := by rw [Bool.eq_iff_iff.mpr h]
theorem spec_l8Node_f (n : Node) {j : Nat} (hj : j ≤ 12) : spec_l8Node.f n.f0 n.f1 n.f2 n.f3 n.f4 (j : Int) = some (okNode n (j : Int)) := by
  unfold spec_l8Node.f okNode
  simp only [spec_in_n, Option.bind_some, decide_eq_true_eq]
  rw [wrap_id (n := (j : Int) - 1) (by omega) (by omega)]
  by_cases k1 : n.f0 = 1
  · simp only [if_pos k1]
    (repeat' split) <;> (apply some_dec; simp only [beq_iff_eq, decide_eq_true_eq, Bool.false_eq_true, false_iff]; omega)
  · by_cases k2 : n.f0 = 2
    · simp only [if_neg k1, if_pos k2]
      (repeat' split) <;> (apply some_dec; simp only [beq_iff_eq, decide_eq_true_eq, Bool.false_eq_true, false_iff]; omega)
    · by_cases k3 : n.f0 = 3
      · simp only [if_neg k1, if_neg k2, if_pos k3]
        (repeat' split) <;> (apply some_dec; simp only [beq_iff_eq, decide_eq_true_eq, Bool.false_eq_true, false_iff]; omega)
      · by_cases k4 : n.f0 = 4
        · simp only [if_neg k1, if_neg k2, if_neg k3, if_pos k4]
          (repeat' split) <;> (apply some_dec; simp only [beq_iff_eq, decide_eq_true_eq, Bool.false_eq_true, false_iff]; omega)
        · simp only [if_neg k1, if_neg k2, if_neg k3, if_neg k4]
theorem impl_nodeValid_f (n : Node) {j : Nat} (hj : j ≤ 12) : impl_nodeValid.f n.f0 n.f1 n.f2 n.f3 n.f4 (j : Int) = some (okNode n (j : Int)) := by
  unfold impl_nodeValid.f okNode
  simp only [impl_in_n, Option.bind_some, decide_eq_true_eq]
  rw [wrap_id (n := (j : Int) - 1) (by omega) (by omega)]
  by_cases k1 : n.f0 = 1
  · simp only [if_pos k1]
    (repeat' split) <;> (apply some_dec; simp only [Bool.and_eq_true, beq_iff_eq, decide_eq_true_eq, Bool.false_eq_true, false_iff]; omega)
  · by_cases k2 : n.f0 = 2
    · simp only [if_neg k1, if_pos k2]
      (repeat' split) <;> (apply some_dec; simp only [Bool.and_eq_true, beq_iff_eq, decide_eq_true_eq, Bool.false_eq_true, false_iff]; omega)
    · by_cases k3 : n.f0 = 3
      · simp only [if_neg k1, if_neg k2, if_pos k3]
        (repeat' split) <;> (apply some_dec; simp only [Bool.and_eq_true, beq_iff_eq, decide_eq_true_eq, Bool.false_eq_true, false_iff]; omega)
      · by_cases k4 : n.f0 = 4
        · simp only [if_neg k1, if_neg k2, if_neg k3, if_pos k4]
          (repeat' split) <;> (apply some_dec; simp only [Bool.and_eq_true, beq_iff_eq, decide_eq_true_eq, Bool.false_eq_true, false_iff]; omega)
        · simp only [if_neg k1, if_neg k2, if_neg k3, if_neg k4]
theorem app_set {A : List Int} {n j : Nat} (hA : A.length = j) (hj : j < n) (v : Int) : (A ++ List.replicate (n - j) 0).set j v = (A ++ [v]) ++ List.replicate (n - (j + 1)) 0 := by
  obtain ⟨m, hm⟩ : ∃ m, n - j = m + 1 := ⟨n - j - 1, by omega⟩
  rw [hm, show n - (j + 1) = m by omega, List.set_append_right _ _ (by omega), hA, Nat.sub_self, List.replicate_succ, List.set_cons_zero, List.append_assoc]
  rfl
theorem app_rd {A B : List Int} {x : Int} (h0 : 0 ≤ x) (h1 : x < (A.length : Int)) : rd (A ++ B) x = A.getD x.toNat 0 := getD_app1 A B x.toNat 0 (by omega)
theorem rd_nd (l : List Node) (j : Nat) : rd_T60 l (j : Int) = nd l j := rfl
theorem mx_max (a b : Int) : mx a b = max a b := by unfold mx; split <;> omega
theorem mn_min (a b : Int) : mn a b = min a b := by unfold mn; split <;> omega
theorem wl_bd {b : Bool} {l : List Node} {j : Nat} (hu : okUp l l.length) (hl : l.length ≤ 12) (hj : j ≤ l.length) : ∀ i, i < j → 0 ≤ (wl b l j).getD i 0 ∧ (wl b l j).getD i 0 ≤ 3000000000 := by
  intro i hi
  have h1 := wl_in (b := b) j (fun i hi => hu i (by omega)) i hi
  have h2 := Bd_le (show j ≤ 12 by omega)
  omega
theorem wv_block {b : Bool} {n : Node} {o : List Int} (k : n.f0 = 1) : wv b n o = n.f1 := if_pos k
theorem wv_seq {b : Bool} {n : Node} {o : List Int} (k : n.f0 = 2) : wv b n o = o.getD n.f2.toNat 0 + o.getD n.f3.toNat 0 := by
  unfold wv; rw [if_neg (by omega), if_pos k]
theorem wv_branch {n : Node} {o : List Int} (k : n.f0 = 3) : wv true n o = n.f1 + max (o.getD n.f2.toNat 0) (o.getD n.f3.toNat 0) := by
  unfold wv; rw [if_neg (by omega), if_neg (by omega), if_pos k]; rfl
theorem wv_branchB {n : Node} {o : List Int} (k : n.f0 = 3) : wv false n o = n.f1 + min (o.getD n.f2.toNat 0) (o.getD n.f3.toNat 0) := by
  unfold wv; rw [if_neg (by omega), if_neg (by omega), if_pos k]; rfl
theorem wv_loop {n : Node} {o : List Int} (k : n.f0 = 4) : wv true n o = n.f1 + n.f4 * (n.f1 + o.getD n.f2.toNat 0) := by
  unfold wv; rw [if_neg (by omega), if_neg (by omega), if_neg (by omega), if_pos k]; rfl
theorem wv_loopB {n : Node} {o : List Int} (k : n.f0 = 4) : wv false n o = n.f1 := by
  unfold wv; rw [if_neg (by omega), if_neg (by omega), if_neg (by omega), if_pos k]; rfl
theorem loop_bd {m c x : Int} (m0 : 0 ≤ m) (m1 : m ≤ 4) (c0 : 1 ≤ c) (c1 : c ≤ 9) (x0 : 0 ≤ x) (x1 : x ≤ 3000000000) : 0 ≤ m * (c + x) ∧ m * (c + x) ≤ 12000000036 := by
  refine ⟨Int.mul_nonneg m0 (by omega), ?_⟩
  have : m * (c + x) ≤ 4 * (c + x) := Int.mul_le_mul_of_nonneg_right m1 (by omega)
  omega
theorem impl_worst_ev (l : List Node) (hu : okUp l l.length) (hl : l.length ≤ 12) : Tl (fun k => impl_worst.f k l) (wl true l l.length) := by
  unfold impl_worst.f
  refine Tl.iteT (by omega) (Tl.iteT (by omega) ?_)
  simp only [Int.toNat_natCast]
  refine down (Q := fun j => Tl (fun k => impl_worst.l0 k (wl true l j ++ List.replicate (l.length - j) 0) l (l.length : Int) (j : Int)) (wl true l l.length)) l.length ?_ ?_
  · refine Tl.step ?_
    simp only [impl_worst.l0]
    refine Tl.iteF (by omega) ?_
    rw [Nat.sub_self, List.replicate_zero, List.append_nil]
    exact Tl.ret _
  · intro j hj hh
    have hb := wl_bd (b := true) hu hl (show j ≤ l.length by omega)
    have hA := wl_len true l j
    have hlen : (wl true l j ++ List.replicate (l.length - j) 0).length = l.length := by simp [hA]; omega
    have hn := okNode_is (hu j hj)
    rw [wl_succ] at hh
    refine Tl.step ?_
    simp only [impl_worst.l0, rd_nd, Int.toNat_natCast]
    generalize wl true l j = A at hb hA hlen hh ⊢
    rw [wrap_succ hj (by omega)]
    refine Tl.iteT (by omega) (Tl.iteT (by omega) (Tl.iteT (by omega) ?_))
    cases hn with
    | block k c0 c1 =>
      rw [wv_block k] at hh
      refine Tl.iteT k (Tl.iteT (by omega) ?_)
      rw [app_set hA hj]
      exact hh
    | seq k c a0 a1 b0 b1 =>
      have h1 := hb (nd l j).f2.toNat (by omega)
      have h2 := hb (nd l j).f3.toNat (by omega)
      rw [wv_seq k] at hh
      refine Tl.iteF (by omega) (Tl.iteT k (Tl.iteT a0 (Tl.iteT (by omega) (Tl.iteT b0 (Tl.iteT (by omega) (Tl.iteT (by omega) ?_))))))
      rw [app_set hA hj, app_rd a0 (by omega), app_rd b0 (by omega), wrap_id (by omega) (by omega)]
      exact hh
    | branch k c0 c1 a0 a1 b0 b1 =>
      have h1 := hb (nd l j).f2.toNat (by omega)
      have h2 := hb (nd l j).f3.toNat (by omega)
      rw [wv_branch k] at hh
      refine Tl.iteF (by omega) (Tl.iteF (by omega) (Tl.iteT k (Tl.iteT a0 (Tl.iteT (by omega) (Tl.iteT b0 (Tl.iteT (by omega) (Tl.iteT (by omega) ?_)))))))
      rw [app_set hA hj, app_rd a0 (by omega), app_rd b0 (by omega), mx_max, wrap_id (by omega) (by omega)]
      exact hh
    | loop k c0 c1 a0 a1 m0 m1 =>
      have h1 := hb (nd l j).f2.toNat (by omega)
      have h3 := loop_bd m0 m1 c0 c1 h1.1 h1.2
      rw [wv_loop k] at hh
      refine Tl.iteF (by omega) (Tl.iteF (by omega) (Tl.iteF (by omega) (Tl.iteT k (Tl.iteT a0 (Tl.iteT (by omega) (Tl.iteT (by omega) ?_))))))
      rw [app_set hA hj, app_rd a0 (by omega), wrap_id (n := (nd l j).f1 + A.getD (nd l j).f2.toNat 0) (by omega) (by omega), wrap_id (n := (nd l j).f4 * _) (by omega) (by omega), wrap_id (by omega) (by omega)]
      exact hh
theorem rd_cut {A : List Int} {x : Int} (h0 : 0 ≤ x) : rd (A.map cut) x = cut (A.getD x.toNat 0) := getD_cut A x.toNat
theorem cut_bd {x : Int} (h : 0 ≤ x) : 0 ≤ cut x ∧ cut x ≤ 601 := by unfold cut; omega
theorem cs_wv {n : Node} {i : Nat} {o : List Int} (hn : NodeIs n (i : Int)) (ho : ∀ j, j < i → 0 ≤ o.getD j 0) : csW n (o.map cut) = wv true n (o.map cut) := by
  have hb : ∀ j, j < i → 0 ≤ (o.map cut).getD j 0 ∧ (o.map cut).getD j 0 ≤ 601 := fun j hj => by rw [getD_cut]; exact cut_bd (ho j hj)
  generalize o.map cut = c at hb
  unfold csW
  cases hn with
  | block k c0 c1 => rw [if_neg (by omega), if_neg (by omega), if_neg (by omega), wv_block k]
  | seq k c a0 a1 b0 b1 =>
    have h1 := hb n.f2.toNat (by omega)
    have h2 := hb n.f3.toNat (by omega)
    rw [if_pos k, wv_seq k, wrap_id (by omega) (by omega)]
  | branch k c0 c1 a0 a1 b0 b1 =>
    have h1 := hb n.f2.toNat (by omega)
    have h2 := hb n.f3.toNat (by omega)
    rw [if_neg (by omega), if_pos k, wv_branch k, mx_max, wrap_id (by omega) (by omega)]
  | loop k c0 c1 a0 a1 m0 m1 =>
    have h1 := hb n.f2.toNat (by omega)
    have h3 := loop_bd m0 m1 c0 c1 h1.1 (by omega)
    rw [if_neg (by omega), if_neg (by omega), if_pos k, wv_loop k, wrap_id (n := n.f1 + c.getD n.f2.toNat 0) (by omega) (by omega), wrap_id (n := n.f4 * (n.f1 + c.getD n.f2.toNat 0)) (by omega) (by omega), wrap_id (by omega) (by omega)]
theorem cs_cut {l : List Node} (hu : okUp l l.length) (hl : l.length ≤ 12) : ∀ i, i ≤ l.length → csL l i = (wl true l i).map cut
  | 0, _ => rfl
  | i + 1, hi => by
    have ih := cs_cut hu hl i (by omega)
    have hn := okNode_is (hu i (by omega))
    have ho : ∀ j, j < i → 0 ≤ (wl true l i).getD j 0 := fun j hj => (wl_bd (b := true) hu hl (j := i) (by omega) j hj).1
    have e : csL l (i + 1) = csL l i ++ [mn (csW (nd l i) (csL l i)) 601] := rfl
    rw [e, ih, wl_succ, List.map_append, cs_wv hn ho, mn_min]
    show _ ++ [cut (wv true (nd l i) ((wl true l i).map cut))] = _
    rw [cut_wv hn ho]
    rfl
theorem spec_Costs_ev (_b : Bool) (l : List Node) (hu : okUp l l.length) (hl : l.length ≤ 12) : Tl (fun _ => spec_l8Costs.f l true) ((wl true l l.length).map cut) := by
  refine Tl.of_eq fun _ => ?_
  unfold spec_l8Costs.f
  have hk : csOk l = true := by
    unfold csOk
    rw [Bool.and_eq_true, List.all_eq_true]
    refine ⟨decide_eq_true hl, fun i hi => decide_eq_true ?_⟩
    have hn := hu i (List.mem_range.1 hi)
    have e : xnd l i = nd l i := rfl
    rw [e]
    generalize nd l i = n at hn
    unfold ndOk
    cases okNode_is hn with
    | block k c0 c1 => exact ⟨.inl k, fun g => by omega, fun g => by omega, fun g => by omega⟩
    | seq k c a0 a1 b0 b1 => exact ⟨.inr (.inl k), fun g => ⟨a0, a1, b0, b1⟩, fun g => by omega, fun g => by omega⟩
    | branch k c0 c1 a0 a1 b0 b1 => exact ⟨.inr (.inr (.inl k)), fun g => by omega, fun g => ⟨a0, a1, b0, b1⟩, fun g => by omega⟩
    | loop k c0 c1 a0 a1 m0 m1 => exact ⟨.inr (.inr (.inr k)), fun g => by omega, fun g => by omega, fun g => ⟨a0, a1, m0, m1⟩⟩
  rw [if_pos ⟨rfl, hk⟩, cs_cut hu hl l.length (Nat.le_refl _)]
theorem wrap_last {n : Nat} (h0 : 1 ≤ n) (h1 : n ≤ 12) : wrap64 ((n : Int) - 1) = ((n - 1 : Nat) : Int) := by rw [wrap_id (by omega) (by omega)]; omega
theorem okUp_all {l : List Node} (h : (List.range l.length).all (fun j => okNode (nd l j) (j : Int)) = true) : okUp l l.length := by
  intro j hj
  rw [List.all_eq_true] at h
  exact h j (by simpa using hj)
theorem rd_nat (o : List Int) (j : Nat) : rd o (j : Int) = o.getD j 0 := rfl
theorem impl_ProgramValid_ev (l : List Node) (hl0 : l.length ≤ 1048576) : Tl (fun k => impl_ProgramValid.f k l) (okProg l) := by
  unfold impl_ProgramValid.f okProg
  refine Tl.bind (Tl.of_eq fun _ => impl_in_n _ _ _) ?_
  by_cases hl : 1 ≤ l.length ∧ l.length ≤ 12
  · rw [decide_eq_true hl, Bool.true_and]
    refine Tl.iteT (by rw [decide_eq_true_eq]; omega) ?_
    refine Tl.all' (F := fun k i => impl_ProgramValid.l0 k l l (l.length : Int) i) ?_ ?_ ?_
    · intro j hj hp r hh
      refine Tl.step ?_
      simp only [impl_ProgramValid.l0, rd_nd, Int.toNat_natCast]
      rw [impl_nodeValid_f _ (show j ≤ 12 by omega), wrap_succ hj (by omega)]
      exact Tl.iteT (by omega) (Tl.iteT (by omega) (Tl.iteT (by omega) (Tl.iteT hp hh)))
    · intro j hj hp
      refine Tl.step ?_
      simp only [impl_ProgramValid.l0, rd_nd, Int.toNat_natCast]
      rw [impl_nodeValid_f _ (show j ≤ 12 by omega)]
      exact Tl.iteT (by omega) (Tl.iteT (by omega) (Tl.iteT (by omega) (Tl.iteF (by simp only [hp]; simp) (Tl.ret _))))
    · intro hu
      refine Tl.step ?_
      simp only [impl_ProgramValid.l0]
      have hw := wl_len true l l.length
      rw [wrap_last hl.1 hl.2]
      refine Tl.iteF (by omega) (Tl.bind (impl_worst_ev l hu hl.2) (Tl.iteT (by omega) (Tl.iteT (by omega) ?_)))
      rw [rd_nat]
      exact Tl.ret _
  · rw [decide_eq_false hl, Bool.false_and]
    exact Tl.iteF (by rw [decide_eq_true_eq]; omega) (Tl.ret _)
theorem cut_600 (x : Int) : (cut x ≤ 600) = (x ≤ 600) := by unfold cut; rw [eq_iff_iff]; omega
theorem spec_ProgramValid_ev (l : List Node) (hl0 : l.length ≤ 1048576) : Tl (fun k => spec_ProgramValid.f k l) (okProg l) := by
  unfold spec_ProgramValid.f okProg
  refine Tl.bind (Tl.of_eq fun _ => spec_in_n _ _ _) ?_
  by_cases hl : 1 ≤ l.length ∧ l.length ≤ 12
  · rw [decide_eq_true hl, Bool.true_and]
    refine Tl.iteT (by rw [decide_eq_true_eq]; omega) ?_
    refine Tl.all' (F := fun k i => spec_ProgramValid.l0 k l i) ?_ ?_ ?_
    · intro j hj hp r hh
      refine Tl.step ?_
      simp only [spec_ProgramValid.l0, rd_nd, Int.toNat_natCast]
      rw [spec_l8Node_f _ (show j ≤ 12 by omega), wrap_succ hj (by omega)]
      exact Tl.iteT (by omega) (Tl.iteT (by omega) (Tl.iteT hp hh))
    · intro j hj hp
      refine Tl.step ?_
      simp only [spec_ProgramValid.l0, rd_nd, Int.toNat_natCast]
      rw [spec_l8Node_f _ (show j ≤ 12 by omega)]
      exact Tl.iteT (by omega) (Tl.iteT (by omega) (Tl.iteF (by simp only [hp]; simp) (Tl.ret _)))
    · intro hu
      refine Tl.step ?_
      simp only [spec_ProgramValid.l0]
      have hw := wl_len true l l.length
      rw [wrap_last hl.1 hl.2]
      refine Tl.iteF (by omega) (Tl.bind (spec_Costs_ev true l hu hl.2) (Tl.iteT (by omega) (Tl.iteT (by rw [List.length_map]; omega) ?_)))
      rw [rd_nat, getD_cut]
      simp only [cut_600]
      exact Tl.ret _
  · rw [decide_eq_false hl, Bool.false_and]
    exact Tl.iteF (by rw [decide_eq_true_eq]; omega) (Tl.ret _)
theorem okProg_all {l : List Node} (h : okProg l = true) : (1 ≤ l.length ∧ l.length ≤ 12) ∧ okUp l l.length ∧ (wl true l l.length).getD (l.length - 1) 0 ≤ 600 := by
  unfold okProg at h
  rw [Bool.and_eq_true, Bool.and_eq_true, decide_eq_true_eq, decide_eq_true_eq] at h
  exact ⟨h.1, okUp_all h.2.1, h.2.2⟩

theorem okProg_run {l : List Node} (h : okProg l = true) : rnOk l = true := by
  obtain ⟨hl, hu, _⟩ := okProg_all h
  unfold rnOk
  rw [Bool.and_eq_true, List.all_eq_true]
  refine ⟨decide_eq_true hl, fun i hi => decide_eq_true ?_⟩
  have hn := hu i (List.mem_range.1 hi)
  have e : xnd l i = nd l i := rfl
  rw [e]
  generalize nd l i = n at hn
  unfold ndOk
  cases okNode_is hn with
  | block k c0 c1 => exact ⟨.inl k, fun g => by omega, fun g => by omega, fun g => by omega⟩
  | seq k c a0 a1 b0 b1 => exact ⟨.inr (.inl k), fun g => ⟨a0, a1, b0, b1⟩, fun g => by omega, fun g => by omega⟩
  | branch k c0 c1 a0 a1 b0 b1 => exact ⟨.inr (.inr (.inl k)), fun g => by omega, fun g => ⟨a0, a1, b0, b1⟩, fun g => by omega⟩
  | loop k c0 c1 a0 a1 m0 m1 => exact ⟨.inr (.inr (.inr k)), fun g => by omega, fun g => by omega, fun g => ⟨a0, a1, m0, m1⟩⟩
def repN : Nat → List Int → List Int
  | 0, _ => []
  | k + 1, l => repN k l ++ l
theorem repN_len (W : List Int) : ∀ k, ((repN k W).length : Int) = k * (W.length : Int)
  | 0 => by unfold repN; simp
  | k + 1 => by
    have ih := repN_len W k
    unfold repN
    rw [List.length_append, show (((k + 1 : Nat)) : Int) = (k : Int) + 1 by omega, Int.add_mul, Int.one_mul, ← ih]
    omega
/-- The choices of a worst run of a node. -/
def wsN (l : List Node) (T : List Int) : Nat → Nat → List Int
  | 0, _ => []
  | d + 1, i =>
    if (xnd l i).f0 = 2 then wsN l T d (xnd l i).f2.toNat ++ wsN l T d (xnd l i).f3.toNat
    else if (xnd l i).f0 = 3 then (if T.getD (xnd l i).f3.toNat 0 ≤ T.getD (xnd l i).f2.toNat 0 then 0 :: wsN l T d (xnd l i).f2.toNat else 1 :: wsN l T d (xnd l i).f3.toNat)
    else if (xnd l i).f0 = 4 then (xnd l i).f4 :: repN (xnd l i).f4.toNat (wsN l T d (xnd l i).f2.toNat)
    else []
theorem ws_at (l : List Node) (T : List Int) (d i : Nat) : wsN l T (d + 1) i = if (nd l i).f0 = 2 then wsN l T d (nd l i).f2.toNat ++ wsN l T d (nd l i).f3.toNat
    else if (nd l i).f0 = 3 then (if T.getD (nd l i).f3.toNat 0 ≤ T.getD (nd l i).f2.toNat 0 then 0 :: wsN l T d (nd l i).f2.toNat else 1 :: wsN l T d (nd l i).f3.toNat)
    else if (nd l i).f0 = 4 then (nd l i).f4 :: repN (nd l i).f4.toNat (wsN l T d (nd l i).f2.toNat)
    else [] := rfl
theorem ex_at (l : List Node) (T : List Int) (d i : Nat) (s : List Int) : exN l (wcP l T) (d + 1) i s = if (nd l i).f0 = 2 then (wrap64 ((exN l (wcP l T) d (nd l i).f2.toNat s).1 + (exN l (wcP l T) d (nd l i).f3.toNat (exN l (wcP l T) d (nd l i).f2.toNat s).2).1), (exN l (wcP l T) d (nd l i).f3.toNat (exN l (wcP l T) d (nd l i).f2.toNat s).2).2)
    else if (nd l i).f0 = 3 then (if (wcP l T s i 2).1 = 0 then (wrap64 ((nd l i).f1 + (exN l (wcP l T) d (nd l i).f2.toNat (wcP l T s i 2).2).1), (exN l (wcP l T) d (nd l i).f2.toNat (wcP l T s i 2).2).2) else (wrap64 ((nd l i).f1 + (exN l (wcP l T) d (nd l i).f3.toNat (wcP l T s i 2).2).1), (exN l (wcP l T) d (nd l i).f3.toNat (wcP l T s i 2).2).2))
    else if (nd l i).f0 = 4 then itN (fun x => (wrap64 (x.1 + wrap64 ((nd l i).f1 + (exN l (wcP l T) d (nd l i).f2.toNat x.2).1)), (exN l (wcP l T) d (nd l i).f2.toNat x.2).2)) (wcP l T s i ((nd l i).f4 + 1)).1.toNat ((nd l i).f1, (wcP l T s i ((nd l i).f4 + 1)).2)
    else ((nd l i).f1, s) := rfl
theorem wcP_at (l : List Node) (T s : List Int) (i : Nat) (m : Int) : wcP l T s i m = (if (nd l i).f0 = 3 ∧ T.getD (nd l i).f3.toNat 0 ≤ T.getD (nd l i).f2.toNat 0 then 0 else m - 1, s ++ [if (nd l i).f0 = 3 ∧ T.getD (nd l i).f3.toNat 0 ≤ T.getD (nd l i).f2.toNat 0 then 0 else m - 1]) := rfl
theorem it_ws (W : List Int) (F : Int × List Int → Int × List Int) (hF : ∀ x, (F x).2 = x.2 ++ W) (x0 : Int × List Int) : ∀ j, (itN F j x0).2 = x0.2 ++ repN j W
  | 0 => by unfold itN repN; simp
  | j + 1 => by
    show (F (itN F j x0)).2 = _
    rw [hF, it_ws W F hF x0 j, List.append_assoc]
    rfl
theorem ex_ws {l : List Node} (T : List Int) (hu : okUp l l.length) : ∀ (d i : Nat), i < l.length → ∀ s, (exN l (wcP l T) d i s).2 = s ++ wsN l T d i
  | 0, i, _, s => by show s = s ++ []; simp
  | d + 1, i, hi, s => by
    have hn := okNode_is (hu i hi)
    have ih := ex_ws T hu d
    rw [ex_at, ws_at, wcP_at, wcP_at]
    generalize nd l i = n at hn ⊢
    cases hn with
    | block k c0 c1 => rw [if_neg (by omega), if_neg (by omega), if_neg (by omega), if_neg (by omega), if_neg (by omega), if_neg (by omega)]; simp
    | seq k c a0 a1 b0 b1 =>
      rw [if_pos k, if_pos k]
      show (exN l (wcP l T) d n.f3.toNat (exN l (wcP l T) d n.f2.toNat s).2).2 = _
      rw [ih n.f3.toNat (by omega), ih n.f2.toNat (by omega), List.append_assoc]
    | branch k c0 c1 a0 a1 b0 b1 =>
      rw [if_neg (show ¬ n.f0 = 2 by omega), if_neg (show ¬ n.f0 = 2 by omega), if_pos k, if_pos k]
      by_cases c : T.getD n.f3.toNat 0 ≤ T.getD n.f2.toNat 0
      · rw [if_pos (show n.f0 = 3 ∧ T.getD n.f3.toNat 0 ≤ T.getD n.f2.toNat 0 from ⟨k, c⟩), if_pos c]
        show (exN l (wcP l T) d n.f2.toNat (s ++ [0])).2 = _
        rw [ih n.f2.toNat (by omega)]
        simp
      · rw [if_neg (show ¬ (n.f0 = 3 ∧ T.getD n.f3.toNat 0 ≤ T.getD n.f2.toNat 0) from fun g => c g.2), if_neg c]
        show (exN l (wcP l T) d n.f3.toNat (s ++ [2 - 1])).2 = _
        rw [ih n.f3.toNat (by omega)]
        simp
    | loop k c0 c1 a0 a1 m0 m1 =>
      rw [if_neg (show ¬ n.f0 = 2 by omega), if_neg (show ¬ n.f0 = 2 by omega), if_neg (show ¬ n.f0 = 3 by omega), if_neg (show ¬ n.f0 = 3 by omega), if_pos k, if_pos k, if_neg (show ¬ (n.f0 = 3 ∧ T.getD n.f3.toNat 0 ≤ T.getD n.f2.toNat 0) from fun g => by omega), show n.f4 + 1 - 1 = n.f4 by omega]
      have e := it_ws (wsN l T d n.f2.toNat) (fun x : Int × List Int => (wrap64 (x.1 + wrap64 (n.f1 + (exN l (wcP l T) d n.f2.toNat x.2).1)), (exN l (wcP l T) d n.f2.toNat x.2).2)) (fun x => ih n.f2.toNat (by omega) x.2) (n.f1, s ++ [n.f4]) n.f4.toNat
      refine e.trans ?_
      simp
/-- A child's worst time. -/
theorem wl_child {l : List Node} {i a : Nat} (hi : i < l.length) (ha : a < i) : (wl true l i).getD a 0 = (wl true l l.length).getD a 0 := (wl_at true l i a ha).trans (wl_at true l l.length a (by omega)).symm
theorem ws_len {l : List Node} (hu : okUp l l.length) (hl : l.length ≤ 12) : ∀ (d i : Nat), i < l.length → ((wsN l (wl true l l.length) d i).length : Int) ≤ (wl true l l.length).getD i 0
  | 0, i, hi => by have := (wl_bd (b := true) hu hl (Nat.le_refl _) i hi).1; show ((([] : List Int).length : Nat) : Int) ≤ _; simpa using this
  | d + 1, i, hi => by
    have hn := okNode_is (hu i hi)
    have ih := ws_len hu hl d
    have hT := wl_at true l l.length i hi
    have hb := fun a => wl_bd (b := true) (j := l.length) hu hl (Nat.le_refl _) a
    rw [hT, ws_at]
    have hc := fun a (ha : a < i) => wl_child hi ha
    generalize nd l i = n at hn ⊢
    cases hn with
    | block k c0 c1 => rw [if_neg (by omega), if_neg (by omega), if_neg (by omega), wv_block k]; simp; omega
    | seq k c a0 a1 b0 b1 =>
      rw [if_pos k, wv_seq k, hc _ (by omega), hc _ (by omega), List.length_append]
      have h1 := ih n.f2.toNat (by omega)
      have h2 := ih n.f3.toNat (by omega)
      omega
    | branch k c0 c1 a0 a1 b0 b1 =>
      rw [if_neg (by omega), if_pos k, wv_branch k, hc _ (by omega), hc _ (by omega)]
      have h1 := ih n.f2.toNat (by omega)
      have h2 := ih n.f3.toNat (by omega)
      split
      · rw [List.length_cons]; omega
      · rw [List.length_cons]; omega
    | loop k c0 c1 a0 a1 m0 m1 =>
      rw [if_neg (by omega), if_neg (by omega), if_pos k, wv_loop k, hc _ (by omega), List.length_cons]
      have h1 := ih n.f2.toNat (by omega)
      have h2 := repN_len (wsN l (wl true l l.length) d n.f2.toNat) n.f4.toNat
      rw [show ((n.f4.toNat : Nat) : Int) = n.f4 by omega] at h2
      have h3 : n.f4 * ((wsN l (wl true l l.length) d n.f2.toNat).length : Int) ≤ n.f4 * (n.f1 + (wl true l l.length).getD n.f2.toNat 0) := Int.mul_le_mul_of_nonneg_left (by omega) m0
      omega
theorem spec_worst_ev {l : List Node} (hu : okUp l l.length) (hl : l.length ≤ 12) : ∀ (d i : Nat), i < d → i < l.length → (wl true l l.length).getD i 0 ≤ 600 → Tl (fun k => spec_l8Worst.f k l ((wl true l l.length).map cut) (i : Int)) (wsN l (wl true l l.length) d i)
  | 0, i, h, _, _ => by omega
  | d + 1, i, hid, hi, h6 => by
    have hn := okNode_is (hu i hi)
    have ih : ∀ x : Int, 0 ≤ x → x < (i : Int) → (wl true l l.length).getD x.toNat 0 ≤ 600 → Tl (fun k => spec_l8Worst.f k l ((wl true l l.length).map cut) x) (wsN l (wl true l l.length) d x.toNat) := by
      intro x h0 h1 h2
      obtain ⟨m, rfl⟩ : ∃ m : Nat, x = (m : Int) := ⟨x.toNat, by omega⟩
      exact spec_worst_ev hu hl d m (by omega) (by omega) h2
    have hT := wl_at true l l.length i hi
    rw [hT] at h6
    have hb := fun a => wl_bd (b := true) (j := l.length) hu hl (Nat.le_refl _) a
    have hc := fun a (ha : a < i) => wl_child hi ha
    have hws := fun a => ws_len hu hl d a
    have hln : ((wl true l l.length).map cut).length = l.length := by rw [List.length_map, wl_len]
    rw [ws_at]
    refine Tl.step ?_
    simp only [spec_l8Worst.f]
    refine Tl.iteT (by omega) (Tl.iteT (by omega) ?_)
    rw [show nd l i = rd_T60 l (i : Int) from rfl] at hn h6 ⊢
    generalize rd_T60 l (i : Int) = n at hn h6 ⊢
    cases hn with
    | block k c0 c1 =>
      rw [if_neg (by omega), if_neg (by omega), if_neg (by omega)]
      exact Tl.iteT k (Tl.ret _)
    | seq k c a0 a1 b0 b1 =>
      rw [wv_seq k, hc _ (by omega), hc _ (by omega)] at h6
      have b1 := hb n.f2.toNat (by omega)
      have b2 := hb n.f3.toNat (by omega)
      have e1 := hws n.f2.toNat (by omega)
      have e2 := hws n.f3.toNat (by omega)
      refine Tl.cast (Tl.iteF (by omega) (Tl.iteT k (Tl.bind (ih n.f2 a0 a1 (by omega)) (Tl.bind (ih n.f3 (by omega) (by omega) (by omega)) (Tl.iteT (by omega) (Tl.ret _)))))) ?_
      rw [if_pos k]
    | branch k c0 c1 a0 a1 b0 b1 =>
      rw [wv_branch k, hc _ (by omega), hc _ (by omega)] at h6
      have d1 := hb n.f2.toNat (by omega)
      have d2 := hb n.f3.toNat (by omega)
      have e1 := hws n.f2.toNat (by omega)
      have e2 := hws n.f3.toNat (by omega)
      rw [rd_cut a0, rd_cut b0, show cut ((wl true l l.length).getD n.f2.toNat 0) = (wl true l l.length).getD n.f2.toNat 0 by unfold cut; omega, show cut ((wl true l l.length).getD n.f3.toNat 0) = (wl true l l.length).getD n.f3.toNat 0 by unfold cut; omega]
      refine Tl.iteF (by omega) (Tl.iteF (by omega) (Tl.iteT k (Tl.iteT a0 (Tl.iteT (by omega) (Tl.iteT b0 (Tl.iteT (by omega) ?_))))))
      simp only [Option.bind_some]
      rw [if_neg (show ¬ n.f0 = 2 by omega), if_pos k]
      by_cases c : (wl true l l.length).getD n.f3.toNat 0 ≤ (wl true l l.length).getD n.f2.toNat 0
      · rw [if_pos c]
        refine Tl.cast (Tl.iteT c (Tl.bind (ih n.f2 a0 a1 (by omega)) (Tl.iteT (by simp only [List.length_cons, List.length_nil]; omega) (Tl.ret _)))) ?_
        rfl
      · rw [if_neg c]
        refine Tl.cast (Tl.iteF (fun g => c g) (Tl.bind (ih n.f3 b0 b1 (by omega)) (Tl.iteT (by simp only [List.length_cons, List.length_nil]; omega) (Tl.ret _)))) ?_
        rfl
    | loop k c0 c1 a0 a1 m0 m1 =>
      rw [wv_loop k, hc _ (by omega)] at h6
      have b1 := hb n.f2.toNat (by omega)
      have e1 := hws n.f2.toNat (by omega)
      rw [if_neg (show ¬ n.f0 = 2 by omega), if_neg (show ¬ n.f0 = 3 by omega), if_pos k]
      refine Tl.iteF (by omega) (Tl.iteF (by omega) (Tl.iteF (by omega) ?_))
      obtain ⟨M, hM⟩ : ∃ M : Nat, n.f4 = (M : Int) := ⟨n.f4.toNat, by omega⟩
      rw [hM, Int.toNat_natCast]
      rw [hM] at h6 m1
      have hA : 0 < M → (wl true l l.length).getD n.f2.toNat 0 ≤ 600 := fun hp => by
        have := Int.mul_le_mul_of_nonneg_right (show (1 : Int) ≤ (M : Int) by omega) (show 0 ≤ n.f1 + (wl true l l.length).getD n.f2.toNat 0 by omega)
        omega
      have hrl := fun j => repN_len (wsN l (wl true l l.length) d n.f2.toNat) j
      have ihA := fun hp => ih n.f2 a0 a1 (hA hp)
      generalize wsN l (wl true l l.length) d n.f2.toNat = W at e1 hrl ihA ⊢
      refine down (Q := fun j => Tl (fun k => spec_l8Worst.l0 k l ((wl true l l.length).map cut) ((M : Int) :: repN j W) (j : Int) n.f0 n.f1 n.f2 n.f3 (M : Int)) ((M : Int) :: repN M W)) M ?_ ?_
      · refine Tl.step ?_
        simp only [spec_l8Worst.l0]
        exact Tl.iteF (by omega) (Tl.ret _)
      · intro j hj hh
        have h4 := hrl j
        have h5 : (j : Int) * (W.length : Int) ≤ 4 * (W.length : Int) := Int.mul_le_mul_of_nonneg_right (by omega) (by omega)
        refine Tl.step ?_
        simp only [spec_l8Worst.l0]
        rw [wrap_succ hj (by omega)]
        exact Tl.iteT (by omega) (Tl.bind (ihA (by omega)) (Tl.iteT (by rw [List.length_cons]; omega) hh))
def worstD (l : List Node) : List Int := if okProg l = true then wsN l (wl true l l.length) l.length (l.length - 1) else []
theorem worstD_len (l : List Node) : (worstD l).length ≤ 600 := by
  unfold worstD
  split
  · rename_i h
    obtain ⟨hl, hu, h6⟩ := okProg_all h
    have := ws_len hu hl.2 l.length (l.length - 1) (by omega)
    omega
  · simp
theorem impl_WorstChoices_ev (l : List Node) (hl0 : l.length ≤ 1048576) : Tl (fun k => impl_WorstChoices.f k l) (worstD l) := by
  unfold impl_WorstChoices.f worstD
  refine Tl.bind (impl_ProgramValid_ev l hl0) ?_
  by_cases h : okProg l = true
  · obtain ⟨hl, hu, h6⟩ := okProg_all h
    have e : (exN l (wcP l (wl true l l.length)) l.length (l.length - 1) []).2 = wsN l (wl true l l.length) l.length (l.length - 1) := by
      rw [ex_ws _ hu _ _ (by omega)]; simp
    refine Tl.cast (Tl.iteT h (Tl.bind (impl_worst_ev l hu hl.2) (Tl.iteT ⟨okProg_run h, wl_len _ _ _⟩ (Tl.ret _)))) ?_
    rw [if_pos h, e]
  · exact Tl.cast (Tl.iteF h (Tl.ret _)) (if_neg h).symm
theorem spec_WorstChoices_ev (l : List Node) (hl0 : l.length ≤ 1048576) : Tl (fun k => spec_WorstChoices.f k l) (worstD l) := by
  unfold spec_WorstChoices.f worstD
  refine Tl.bind (spec_ProgramValid_ev l hl0) ?_
  by_cases h : okProg l = true
  · obtain ⟨hl, hu, h6⟩ := okProg_all h
    rw [if_pos h, wrap_last hl.1 hl.2]
    exact Tl.iteT h (Tl.bind (spec_Costs_ev true l hu hl.2) (Tl.bind (spec_worst_ev hu hl.2 l.length (l.length - 1) (by omega) (by omega) h6) (Tl.ret _)))
  · rw [if_neg h]
    exact Tl.iteF h (Tl.ret _)
end Go.Proofs.Ytappbijjpcaocaa.Print

namespace Go.Proofs.Ytappbijjpcaocaa.Print
open Go.RowKit Go.Proofs.YtappbijjpcaocaaW.PrintWords Go.Proofs.Ytappbijjpcaocaa.Evs Go.Proofs.Ytappbijjpcaocaa.Opens
set_option linter.unusedSimpArgs false
set_option linter.unusedVariables false
theorem wrap5 {m : Int} (h0 : 0 ≤ m) (h1 : m ≤ 100000000) : wrap64 ((wrap64 ((wrap64 ((wrap64 ((wrap64 (m + 1)) + 1)) + 1)) + 1)) + 1) = m + 5 := by
  rw [wrap_id (n := m + 1) (by omega) (by omega), wrap_id (n := m + 1 + 1) (by omega) (by omega), wrap_id (n := m + 1 + 1 + 1) (by omega) (by omega), wrap_id (n := m + 1 + 1 + 1 + 1) (by omega) (by omega), wrap_id (n := m + 1 + 1 + 1 + 1 + 1) (by omega) (by omega)]
  omega
def nm (l : List Node) (j : Nat) : Node := l.getD j z60
theorem rd_nm (l : List Node) (j : Nat) : rd_T60 l (j : Int) = nm l j := rfl
theorem nm_set (l : List Node) (v : Node) {j : Nat} (h : j < l.length) : nm (l.set j v) j = v := by
  unfold nm; simp [List.getD_eq_getElem?_getD, List.getElem?_set, h]
theorem markNodeS_at : ∀ (d j : Nat) (l : List Node) (m : Int), j + d = l.length → 0 ≤ m → m + 5 * d ≤ 100000000 → l.length ≤ 1048576 → ∃ l', Tl (fun k => laws_markNodeS.l0 k l m (j : Int)) (m + 5 * d, l')
  | 0, j, l, m, e, h0, h1, h2 => by
    refine ⟨l, Tl.step ?_⟩
    simp only [laws_markNodeS.l0]
    exact Tl.iteF (by omega) (Tl.cast (Tl.ret _) (by rw [show m + 5 * ((0 : Nat) : Int) = m by omega]))
  | d + 1, j, l, m, e, h0, h1, h2 => by
    have key : ∀ x : List Node, x.length = l.length → ∃ l', Tl (fun k => laws_markNodeS.l0 k x (m + 5) ((j + 1 : Nat) : Int)) (m + 5 + 5 * d, l') := fun x hx => markNodeS_at d (j + 1) x (m + 5) (by omega) (by omega) (by omega) (by omega)
    have hj : j < l.length := by omega
    obtain ⟨l', hl'⟩ := key (l.set j ⟨m, wrap64 (m + 1), wrap64 ((wrap64 (m + 1)) + 1), wrap64 ((wrap64 ((wrap64 (m + 1)) + 1)) + 1), wrap64 ((wrap64 ((wrap64 ((wrap64 (m + 1)) + 1)) + 1)) + 1)⟩) (by rw [List.length_set])
    refine ⟨l', Tl.step ?_⟩
    simp only [laws_markNodeS.l0, rd_nm, Int.toNat_natCast, Option.bind_some]
    simp only [List.set_set, nm_set _ _ hj, List.length_set]
    rw [wrap5 h0 (by omega), wrap_succ (n := l.length) (by omega) (by omega)]
    exact Tl.iteT (by omega) (Tl.iteT (by omega) (Tl.cast hl' (by rw [show m + 5 + 5 * (d : Int) = m + 5 * ((d + 1 : Nat) : Int) by omega])))
theorem markNodeS_ev (l : List Node) (m : Int) (h0 : 0 ≤ m) (h1 : m ≤ 10000000) (hl : l.length ≤ 1048576) : ∃ l', Tl (fun k => laws_markNodeS.f k l m) (m + 5 * l.length, l') :=
  markNodeS_at l.length 0 l m (by omega) h0 (by omega) hl
end Go.Proofs.Ytappbijjpcaocaa.Print

namespace Go.Proofs.Ytappbijjpcaocaa.Print
open Go.RowKit Go.Proofs.YtappbijjpcaocaaW.PrintWords Go.Proofs.Ytappbijjpcaocaa.Evs Go.Proofs.Ytappbijjpcaocaa.Opens
set_option linter.unusedSimpArgs false
theorem eqIntS_ev (l : List Int) (hl : l.length ≤ 1048576) : Tl (fun k => laws_eqIntS.f k l l) true := by
  unfold laws_eqIntS.f
  simp only [if_true]
  refine down (Q := fun j => Tl (fun k => laws_eqIntS.l0 k l l (j : Int)) true) l.length ?_ ?_
  · refine Tl.step ?_
    have c3 := eq_false (show ¬ ((l.length : Int) < (l.length : Int)) by omega)
    simp only [laws_eqIntS.l0, c3, if_false]
    exact Tl.ret _
  · intro j hj h
    refine Tl.step ?_
    have c3 := eq_true (show (j : Int) < (l.length : Int) by omega)
    have c4 := eq_true (show 0 ≤ (j : Int) by omega)
    simp only [laws_eqIntS.l0, c3, c4, if_true]
    rw [wrap_succ hj (by omega)]
    exact h
end Go.Proofs.Ytappbijjpcaocaa.Print

namespace Go.Proofs.Ytappbijjpcaocaa.Print
open Go.RowKit Go.Proofs.YtappbijjpcaocaaW.PrintWords Go.Proofs.Ytappbijjpcaocaa.Evs Go.Proofs.Ytappbijjpcaocaa.Opens
set_option linter.unusedSimpArgs false
set_option linter.unusedVariables false
/-- A row marked with m, m + 1, .. -/
structure Marked (l : List Int) (m : Int) (n : Nat) : Prop where
  len : l.length = n
  at_ : ∀ i, i < n → l.getD i 0 = m + i
theorem markIntS_at : ∀ (d j : Nat) (l : List Int) (m : Int), j + d = l.length → 0 ≤ m → m + l.length ≤ 100000000 → (∀ i, i < j → l.getD i 0 = m + i) → ∃ l', Marked l' m l.length ∧ Tl (fun k => laws_markIntS.l0 k l (m + j) (j : Int)) (m + l.length, l')
  | 0, j, l, m, e, h0, h1, hm => by
    refine ⟨l, ⟨rfl, fun i hi => hm i (by omega)⟩, Tl.step ?_⟩
    simp only [laws_markIntS.l0]
    exact Tl.iteF (by omega) (Tl.cast (Tl.ret _) (by rw [show m + (j : Int) = m + (l.length : Int) by omega]))
  | d + 1, j, l, m, e, h0, h1, hm => by
    obtain ⟨l', h2, h3⟩ := markIntS_at d (j + 1) (l.set j (m + j)) m (by rw [List.length_set]; omega) h0 (by rw [List.length_set]; exact h1) (fun i hi => by
      by_cases hij : i = j
      · subst hij
        simp [List.getD_eq_getElem?_getD, List.getElem?_set, show i < l.length by omega]
      · have := hm i (by omega)
        rw [← this]
        simp [List.getD_eq_getElem?_getD, List.getElem?_set, show ¬ j = i by omega])
    rw [List.length_set] at h2 h3
    refine ⟨l', h2, Tl.step ?_⟩
    simp only [laws_markIntS.l0, Int.toNat_natCast]
    rw [wrap_id (n := m + (j : Int) + 1) (by omega) (by omega), wrap_succ (n := l.length) (by omega) (by omega), show m + (j : Int) + 1 = m + ((j + 1 : Nat) : Int) by omega]
    exact Tl.iteT (by omega) (Tl.iteT (by omega) h3)
theorem markIntS_ev (l : List Int) (m : Int) (h0 : 0 ≤ m) (h1 : m ≤ 10000000) (hl : l.length ≤ 1048576) : ∃ l', Marked l' m l.length ∧ Tl (fun k => laws_markIntS.f k l m) (m + l.length, l') := by
  obtain ⟨l', h2, h3⟩ := markIntS_at l.length 0 l m (by omega) h0 (by omega) (fun i hi => by omega)
  rw [show m + ((0 : Nat) : Int) = m by omega] at h3
  exact ⟨l', h2, h3⟩
theorem heldIntS_ev {l : List Int} {m : Int} {n : Nat} (h : Marked l m n) (h0 : 0 ≤ m) (h1 : m ≤ 10000000) (hl : n ≤ 1048576) : Tl (fun k => laws_heldIntS.f k l m) (m + n) := by
  unfold laws_heldIntS.f
  have he := h.len
  have key := down (Q := fun j => Tl (fun k => laws_heldIntS.l0 k l (m + j) (j : Int)) (m + n)) n ?_ ?_
  · rw [show m + ((0 : Nat) : Int) = m by omega] at key; exact key
  · refine Tl.step ?_
    simp only [laws_heldIntS.l0]
    exact Tl.iteF (by omega) (Tl.ret _)
  · intro j hj hh
    refine Tl.step ?_
    have ha : rd l (j : Int) = m + j := h.at_ j hj
    simp only [laws_heldIntS.l0, ha]
    rw [wrap_id (n := m + (j : Int) + 1) (by omega) (by omega), wrap_succ hj (by omega), show m + (j : Int) + 1 = m + ((j + 1 : Nat) : Int) by omega]
    exact Tl.iteT (by omega) (Tl.iteT (by omega) (Tl.iteT (by trivial) hh))

set_option maxHeartbeats 1000000 in
theorem FnExactWorstChoices_pure : PureFnExactWorstChoices := by
  intro x0 w0
  apply Tl.once
  unfold laws_FnExactWorstChoices.f
  refine Tl.bind (Tl.of_eq fun _ => szNodeS_f x0 _ (by omega) (by omega) w0.1) ?_
  by_cases g0 : (1048576 : Int) < x0.length
  · rw [if_pos g0]; exact Tl.iteT (by omega) (Tl.ret _)
  rw [if_neg g0]
  refine Tl.iteF (by omega) ?_
  have hl0 : x0.length ≤ 1048576 := by omega
  have hm0 : (x0.map cvNode).length ≤ 1048576 := by simpa using hl0
  have HS := spec_WorstChoices_ev (x0.map cvNode) hm0
  have HI := impl_WorstChoices_ev (x0.map cvNode) hm0
  have hd := worstD_len (x0.map cvNode)
  generalize worstD (x0.map cvNode) = D at HS HI hd
  have HE := eqIntS_ev D (by omega)
  obtain ⟨t1, m1⟩ := markNodeS_ev (x0.map cvNode) 1 (by omega) (by omega) hm0
  obtain ⟨t3, mk, m3⟩ := markIntS_ev D 1 (by omega) (by omega) (by omega)
  have m4 := heldIntS_ev mk (by omega) (by omega) (by omega)
  repeat (first
    | exact Tl.ret _
    | with_reducible refine Tl.bind (toNodeS_ev x0 hl0) ?_
    | with_reducible refine Tl.bind (eqNodeS_ev (x0.map cvNode) hm0) ?_
    | with_reducible refine Tl.bind HE ?_
    | with_reducible refine Tl.bind m1 ?_
    | with_reducible refine Tl.bind m3 ?_
    | with_reducible refine Tl.bind m4 ?_
    | with_reducible refine Tl.iteF (by omega) ?_
    | with_reducible refine Tl.bind HS ?_
    | with_reducible refine Tl.bind HI ?_
    | with_reducible refine Tl.iteT rfl ?_
    | with_reducible refine Tl.iteF (by simp) ?_
    | dsimp only
    | (refine Tl.step ?_; simp only [laws_FnExactWorstChoices.j0]))
end Go.Proofs.Ytappbijjpcaocaa.Print
