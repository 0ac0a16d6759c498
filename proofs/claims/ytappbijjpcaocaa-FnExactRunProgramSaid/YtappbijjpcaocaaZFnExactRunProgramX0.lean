/- What the program and the reference compute, and that both agree. No condition. -/
import Derived.Test.YtappbijjpcaocaaPO
import Derived.Test.YtappbijjpcaocaaZFnExactRunProgramP2
import Derived.RowKit
import Derived.WalkKit
import Derived.Test.YtappbijjpcaocaaZFnExactRunProgramP1
import Derived.Test.YtappbijjpcaocaaZFnExactRunProgramP0
import Derived.Test.YtappbijjpcaocaaPImplLworst
import Derived.Test.YtappbijjpcaocaaPSpecLl8Costs
namespace Go.Proofs.Ytappbijjpcaocaa.Print
open Go.RowKit Go.Proofs.YtappbijjpcaocaaW.PrintWords Go.Proofs.YtappbijjpcaocaaW.PrintLast Go.Proofs.YtappbijjpcaocaaW.PrintMore
attribute [local go_sem] max2_int min2_int max_two min_two max_three min_three max_four min_four   -- for this text's walks alone
set_option linter.unusedVariables false
set_option linter.unusedSimpArgs false

open Go.Proofs.Ytappbijjpcaocaa.Opens
/-- The pure statement of FnExactRunProgram. -/
def PureFnExactRunProgram : Prop := ∀ (x0 : List (S63)) (x1 : List Int), (wfL wf63) x0 → (wfL wfI) x1 → ∃ k, laws_FnExactRunProgram.f k x0 x1 = some true
end Go.Proofs.Ytappbijjpcaocaa.Print

namespace Go.Proofs.Ytappbijjpcaocaa.Evs
open Go.RowKit
set_option linter.unusedSimpArgs false
set_option linter.unusedVariables false

/-- From some number of rounds on, g tells r. -/
def Tl {α : Type} (g : Nat → Option α) (r : α) : Prop := ∃ k0, ∀ k, k0 ≤ k → g k = some r

theorem Tl.ret {α : Type} (r : α) : Tl (fun _ => some r) r := ⟨0, fun _ _ => rfl⟩
theorem Tl.of_eq {α : Type} {g : Nat → Option α} {r : α} (h : ∀ k, g k = some r) : Tl g r := ⟨0, fun k _ => h k⟩
theorem Tl.step {α : Type} {g : Nat → Option α} {r : α} (h : Tl (fun k => g (k + 1)) r) : Tl g r := by
  obtain ⟨k0, hk⟩ := h
  refine ⟨k0 + 1, fun k hle => ?_⟩
  obtain ⟨m, rfl⟩ : ∃ m, k = m + 1 := ⟨k - 1, by omega⟩
  exact hk m (by omega)
theorem Tl.bind {α β : Type} {g : Nat → Option α} {a : α} {f : α → Nat → Option β} {r : β} (h : Tl g a) (h2 : Tl (f a) r) : Tl (fun k => (g k).bind fun x => f x k) r := by
  obtain ⟨k0, hk⟩ := h
  obtain ⟨k1, hk1⟩ := h2
  refine ⟨max k0 k1, fun k hle => ?_⟩
  show (g k).bind (fun x => f x k) = some r
  rw [hk k (by omega), Option.bind_some]
  exact hk1 k (by omega)
theorem Tl.once {α : Type} {g : Nat → Option α} {r : α} (h : Tl g r) : ∃ k, g k = some r := by
  obtain ⟨k0, hk⟩ := h
  exact ⟨k0, hk k0 (Nat.le_refl _)⟩
theorem Tl.cast {α : Type} {g : Nat → Option α} {r r' : α} (h : Tl g r) (e : r = r') : Tl g r' := e ▸ h
theorem Tl.iteT {α : Type} {c : Prop} [Decidable c] {g g' : Nat → Option α} {r : α} (hc : c) (h : Tl g r) : Tl (fun k => if c then g k else g' k) r := by simpa only [if_pos hc] using h
theorem Tl.iteF {α : Type} {c : Prop} [Decidable c] {g g' : Nat → Option α} {r : α} (hc : ¬ c) (h : Tl g' r) : Tl (fun k => if c then g k else g' k) r := by simpa only [if_neg hc] using h

/-- Downwards. -/
theorem down {Q : Nat → Prop} (n : Nat) (he : Q n) (hs : ∀ j, j < n → Q (j + 1) → Q j) : Q 0 := by
  induction n with
  | zero => exact he
  | succ n ih => exact ih (hs n (by omega) he) (fun j hj => hs j (by omega))
theorem downFrom {Q : Nat → Prop} {m n : Nat} (hm : m ≤ n) (he : Q n) (hs : ∀ j, m ≤ j → j < n → Q (j + 1) → Q j) : Q m := by
  obtain ⟨d, rfl⟩ : ∃ d, n = m + d := ⟨n - m, by omega⟩
  induction d with
  | zero => exact he
  | succ d ih => exact ih (by omega) (hs (m + d) (by omega) (by omega) he) (fun j h1 h2 => hs j h1 (by omega))

/-- A loop that asks something of each index, and stops at the first 'no'. -/
theorem Tl.all {F : Nat → Int → Option Bool} {n : Nat} {P : Nat → Bool} {fin : Bool}
    (ht : ∀ j, j < n → P j = true → ∀ r, Tl (fun k => F k ((j + 1 : Nat) : Int)) r → Tl (fun k => F k (j : Int)) r)
    (hf : ∀ j, j < n → P j = false → Tl (fun k => F k (j : Int)) false) (he : Tl (fun k => F k (n : Int)) fin) :
    Tl (fun k => F k 0) ((List.range n).all P && fin) := by
  by_cases hall : ∀ j, j < n → P j = true
  · have h1 : ((List.range n).all P) = true := by simpa using hall
    rw [h1, Bool.true_and]
    exact down (Q := fun j => Tl (fun k => F k (j : Int)) fin) n he (fun j hj h => ht j hj (hall j hj) _ h)
  · have h1 : ((List.range n).all P) = false := by simpa using hall
    rw [h1, Bool.false_and]
    clear h1
    have key : ∀ m, m ≤ n → (∃ j, j < m ∧ P j = false) → Tl (fun k => F k 0) false := by
      intro m
      induction m with
      | zero => rintro _ ⟨j, hj, _⟩; omega
      | succ m ih =>
        rintro hm ⟨j, hj, hp⟩
        by_cases hlow : ∃ j, j < m ∧ P j = false
        · exact ih (by omega) hlow
        · have hjm : j = m := by
            rcases Nat.lt_or_ge j m with h | h
            · exact absurd ⟨j, h, hp⟩ hlow
            · omega
          subst hjm
          refine down (Q := fun j => Tl (fun k => F k (j : Int)) false) j (hf j (by omega) hp) (fun i hi h => ht i (by omega) ?_ _ h)
          cases hpi : P i
          · exact absurd ⟨i, hi, hpi⟩ hlow
          · rfl
    refine key n (Nat.le_refl _) ?_
    apply Classical.byContradiction
    intro hno
    refine hall (fun j hj => ?_)
    cases hp : P j
    · exact absurd ⟨j, hj, hp⟩ hno
    · rfl

theorem wrap_id {n : Int} (h1 : -9223372036854775808 ≤ n) (h2 : n ≤ 9223372036854775807) : wrap64 n = n := by unfold wrap64; omega
theorem wrap_succ {j n : Nat} (h : j < n) (hn : n ≤ 9223372036854775807) : wrap64 ((j : Int) + 1) = ((j + 1 : Nat) : Int) := by unfold wrap64; omega
theorem wrap_pred {j n : Nat} (h : j < n) (h0 : 0 < j) (hn : n ≤ 9223372036854775807) : wrap64 ((j : Int) - 1) = ((j - 1 : Nat) : Int) := by unfold wrap64; omega
end Go.Proofs.Ytappbijjpcaocaa.Evs

namespace Go.Proofs.Ytappbijjpcaocaa.Evs
theorem fill_zero {α : Type} (xs : List α) (z : α) : xs.take 0 ++ List.replicate (xs.length - 0) z = List.replicate xs.length z := by simp
theorem fill_set {α : Type} (xs : List α) (z : α) {j : Nat} (hj : j < xs.length) (x : α) (hx : x = xs.getD j z) :
    (xs.take j ++ List.replicate (xs.length - j) z).set j x = xs.take (j + 1) ++ List.replicate (xs.length - (j + 1)) z := by
  have h1 : (xs.take j).length = j := by simp; omega
  rw [List.set_append_right _ _ (by omega), h1, Nat.sub_self]
  obtain ⟨m, hm⟩ : ∃ m, xs.length - j = m + 1 := ⟨xs.length - j - 1, by omega⟩
  rw [hm, List.replicate_succ, List.set_cons_zero, List.take_succ_eq_append_getElem hj, List.append_assoc, hx]
  have h2 : xs.length - (j + 1) = m := by omega
  rw [h2]
  simp [List.getD_eq_getElem?_getD, hj]
theorem fill_len {α : Type} (xs : List α) (z : α) {j : Nat} (hj : j ≤ xs.length) : (xs.take j ++ List.replicate (xs.length - j) z).length = xs.length := by simp; omega
theorem fill_end {α : Type} (xs : List α) (z : α) : xs.take xs.length ++ List.replicate (xs.length - xs.length) z = xs := by simp
theorem getD_map {α β : Type} (f : α → β) (l : List α) (j : Nat) (z : α) (z' : β) (hj : j < l.length) : (l.map f).getD j z' = f (l.getD j z) := by simp [List.getD_eq_getElem?_getD, hj]
theorem all_range {α : Type} (l : List α) (z : α) (p : α → Bool) : (List.range l.length).all (fun j => p (l.getD j z)) = l.all p := by
  rw [Bool.eq_iff_iff, List.all_eq_true, List.all_eq_true]
  constructor
  · intro h x hx
    obtain ⟨i, hi, rfl⟩ := List.getElem_of_mem hx
    have := h i (by simpa using hi)
    simpa [List.getD_eq_getElem?_getD, hi] using this
  · intro h j hj
    have hj' : j < l.length := by simpa using hj
    have := h l[j] (List.getElem_mem hj')
    simpa [List.getD_eq_getElem?_getD, hj'] using this
end Go.Proofs.Ytappbijjpcaocaa.Evs

namespace Go.Proofs.Ytappbijjpcaocaa.Print
open Go.RowKit Go.Proofs.YtappbijjpcaocaaW.PrintWords Go.Proofs.Ytappbijjpcaocaa.Evs Go.Proofs.Ytappbijjpcaocaa.Opens
set_option linter.unusedSimpArgs false
abbrev LNode := S63
abbrev Node := S60
def cvNode (x : LNode) : Node := ⟨x.f0, x.f1, x.f2, x.f3, x.f4⟩
theorem toNodeS_ev (l : List LNode) (hl : l.length ≤ 1048576) : Tl (fun k => laws_toNodeS.f k l) (l.map cvNode) := by
  unfold laws_toNodeS.f
  have c1 := eq_true (show 0 ≤ (l.length : Int) by omega)
  have c2 := eq_true (show l.length ≤ 7036874417766 by omega)
  simp only [c1, c2, if_true, Int.toNat_natCast]
  have hlen : (l.map cvNode).length = l.length := by simp
  have key := down (Q := fun j => Tl (fun k => laws_toNodeS.l0 k l ((l.map cvNode).take j ++ List.replicate ((l.map cvNode).length - j) z60) (j : Int)) (l.map cvNode)) l.length ?_ ?_
  · rw [fill_zero, hlen] at key; exact key
  · refine Tl.step ?_
    have c3 := eq_false (show ¬ ((l.length : Int) < (l.length : Int)) by omega)
    rw [← hlen, fill_end]
    simp only [hlen]
    simp only [laws_toNodeS.l0, c3, if_false]
    exact Tl.ret _
  · intro j hj h
    refine Tl.step ?_
    have c3 := eq_true (show (j : Int) < (l.length : Int) by omega)
    have c4 := eq_true (show 0 ≤ (j : Int) by omega)
    have c5 := eq_true (show (j : Int) < (((l.map cvNode).take j ++ List.replicate ((l.map cvNode).length - j) z60).length : Int) by rw [fill_len _ _ (by omega)]; omega)
    simp only [laws_toNodeS.l0, c3, c4, c5, if_true, laws_toNode.f, Option.bind_some, Int.toNat_natCast]
    rw [fill_set _ _ (by omega) _ (by rw [getD_map cvNode l j z63 _ hj]; rfl), wrap_succ hj (by omega)]
    exact h
theorem eqNode_self (x : Node) : laws_eqNode.f x.f0 x.f1 x.f2 x.f3 x.f4 x.f0 x.f1 x.f2 x.f3 x.f4 = some true := by simp [laws_eqNode.f]
theorem eqNodeS_ev (l : List Node) (hl : l.length ≤ 1048576) : Tl (fun k => laws_eqNodeS.f k l l) true := by
  unfold laws_eqNodeS.f
  simp only [if_true]
  refine down (Q := fun j => Tl (fun k => laws_eqNodeS.l0 k l l (j : Int)) true) l.length ?_ ?_
  · refine Tl.step ?_
    have c3 := eq_false (show ¬ ((l.length : Int) < (l.length : Int)) by omega)
    simp only [laws_eqNodeS.l0, c3, if_false]
    exact Tl.ret _
  · intro j hj h
    refine Tl.step ?_
    have c3 := eq_true (show (j : Int) < (l.length : Int) by omega)
    have c4 := eq_true (show 0 ≤ (j : Int) by omega)
    simp only [laws_eqNodeS.l0, c3, c4, if_true, eqNode_self, Option.bind_some]
    rw [wrap_succ hj (by omega)]
    exact h
theorem szNodeS_f (l : List LNode) (a : Int) (h0 : 0 ≤ a) (h1 : a ≤ 1048576) (hl : l.length ≤ 9223372036854775807) : laws_szNodeS.f l a = some (if a < l.length then -1 else a - l.length) := by
  unfold laws_szNodeS.f
  rw [wrap_id (by omega) (by omega)]
  by_cases h : a < l.length
  · rw [if_pos (by omega), if_pos h]
  · rw [if_neg (by omega), if_neg h]
end Go.Proofs.Ytappbijjpcaocaa.Print

namespace Go.Proofs.Ytappbijjpcaocaa.Print
open Go.RowKit Go.Proofs.YtappbijjpcaocaaW.PrintWords Go.Proofs.Ytappbijjpcaocaa.Evs Go.Proofs.Ytappbijjpcaocaa.Opens
set_option linter.unusedSimpArgs false
set_option linter.unusedVariables false
def nd (l : List Node) (j : Nat) : Node := l.getD j z60
/-- A valid node at a place. -/
def okNode (n : Node) (i : Int) : Bool :=
  if n.f0 = 1 then decide (1 ≤ n.f1 ∧ n.f1 ≤ 9 ∧ n.f2 = 0 ∧ n.f3 = 0 ∧ n.f4 = 0)
  else if n.f0 = 2 then decide (n.f1 = 0 ∧ 0 ≤ n.f2 ∧ n.f2 < i ∧ 0 ≤ n.f3 ∧ n.f3 < i ∧ n.f4 = 0)
  else if n.f0 = 3 then decide (1 ≤ n.f1 ∧ n.f1 ≤ 9 ∧ 0 ≤ n.f2 ∧ n.f2 < i ∧ 0 ≤ n.f3 ∧ n.f3 < i ∧ n.f4 = 0)
  else if n.f0 = 4 then decide (1 ≤ n.f1 ∧ n.f1 ≤ 9 ∧ 0 ≤ n.f2 ∧ n.f2 < i ∧ n.f3 = 0 ∧ 0 ≤ n.f4 ∧ n.f4 ≤ 4)
  else false
/-- What a valid node is. -/
inductive NodeIs (n : Node) (i : Int) : Prop
  | block (k : n.f0 = 1) (c0 : 1 ≤ n.f1) (c1 : n.f1 ≤ 9)
  | seq (k : n.f0 = 2) (c : n.f1 = 0) (a0 : 0 ≤ n.f2) (a1 : n.f2 < i) (b0 : 0 ≤ n.f3) (b1 : n.f3 < i)
  | branch (k : n.f0 = 3) (c0 : 1 ≤ n.f1) (c1 : n.f1 ≤ 9) (a0 : 0 ≤ n.f2) (a1 : n.f2 < i) (b0 : 0 ≤ n.f3) (b1 : n.f3 < i)
  | loop (k : n.f0 = 4) (c0 : 1 ≤ n.f1) (c1 : n.f1 ≤ 9) (a0 : 0 ≤ n.f2) (a1 : n.f2 < i) (m0 : 0 ≤ n.f4) (m1 : n.f4 ≤ 4)
theorem okNode_is {n : Node} {i : Int} (h : okNode n i = true) : NodeIs n i := by
  unfold okNode at h
  split at h
  · rw [decide_eq_true_eq] at h; exact .block (by assumption) h.1 h.2.1
  · split at h
    · rw [decide_eq_true_eq] at h; exact .seq (by assumption) h.1 h.2.1 h.2.2.1 h.2.2.2.1 h.2.2.2.2.1
    · split at h
      · rw [decide_eq_true_eq] at h; exact .branch (by assumption) h.1 h.2.1 h.2.2.1 h.2.2.2.1 h.2.2.2.2.1 h.2.2.2.2.2.1
      · split at h
        · rw [decide_eq_true_eq] at h; exact .loop (by assumption) h.1 h.2.1 h.2.2.1 h.2.2.2.1 h.2.2.2.2.2.1 h.2.2.2.2.2.2
        · cases h
/-- The worst and the best time of a node, the times of the nodes ahead of it given. -/
def wv (b : Bool) (n : Node) (o : List Int) : Int :=
  if n.f0 = 1 then n.f1
  else if n.f0 = 2 then o.getD n.f2.toNat 0 + o.getD n.f3.toNat 0
  else if n.f0 = 3 then (if b = true then n.f1 + max (o.getD n.f2.toNat 0) (o.getD n.f3.toNat 0) else n.f1 + min (o.getD n.f2.toNat 0) (o.getD n.f3.toNat 0))
  else if n.f0 = 4 then (if b = true then n.f1 + n.f4 * (n.f1 + o.getD n.f2.toNat 0) else n.f1)
  else 0
def wl (b : Bool) (l : List Node) : Nat → List Int
  | 0 => []
  | i + 1 => wl b l i ++ [wv b (nd l i) (wl b l i)]
theorem wl_succ (b : Bool) (l : List Node) (i : Nat) : wl b l (i + 1) = wl b l i ++ [wv b (nd l i) (wl b l i)] := rfl
theorem wl_len (b : Bool) (l : List Node) : ∀ i, (wl b l i).length = i
  | 0 => rfl
  | i + 1 => by unfold wl; rw [List.length_append, wl_len b l i]; rfl
theorem getD_app1 {α : Type} (a b : List α) (j : Nat) (z : α) (h : j < a.length) : (a ++ b).getD j z = a.getD j z := by
  simp [List.getD_eq_getElem?_getD, List.getElem?_append, h]
theorem getD_app2 {α : Type} (a : List α) (x z : α) : (a ++ [x]).getD a.length z = x := by
  simp [List.getD_eq_getElem?_getD, List.getElem?_append]
def Bd : Nat → Int
  | 0 => 0
  | i + 1 => 45 + 5 * Bd i
theorem Bd_nn : ∀ i, 0 ≤ Bd i
  | 0 => Int.le_refl _
  | i + 1 => by have := Bd_nn i; unfold Bd; omega
theorem Bd_mono : ∀ i d, Bd i ≤ Bd (i + d)
  | i, 0 => Int.le_refl _
  | i, d + 1 => by have h1 := Bd_mono i d; have h2 := Bd_nn (i + d); show Bd i ≤ 45 + 5 * Bd (i + d); omega
theorem Bd_le {i : Nat} (h : i ≤ 12) : Bd i ≤ 3000000000 := by
  have h1 := Bd_mono i (12 - i)
  rw [show i + (12 - i) = 12 by omega] at h1
  have h2 : Bd 12 = 2746582020 := by decide
  omega
/-- All nodes up to a place are valid. -/
def okUp (l : List Node) (i : Nat) : Prop := ∀ j, j < i → okNode (nd l j) (j : Int) = true
theorem wv_in {b : Bool} {n : Node} {i : Nat} {o : List Int} {M : Int} (hn : NodeIs n i) (h0 : 0 ≤ M) (ho : ∀ j, j < i → 0 ≤ o.getD j 0 ∧ o.getD j 0 ≤ M) : 0 ≤ wv b n o ∧ wv b n o ≤ 45 + 5 * M := by
  unfold wv
  cases hn with
  | block k c0 c1 => rw [if_pos k]; omega
  | seq k c a0 a1 b0 b1 =>
    have h1 := ho n.f2.toNat (by omega)
    have h2 := ho n.f3.toNat (by omega)
    rw [if_neg (by omega), if_pos k]; omega
  | branch k c0 c1 a0 a1 b0 b1 =>
    have h1 := ho n.f2.toNat (by omega)
    have h2 := ho n.f3.toNat (by omega)
    rw [if_neg (by omega), if_neg (by omega), if_pos k]
    split <;> omega
  | loop k c0 c1 a0 a1 m0 m1 =>
    have h1 := ho n.f2.toNat (by omega)
    rw [if_neg (by omega), if_neg (by omega), if_neg (by omega), if_pos k]
    have h3 : 0 ≤ n.f4 * (n.f1 + o.getD n.f2.toNat 0) := Int.mul_nonneg m0 (by omega)
    have h4 : n.f4 * (n.f1 + o.getD n.f2.toNat 0) ≤ 4 * (n.f1 + o.getD n.f2.toNat 0) := Int.mul_le_mul_of_nonneg_right m1 (by omega)
    split <;> omega
theorem wl_at (b : Bool) (l : List Node) : ∀ (i j : Nat), j < i → (wl b l i).getD j 0 = wv b (nd l j) (wl b l j)
  | 0, j, h => by omega
  | i + 1, j, h => by
    rw [wl_succ]
    by_cases hc : j = i
    · subst hc
      have := getD_app2 (wl b l j) (wv b (nd l j) (wl b l j)) 0
      rw [wl_len] at this
      exact this
    · rw [getD_app1 _ _ _ _ (by rw [wl_len]; omega)]
      exact wl_at b l i j (by omega)
theorem wl_in {b : Bool} {l : List Node} : ∀ (i : Nat), okUp l i → ∀ j, j < i → 0 ≤ (wl b l i).getD j 0 ∧ (wl b l i).getD j 0 ≤ Bd i
  | 0, _, j, h => by omega
  | i + 1, hu, j, h => by
    have hu' : okUp l i := fun j hj => hu j (by omega)
    have hm := Bd_mono i 1
    have hnn := Bd_nn i
    by_cases hc : j = i
    · subst hc
      rw [wl_at b l (j + 1) j (by omega)]
      exact wv_in (okNode_is (hu j (by omega))) hnn (wl_in j hu')
    · have h1 := wl_in (b := b) i hu' j (by omega)
      rw [wl_at b l (i + 1) j (by omega), ← wl_at b l i j (by omega)]
      omega
/-- Cut off at 601. -/
def cut (x : Int) : Int := min x 601
theorem getD_cut (o : List Int) (j : Nat) : (o.map cut).getD j 0 = cut (o.getD j 0) := by
  simp only [List.getD_eq_getElem?_getD, List.getElem?_map]
  cases o[j]? <;> rfl
theorem cut_wv {b : Bool} {n : Node} {i : Nat} {o : List Int} (hn : NodeIs n i) (ho : ∀ j, j < i → 0 ≤ o.getD j 0) : cut (wv b n (o.map cut)) = cut (wv b n o) := by
  unfold wv
  simp only [getD_cut]
  cases hn with
  | block k c0 c1 => simp only [if_pos k]
  | seq k c a0 a1 b0 b1 =>
    have h1 := ho n.f2.toNat (by omega)
    have h2 := ho n.f3.toNat (by omega)
    have e1 : ¬ n.f0 = 1 := by omega
    simp only [if_neg e1, if_pos k]
    unfold cut; omega
  | branch k c0 c1 a0 a1 b0 b1 =>
    have h1 := ho n.f2.toNat (by omega)
    have h2 := ho n.f3.toNat (by omega)
    have e1 : ¬ n.f0 = 1 := by omega
    have e2 : ¬ n.f0 = 2 := by omega
    simp only [if_neg e1, if_neg e2, if_pos k]
    unfold cut
    cases b <;> simp only [Bool.false_eq_true, if_false, if_true] <;> omega
  | loop k c0 c1 a0 a1 m0 m1 =>
    have h1 := ho n.f2.toNat (by omega)
    have e1 : ¬ n.f0 = 1 := by omega
    have e2 : ¬ n.f0 = 2 := by omega
    have e3 : ¬ n.f0 = 3 := by omega
    simp only [if_neg e1, if_neg e2, if_neg e3, if_pos k]
    cases b
    · rfl
    · simp only [if_true]
      generalize o.getD n.f2.toNat 0 = x at h1 ⊢
      have hm : n.f4 = 0 ∨ n.f4 = 1 ∨ n.f4 = 2 ∨ n.f4 = 3 ∨ n.f4 = 4 := by omega
      unfold cut
      rcases hm with h | h | h | h | h <;> rw [h] <;> omega
theorem best_le {l : List Node} : ∀ (i : Nat), okUp l i → ∀ j, j < i → (wl false l i).getD j 0 ≤ (wl true l i).getD j 0
  | 0, _, j, h => by omega
  | i + 1, hu, j, h => by
    have hu' : okUp l i := fun j hj => hu j (by omega)
    rw [wl_at false l (i + 1) j (by omega), wl_at true l (i + 1) j (by omega)]
    by_cases hc : j = i
    · subst hc
      have hb := best_le j hu'
      have hw := wl_in (b := true) j hu'
      unfold wv
      cases okNode_is (hu j (by omega)) with
      | block k c0 c1 => rw [if_pos k, if_pos k]; exact Int.le_refl _
      | seq k c a0 a1 b0 b1 =>
        have h1 := hb (nd l j).f2.toNat (by omega)
        have h2 := hb (nd l j).f3.toNat (by omega)
        have e1 : ¬ (nd l j).f0 = 1 := by omega
        simp only [if_neg e1, if_pos k]; omega
      | branch k c0 c1 a0 a1 b0 b1 =>
        have h1 := hb (nd l j).f2.toNat (by omega)
        have h2 := hb (nd l j).f3.toNat (by omega)
        have e1 : ¬ (nd l j).f0 = 1 := by omega
        have e2 : ¬ (nd l j).f0 = 2 := by omega
        simp only [if_neg e1, if_neg e2, if_pos k]
        simp only [Bool.false_eq_true, if_false, if_true]
        omega
      | loop k c0 c1 a0 a1 m0 m1 =>
        have h1 := hw (nd l j).f2.toNat (by omega)
        have e1 : ¬ (nd l j).f0 = 1 := by omega
        have e2 : ¬ (nd l j).f0 = 2 := by omega
        have e3 : ¬ (nd l j).f0 = 3 := by omega
        simp only [if_neg e1, if_neg e2, if_neg e3, if_pos k]
        simp only [Bool.false_eq_true, if_false, if_true]
        have h3 : 0 ≤ (nd l j).f4 * ((nd l j).f1 + (wl true l j).getD (nd l j).f2.toNat 0) := Int.mul_nonneg m0 (by omega)
        omega
    · rw [← wl_at false l i j (by omega), ← wl_at true l i j (by omega)]
      exact best_le i hu' j (by omega)
/-- A valid program, and its times. -/
def okProg (l : List Node) : Bool := decide (1 ≤ l.length ∧ l.length ≤ 12) && ((List.range l.length).all (fun j => okNode (nd l j) (j : Int)) && decide ((wl true l l.length).getD (l.length - 1) 0 ≤ 600))
def timeOf (b : Bool) (l : List Node) : Int := if okProg l = true then (wl b l l.length).getD (l.length - 1) 0 else -1
end Go.Proofs.Ytappbijjpcaocaa.Print

namespace Go.Proofs.Ytappbijjpcaocaa.Evs
/-- As Tl.all; the end is reached only if all say yes. -/
theorem Tl.all' {F : Nat → Int → Option Bool} {n : Nat} {P : Nat → Bool} {fin : Bool}
    (ht : ∀ j, j < n → P j = true → ∀ r, Tl (fun k => F k ((j + 1 : Nat) : Int)) r → Tl (fun k => F k (j : Int)) r)
    (hf : ∀ j, j < n → P j = false → Tl (fun k => F k (j : Int)) false) (he : (∀ j, j < n → P j = true) → Tl (fun k => F k (n : Int)) fin) :
    Tl (fun k => F k 0) ((List.range n).all P && fin) := by
  by_cases hall : ∀ j, j < n → P j = true
  · exact Tl.all ht hf (he hall)
  · have h1 : ((List.range n).all P) = false := by simpa using hall
    rw [h1, Bool.false_and]
    have h0 : ∃ j, j < n ∧ P j = false := by
      apply Classical.byContradiction
      intro hno
      refine hall (fun j hj => ?_)
      cases hp : P j
      · exact absurd ⟨j, hj, hp⟩ hno
      · rfl
    obtain ⟨j0, hj0, hp0⟩ := h0
    have h2 : ∃ m, m < n ∧ P m = false ∧ ∀ i, i < m → P i = true := by
      induction j0 using Nat.strongRecOn with
      | _ j0 ih =>
        by_cases hlow : ∃ i, i < j0 ∧ P i = false
        · obtain ⟨i, hi, hpi⟩ := hlow
          exact ih i hi (by omega) hpi
        · refine ⟨j0, hj0, hp0, fun i hi => ?_⟩
          cases hq : P i
          · exact absurd ⟨i, hi, hq⟩ hlow
          · rfl
    obtain ⟨m, hm, hpm, hlow⟩ := h2
    exact down (Q := fun j => Tl (fun k => F k (j : Int)) false) m (hf m hm hpm) (fun j hj h => ht j (by omega) (hlow j hj) _ h)
end Go.Proofs.Ytappbijjpcaocaa.Evs

namespace Go.Proofs.Ytappbijjpcaocaa.Print
open Go.RowKit Go.Proofs.YtappbijjpcaocaaW.PrintWords Go.Proofs.YtappbijjpcaocaaW.PrintMore Go.Proofs.Ytappbijjpcaocaa.Evs Go.Proofs.Ytappbijjpcaocaa.Opens
set_option linter.unusedSimpArgs false
set_option linter.unusedVariables false
theorem spec_in_n (a b c : Int) : spec_l1In.f a b c = some (decide (b ≤ a ∧ a ≤ c)) := by
  unfold spec_l1In.f
  by_cases h : a ≥ b
  · have h' : b ≤ a := h
    simp [h, h']
  · have h' : ¬ b ≤ a := h
    simp [h, h']
theorem impl_in_n (a b c : Int) : impl_in.f a b c = some (decide (b ≤ a ∧ a ≤ c)) := by
  unfold impl_in.f
  by_cases h : a ≥ b
  · have h' : b ≤ a := h
    simp [h, h']
  · have h' : ¬ b ≤ a := h
    simp [h, h']
theorem some_dec {a b : Bool} (h : a = true ↔ b = true) : some a = some b := by rw [Bool.eq_iff_iff.mpr h]
theorem spec_l8Node_f (n : Node) {j : Nat} (hj : j ≤ 12) : spec_l8Node.f n.f0 n.f1 n.f2 n.f3 n.f4 (j : Int) = some (okNode n (j : Int)) := by
  unfold spec_l8Node.f okNode
  simp only [spec_in_n, Option.bind_some, decide_eq_true_eq]
  rw [wrap_id (n := (j : Int) - 1) (by omega) (by omega)]
  by_cases k1 : n.f0 = 1
  · simp only [if_pos k1]
    (repeat' split) <;> (apply some_dec; simp only [beq_iff_eq, decide_eq_true_eq, Bool.false_eq_true, false_iff]; omega)
  · by_cases k2 : n.f0 = 2
    · simp only [if_neg k1, if_pos k2]
      (repeat' split) <;> (apply some_dec; simp only [beq_iff_eq, decide_eq_true_eq, Bool.false_eq_true, false_iff]; omega)
    · by_cases k3 : n.f0 = 3
      · simp only [if_neg k1, if_neg k2, if_pos k3]
        (repeat' split) <;> (apply some_dec; simp only [beq_iff_eq, decide_eq_true_eq, Bool.false_eq_true, false_iff]; omega)
      · by_cases k4 : n.f0 = 4
        · simp only [if_neg k1, if_neg k2, if_neg k3, if_pos k4]
          (repeat' split) <;> (apply some_dec; simp only [beq_iff_eq, decide_eq_true_eq, Bool.false_eq_true, false_iff]; omega)
        · simp only [if_neg k1, if_neg k2, if_neg k3, if_neg k4]
theorem impl_nodeValid_f (n : Node) {j : Nat} (hj : j ≤ 12) : impl_nodeValid.f n.f0 n.f1 n.f2 n.f3 n.f4 (j : Int) = some (okNode n (j : Int)) := by
  unfold impl_nodeValid.f okNode
  simp only [impl_in_n, Option.bind_some, decide_eq_true_eq]
  rw [wrap_id (n := (j : Int) - 1) (by omega) (by omega)]
  by_cases k1 : n.f0 = 1
  · simp only [if_pos k1]
    (repeat' split) <;> (apply some_dec; simp only [Bool.and_eq_true, beq_iff_eq, decide_eq_true_eq, Bool.false_eq_true, false_iff]; omega)
  · by_cases k2 : n.f0 = 2
    · simp only [if_neg k1, if_pos k2]
      (repeat' split) <;> (apply some_dec; simp only [Bool.and_eq_true, beq_iff_eq, decide_eq_true_eq, Bool.false_eq_true, false_iff]; omega)
    · by_cases k3 : n.f0 = 3
      · simp only [if_neg k1, if_neg k2, if_pos k3]
        (repeat' split) <;> (apply some_dec; simp only [Bool.and_eq_true, beq_iff_eq, decide_eq_true_eq, Bool.false_eq_true, false_iff]; omega)
      · by_cases k4 : n.f0 = 4
        · simp only [if_neg k1, if_neg k2, if_neg k3, if_pos k4]
          (repeat' split) <;> (apply some_dec; simp only [Bool.and_eq_true, beq_iff_eq, decide_eq_true_eq, Bool.false_eq_true, false_iff]; omega)
        · simp only [if_neg k1, if_neg k2, if_neg k3, if_neg k4]
theorem app_set {A : List Int} {n j : Nat} (hA : A.length = j) (hj : j < n) (v : Int) : (A ++ List.replicate (n - j) 0).set j v = (A ++ [v]) ++ List.replicate (n - (j + 1)) 0 := by
  obtain ⟨m, hm⟩ : ∃ m, n - j = m + 1 := ⟨n - j - 1, by omega⟩
  rw [hm, show n - (j + 1) = m by omega, List.set_append_right _ _ (by omega), hA, Nat.sub_self, List.replicate_succ, List.set_cons_zero, List.append_assoc]
  rfl
theorem app_rd {A B : List Int} {x : Int} (h0 : 0 ≤ x) (h1 : x < (A.length : Int)) : rd (A ++ B) x = A.getD x.toNat 0 := getD_app1 A B x.toNat 0 (by omega)
theorem rd_nd (l : List Node) (j : Nat) : rd_T60 l (j : Int) = nd l j := rfl
theorem mx_max (a b : Int) : mx a b = max a b := by unfold mx; split <;> omega
theorem mn_min (a b : Int) : mn a b = min a b := by unfold mn; split <;> omega
theorem wl_bd {b : Bool} {l : List Node} {j : Nat} (hu : okUp l l.length) (hl : l.length ≤ 12) (hj : j ≤ l.length) : ∀ i, i < j → 0 ≤ (wl b l j).getD i 0 ∧ (wl b l j).getD i 0 ≤ 3000000000 := by
  intro i hi
  have h1 := wl_in (b := b) j (fun i hi => hu i (by omega)) i hi
  have h2 := Bd_le (show j ≤ 12 by omega)
  omega
theorem wv_block {b : Bool} {n : Node} {o : List Int} (k : n.f0 = 1) : wv b n o = n.f1 := if_pos k
theorem wv_seq {b : Bool} {n : Node} {o : List Int} (k : n.f0 = 2) : wv b n o = o.getD n.f2.toNat 0 + o.getD n.f3.toNat 0 := by
  unfold wv; rw [if_neg (by omega), if_pos k]
theorem wv_branch {n : Node} {o : List Int} (k : n.f0 = 3) : wv true n o = n.f1 + max (o.getD n.f2.toNat 0) (o.getD n.f3.toNat 0) := by
  unfold wv; rw [if_neg (by omega), if_neg (by omega), if_pos k]; rfl
theorem wv_branchB {n : Node} {o : List Int} (k : n.f0 = 3) : wv false n o = n.f1 + min (o.getD n.f2.toNat 0) (o.getD n.f3.toNat 0) := by
  unfold wv; rw [if_neg (by omega), if_neg (by omega), if_pos k]; rfl
theorem wv_loop {n : Node} {o : List Int} (k : n.f0 = 4) : wv true n o = n.f1 + n.f4 * (n.f1 + o.getD n.f2.toNat 0) := by
  unfold wv; rw [if_neg (by omega), if_neg (by omega), if_neg (by omega), if_pos k]; rfl
theorem wv_loopB {n : Node} {o : List Int} (k : n.f0 = 4) : wv false n o = n.f1 := by
  unfold wv; rw [if_neg (by omega), if_neg (by omega), if_neg (by omega), if_pos k]; rfl
theorem loop_bd {m c x : Int} (m0 : 0 ≤ m) (m1 : m ≤ 4) (c0 : 1 ≤ c) (c1 : c ≤ 9) (x0 : 0 ≤ x) (x1 : x ≤ 3000000000) : 0 ≤ m * (c + x) ∧ m * (c + x) ≤ 12000000036 := by
  refine ⟨Int.mul_nonneg m0 (by omega), ?_⟩
  have : m * (c + x) ≤ 4 * (c + x) := Int.mul_le_mul_of_nonneg_right m1 (by omega)
  omega
theorem impl_worst_ev (l : List Node) (hu : okUp l l.length) (hl : l.length ≤ 12) : Tl (fun k => impl_worst.f k l) (wl true l l.length) := by
  unfold impl_worst.f
  refine Tl.iteT (by omega) (Tl.iteT (by omega) ?_)
  simp only [Int.toNat_natCast]
  refine down (Q := fun j => Tl (fun k => impl_worst.l0 k (wl true l j ++ List.replicate (l.length - j) 0) l (l.length : Int) (j : Int)) (wl true l l.length)) l.length ?_ ?_
  · refine Tl.step ?_
    simp only [impl_worst.l0]
    refine Tl.iteF (by omega) ?_
    rw [Nat.sub_self, List.replicate_zero, List.append_nil]
    exact Tl.ret _
  · intro j hj hh
    have hb := wl_bd (b := true) hu hl (show j ≤ l.length by omega)
    have hA := wl_len true l j
    have hlen : (wl true l j ++ List.replicate (l.length - j) 0).length = l.length := by simp [hA]; omega
    have hn := okNode_is (hu j hj)
    rw [wl_succ] at hh
    refine Tl.step ?_
    simp only [impl_worst.l0, rd_nd, Int.toNat_natCast]
    generalize wl true l j = A at hb hA hlen hh ⊢
    rw [wrap_succ hj (by omega)]
    refine Tl.iteT (by omega) (Tl.iteT (by omega) (Tl.iteT (by omega) ?_))
    cases hn with
    | block k c0 c1 =>
      rw [wv_block k] at hh
      refine Tl.iteT k (Tl.iteT (by omega) ?_)
      rw [app_set hA hj]
      exact hh
    | seq k c a0 a1 b0 b1 =>
      have h1 := hb (nd l j).f2.toNat (by omega)
      have h2 := hb (nd l j).f3.toNat (by omega)
      rw [wv_seq k] at hh
      refine Tl.iteF (by omega) (Tl.iteT k (Tl.iteT a0 (Tl.iteT (by omega) (Tl.iteT b0 (Tl.iteT (by omega) (Tl.iteT (by omega) ?_))))))
      rw [app_set hA hj, app_rd a0 (by omega), app_rd b0 (by omega), wrap_id (by omega) (by omega)]
      exact hh
    | branch k c0 c1 a0 a1 b0 b1 =>
      have h1 := hb (nd l j).f2.toNat (by omega)
      have h2 := hb (nd l j).f3.toNat (by omega)
      rw [wv_branch k] at hh
      refine Tl.iteF (by omega) (Tl.iteF (by omega) (Tl.iteT k (Tl.iteT a0 (Tl.iteT (by omega) (Tl.iteT b0 (Tl.iteT (by omega) (Tl.iteT (by omega) ?_)))))))
      rw [app_set hA hj, app_rd a0 (by omega), app_rd b0 (by omega), mx_max, wrap_id (by omega) (by omega)]
      exact hh
    | loop k c0 c1 a0 a1 m0 m1 =>
      have h1 := hb (nd l j).f2.toNat (by omega)
      have h3 := loop_bd m0 m1 c0 c1 h1.1 h1.2
      rw [wv_loop k] at hh
      refine Tl.iteF (by omega) (Tl.iteF (by omega) (Tl.iteF (by omega) (Tl.iteT k (Tl.iteT a0 (Tl.iteT (by omega) (Tl.iteT (by omega) ?_))))))
      rw [app_set hA hj, app_rd a0 (by omega), wrap_id (n := (nd l j).f1 + A.getD (nd l j).f2.toNat 0) (by omega) (by omega), wrap_id (n := (nd l j).f4 * _) (by omega) (by omega), wrap_id (by omega) (by omega)]
      exact hh
theorem rd_cut {A : List Int} {x : Int} (h0 : 0 ≤ x) : rd (A.map cut) x = cut (A.getD x.toNat 0) := getD_cut A x.toNat
theorem cut_bd {x : Int} (h : 0 ≤ x) : 0 ≤ cut x ∧ cut x ≤ 601 := by unfold cut; omega
theorem spec_Costs_ev (b : Bool) (l : List Node) (hu : okUp l l.length) (hl : l.length ≤ 12) : Tl (fun k => spec_l8Costs.f k l b) ((wl b l l.length).map cut) := by
  unfold spec_l8Costs.f
  refine down (Q := fun j => Tl (fun k => spec_l8Costs.l0 k l b ((wl b l j).map cut) (j : Int)) ((wl b l l.length).map cut)) l.length ?_ ?_
  · refine Tl.step ?_
    simp only [spec_l8Costs.l0]
    exact Tl.iteF (by omega) (Tl.ret _)
  · intro j hj hh
    have hb := wl_bd (b := b) hu hl (show j ≤ l.length by omega)
    have hA := wl_len b l j
    have hn := okNode_is (hu j hj)
    rw [wl_succ, List.map_append, List.map_singleton, ← cut_wv hn (fun i hi => (hb i hi).1)] at hh
    refine Tl.step ?_
    simp only [spec_l8Costs.l0, rd_nd, Int.toNat_natCast]
    have hlen : ((wl b l j).map cut).length = j := by rw [List.length_map]; exact hA
    have hc : ∀ i, i < j → 0 ≤ ((wl b l j).map cut).getD i 0 ∧ ((wl b l j).map cut).getD i 0 ≤ 601 := fun i hi => by rw [getD_cut]; exact cut_bd (hb i hi).1
    generalize (wl b l j).map cut = A at hlen hc hh ⊢
    clear hb hA
    rw [wrap_succ hj (by omega)]
    have ha : ∀ x : Int, cut x = mn x 601 := fun x => by rw [mn_min]; rfl
    have hr : ∀ x : Int, rd A x = A.getD x.toNat 0 := fun _ => rfl
    simp only [hr]
    refine Tl.iteT (by omega) (Tl.iteT (by omega) ?_)
    cases hn with
    | block k c0 c1 =>
      rw [wv_block k, ha] at hh
      exact Tl.iteF (by omega) (Tl.iteF (by omega) (Tl.iteF (by omega) (Tl.iteT (by omega) hh)))
    | seq k c a0 a1 b0 b1 =>
      have h1 := hc (nd l j).f2.toNat (by omega)
      have h2 := hc (nd l j).f3.toNat (by omega)
      rw [wv_seq k, ha] at hh
      refine Tl.iteT k (Tl.iteT a0 (Tl.iteT (by omega) (Tl.iteT b0 (Tl.iteT (by omega) (Tl.iteT (by omega) ?_)))))
      rw [wrap_id (by omega) (by omega)]
      exact hh
    | branch k c0 c1 a0 a1 b0 b1 =>
      have h1 := hc (nd l j).f2.toNat (by omega)
      have h2 := hc (nd l j).f3.toNat (by omega)
      cases b with
      | true =>
        rw [wv_branch k, ha] at hh
        refine Tl.iteF (by omega) (Tl.iteT k (Tl.iteT rfl (Tl.iteT a0 (Tl.iteT (by omega) (Tl.iteT b0 (Tl.iteT (by omega) (Tl.iteT (by omega) ?_)))))))
        rw [mx_max, wrap_id (by omega) (by omega)]
        exact hh
      | false =>
        rw [wv_branchB k, ha] at hh
        refine Tl.iteF (by omega) (Tl.iteT k (Tl.iteF (by simp) (Tl.iteT a0 (Tl.iteT (by omega) (Tl.iteT b0 (Tl.iteT (by omega) (Tl.iteT (by omega) ?_)))))))
        rw [mn_min (A.getD (nd l j).f2.toNat 0), wrap_id (by omega) (by omega)]
        exact hh
    | loop k c0 c1 a0 a1 m0 m1 =>
      have h1 := hc (nd l j).f2.toNat (by omega)
      cases b with
      | true =>
        have h3 := loop_bd m0 m1 c0 c1 h1.1 (by omega)
        rw [wv_loop k, ha] at hh
        refine Tl.iteF (by omega) (Tl.iteF (by omega) (Tl.iteT k (Tl.iteT rfl (Tl.iteT a0 (Tl.iteT (by omega) (Tl.iteT (by omega) ?_))))))
        rw [wrap_id (n := (nd l j).f1 + A.getD (nd l j).f2.toNat 0) (by omega) (by omega), wrap_id (n := (nd l j).f4 * _) (by omega) (by omega), wrap_id (by omega) (by omega)]
        exact hh
      | false =>
        rw [wv_loopB k, ha] at hh
        exact Tl.iteF (by omega) (Tl.iteF (by omega) (Tl.iteT k (Tl.iteF (by simp) (Tl.iteT (by omega) hh))))
theorem wrap_last {n : Nat} (h0 : 1 ≤ n) (h1 : n ≤ 12) : wrap64 ((n : Int) - 1) = ((n - 1 : Nat) : Int) := by rw [wrap_id (by omega) (by omega)]; omega
theorem okUp_all {l : List Node} (h : (List.range l.length).all (fun j => okNode (nd l j) (j : Int)) = true) : okUp l l.length := by
  intro j hj
  rw [List.all_eq_true] at h
  exact h j (by simpa using hj)
theorem rd_nat (o : List Int) (j : Nat) : rd o (j : Int) = o.getD j 0 := rfl
theorem impl_ProgramValid_ev (l : List Node) (hl0 : l.length ≤ 1048576) : Tl (fun k => impl_ProgramValid.f k l) (okProg l) := by
  unfold impl_ProgramValid.f okProg
  refine Tl.bind (Tl.of_eq fun _ => impl_in_n _ _ _) ?_
  by_cases hl : 1 ≤ l.length ∧ l.length ≤ 12
  · rw [decide_eq_true hl, Bool.true_and]
    refine Tl.iteT (by rw [decide_eq_true_eq]; omega) ?_
    refine Tl.all' (F := fun k i => impl_ProgramValid.l0 k l l (l.length : Int) i) ?_ ?_ ?_
    · intro j hj hp r hh
      refine Tl.step ?_
      simp only [impl_ProgramValid.l0, rd_nd, Int.toNat_natCast]
      rw [impl_nodeValid_f _ (show j ≤ 12 by omega), wrap_succ hj (by omega)]
      exact Tl.iteT (by omega) (Tl.iteT (by omega) (Tl.iteT (by omega) (Tl.iteT hp hh)))
    · intro j hj hp
      refine Tl.step ?_
      simp only [impl_ProgramValid.l0, rd_nd, Int.toNat_natCast]
      rw [impl_nodeValid_f _ (show j ≤ 12 by omega)]
      exact Tl.iteT (by omega) (Tl.iteT (by omega) (Tl.iteT (by omega) (Tl.iteF (by simp only [hp]; simp) (Tl.ret _))))
    · intro hu
      refine Tl.step ?_
      simp only [impl_ProgramValid.l0]
      have hw := wl_len true l l.length
      rw [wrap_last hl.1 hl.2]
      refine Tl.iteF (by omega) (Tl.bind (impl_worst_ev l hu hl.2) (Tl.iteT (by omega) (Tl.iteT (by omega) ?_)))
      rw [rd_nat]
      exact Tl.ret _
  · rw [decide_eq_false hl, Bool.false_and]
    exact Tl.iteF (by rw [decide_eq_true_eq]; omega) (Tl.ret _)
theorem cut_600 (x : Int) : (cut x ≤ 600) = (x ≤ 600) := by unfold cut; rw [eq_iff_iff]; omega
theorem spec_ProgramValid_ev (l : List Node) (hl0 : l.length ≤ 1048576) : Tl (fun k => spec_ProgramValid.f k l) (okProg l) := by
  unfold spec_ProgramValid.f okProg
  refine Tl.bind (Tl.of_eq fun _ => spec_in_n _ _ _) ?_
  by_cases hl : 1 ≤ l.length ∧ l.length ≤ 12
  · rw [decide_eq_true hl, Bool.true_and]
    refine Tl.iteT (by rw [decide_eq_true_eq]; omega) ?_
    refine Tl.all' (F := fun k i => spec_ProgramValid.l0 k l i) ?_ ?_ ?_
    · intro j hj hp r hh
      refine Tl.step ?_
      simp only [spec_ProgramValid.l0, rd_nd, Int.toNat_natCast]
      rw [spec_l8Node_f _ (show j ≤ 12 by omega), wrap_succ hj (by omega)]
      exact Tl.iteT (by omega) (Tl.iteT (by omega) (Tl.iteT hp hh))
    · intro j hj hp
      refine Tl.step ?_
      simp only [spec_ProgramValid.l0, rd_nd, Int.toNat_natCast]
      rw [spec_l8Node_f _ (show j ≤ 12 by omega)]
      exact Tl.iteT (by omega) (Tl.iteT (by omega) (Tl.iteF (by simp only [hp]; simp) (Tl.ret _)))
    · intro hu
      refine Tl.step ?_
      simp only [spec_ProgramValid.l0]
      have hw := wl_len true l l.length
      rw [wrap_last hl.1 hl.2]
      refine Tl.iteF (by omega) (Tl.bind (spec_Costs_ev true l hu hl.2) (Tl.iteT (by omega) (Tl.iteT (by rw [List.length_map]; omega) ?_)))
      rw [rd_nat, getD_cut]
      simp only [cut_600]
      exact Tl.ret _
  · rw [decide_eq_false hl, Bool.false_and]
    exact Tl.iteF (by rw [decide_eq_true_eq]; omega) (Tl.ret _)
theorem okProg_all {l : List Node} (h : okProg l = true) : (1 ≤ l.length ∧ l.length ≤ 12) ∧ okUp l l.length ∧ (wl true l l.length).getD (l.length - 1) 0 ≤ 600 := by
  unfold okProg at h
  rw [Bool.and_eq_true, Bool.and_eq_true, decide_eq_true_eq, decide_eq_true_eq] at h
  exact ⟨h.1, okUp_all h.2.1, h.2.2⟩

theorem okProg_run {l : List Node} (h : okProg l = true) : rnOk l = true := by
  obtain ⟨hl, hu, _⟩ := okProg_all h
  unfold rnOk
  rw [Bool.and_eq_true, List.all_eq_true]
  refine ⟨decide_eq_true hl, fun i hi => decide_eq_true ?_⟩
  have hn := hu i (List.mem_range.1 hi)
  have e : xnd l i = nd l i := rfl
  rw [e]
  generalize nd l i = n at hn
  unfold ndOk
  cases okNode_is hn with
  | block k c0 c1 => exact ⟨.inl k, fun g => by omega, fun g => by omega, fun g => by omega⟩
  | seq k c a0 a1 b0 b1 => exact ⟨.inr (.inl k), fun g => ⟨a0, a1, b0, b1⟩, fun g => by omega, fun g => by omega⟩
  | branch k c0 c1 a0 a1 b0 b1 => exact ⟨.inr (.inr (.inl k)), fun g => by omega, fun g => ⟨a0, a1, b0, b1⟩, fun g => by omega⟩
  | loop k c0 c1 a0 a1 m0 m1 => exact ⟨.inr (.inr (.inr k)), fun g => by omega, fun g => by omega, fun g => ⟨a0, a1, m0, m1⟩⟩
def runD (l : List Node) (s : List Int) : Int := if okProg l = true then runV l s else -1
theorem impl_RunProgram_ev (l : List Node) (s : List Int) (hl0 : l.length ≤ 1048576) (hs : s.length ≤ 1048576) : Tl (fun k => impl_RunProgram.f k l s) (runD l s) := by
  unfold impl_RunProgram.f runD
  refine Tl.bind (impl_ProgramValid_ev l hl0) ?_
  by_cases h : okProg l = true
  · exact Tl.cast (Tl.iteT h (Tl.iteT (okProg_run h) (Tl.ret _))) (if_pos h).symm
  · exact Tl.cast (Tl.iteF h (Tl.ret _)) (if_neg h).symm
theorem spec_RunProgram_ev (l : List Node) (s : List Int) (hl0 : l.length ≤ 1048576) (hs : s.length ≤ 1048576) : Tl (fun k => spec_RunProgram.f k l s) (runD l s) := by
  unfold spec_RunProgram.f runD
  refine Tl.bind (spec_ProgramValid_ev l hl0) ?_
  by_cases h : okProg l = true
  · exact Tl.cast (Tl.iteT h (Tl.iteT (okProg_run h) (Tl.ret _))) (if_pos h).symm
  · exact Tl.cast (Tl.iteF h (Tl.ret _)) (if_neg h).symm
end Go.Proofs.Ytappbijjpcaocaa.Print

namespace Go.Proofs.Ytappbijjpcaocaa.Print
open Go.RowKit Go.Proofs.YtappbijjpcaocaaW.PrintWords Go.Proofs.Ytappbijjpcaocaa.Evs Go.Proofs.Ytappbijjpcaocaa.Opens
set_option linter.unusedSimpArgs false
theorem eqIntS_ev (l : List Int) (hl : l.length ≤ 1048576) : Tl (fun k => laws_eqIntS.f k l l) true := by
  unfold laws_eqIntS.f
  simp only [if_true]
  refine down (Q := fun j => Tl (fun k => laws_eqIntS.l0 k l l (j : Int)) true) l.length ?_ ?_
  · refine Tl.step ?_
    have c3 := eq_false (show ¬ ((l.length : Int) < (l.length : Int)) by omega)
    simp only [laws_eqIntS.l0, c3, if_false]
    exact Tl.ret _
  · intro j hj h
    refine Tl.step ?_
    have c3 := eq_true (show (j : Int) < (l.length : Int) by omega)
    have c4 := eq_true (show 0 ≤ (j : Int) by omega)
    simp only [laws_eqIntS.l0, c3, c4, if_true]
    rw [wrap_succ hj (by omega)]
    exact h

theorem toIntS_ev (l : List Int) (hl : l.length ≤ 1048576) : Tl (fun k => laws_toIntS.f k l) l := by
  unfold laws_toIntS.f
  have c1 := eq_true (show 0 ≤ (l.length : Int) by omega)
  have c2 := eq_true (show l.length ≤ 35184372088832 by omega)
  simp only [c1, c2, if_true, Int.toNat_natCast]
  have key := down (Q := fun j => Tl (fun k => laws_toIntS.l0 k l (l.take j ++ List.replicate (l.length - j) 0) (j : Int)) l) l.length ?_ ?_
  · rw [fill_zero] at key; exact key
  · refine Tl.step ?_
    have c3 := eq_false (show ¬ ((l.length : Int) < (l.length : Int)) by omega)
    rw [fill_end]
    simp only [laws_toIntS.l0, c3, if_false]
    exact Tl.ret _
  · intro j hj h
    refine Tl.step ?_
    have c3 := eq_true (show (j : Int) < (l.length : Int) by omega)
    have c4 := eq_true (show 0 ≤ (j : Int) by omega)
    have c5 := eq_true (show (j : Int) < ((l.take j ++ List.replicate (l.length - j) 0).length : Int) by rw [fill_len _ _ (by omega)]; omega)
    simp only [laws_toIntS.l0, c3, c4, c5, if_true, Int.toNat_natCast]
    rw [fill_set l 0 hj (rd l (j : Int)) rfl, wrap_succ hj (by omega)]
    exact h
end Go.Proofs.Ytappbijjpcaocaa.Print

namespace Go.Proofs.Ytappbijjpcaocaa.Print
open Go.RowKit Go.Proofs.YtappbijjpcaocaaW.PrintWords Go.Proofs.Ytappbijjpcaocaa.Evs Go.Proofs.Ytappbijjpcaocaa.Opens
set_option linter.unusedSimpArgs false
set_option linter.unusedVariables false
set_option maxHeartbeats 1000000 in
theorem FnExactRunProgram_pure : PureFnExactRunProgram := by
  intro x0 x1 w0 w1
  apply Tl.once
  unfold laws_FnExactRunProgram.f
  by_cases g1 : (x1.length : Int) > 1048576
  · exact Tl.iteT g1 (Tl.ret _)
  refine Tl.iteF g1 ?_
  refine Tl.bind (Tl.of_eq fun _ => szNodeS_f x0 _ (by omega) (by omega) w0.1) ?_
  by_cases g0 : (1048576 : Int) < x0.length
  · rw [if_pos g0]; exact Tl.iteT (by omega) (Tl.ret _)
  rw [if_neg g0]
  refine Tl.iteF (by omega) ?_
  have hl0 : x0.length ≤ 1048576 := by omega
  have hm0 : (x0.map cvNode).length ≤ 1048576 := by simpa using hl0
  have hl1 : x1.length ≤ 1048576 := by omega
  have hm1 : x1.length ≤ 1048576 := by simpa using hl1
  have HS := spec_RunProgram_ev (x0.map cvNode) x1 hm0 hm1
  have HI := impl_RunProgram_ev (x0.map cvNode) x1 hm0 hm1
  repeat (first
    | exact Tl.ret _
    | with_reducible refine Tl.bind (toNodeS_ev x0 hl0) ?_
    | with_reducible refine Tl.bind (eqNodeS_ev (x0.map cvNode) hm0) ?_
    | with_reducible refine Tl.bind (toIntS_ev x1 hl1) ?_
    | with_reducible refine Tl.bind (eqIntS_ev x1 hm1) ?_
    | with_reducible refine Tl.bind HS ?_
    | with_reducible refine Tl.bind HI ?_
    | with_reducible refine Tl.iteT rfl ?_
    | with_reducible refine Tl.iteF (by simp) ?_
    | dsimp only)
end Go.Proofs.Ytappbijjpcaocaa.Print
