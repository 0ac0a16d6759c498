/- The first place of a number in a row. No condition. -/
import Derived.Test.YtappbijjpcaocaaEv
import Derived.Test.YtappbijjpcaocaaLst
namespace Go.Proofs.Ytappbijjpcaocaa.Evs
set_option linter.unusedSimpArgs false
set_option linter.unusedVariables false
/-- The first place from j on, among n. -/
def idxN (o : List Int) (v : Int) : Nat → Nat → Int
  | 0, _ => -1
  | n + 1, j => if o.getD j 0 = v then (j : Int) else idxN o v n (j + 1)
def idx (o : List Int) (v : Int) : Int := idxN o v o.length 0
theorem idxN_spec (o : List Int) (v : Int) : ∀ (n j : Nat), (idxN o v n j = -1 ∧ ∀ i, j ≤ i → i < j + n → o.getD i 0 ≠ v) ∨ (∃ i, j ≤ i ∧ i < j + n ∧ idxN o v n j = (i : Int) ∧ o.getD i 0 = v ∧ ∀ i', j ≤ i' → i' < i → o.getD i' 0 ≠ v)
  | 0, j => .inl ⟨rfl, fun i h1 h2 => by omega⟩
  | n + 1, j => by
    unfold idxN
    by_cases hc : o.getD j 0 = v
    · rw [if_pos hc]
      exact .inr ⟨j, Nat.le_refl _, by omega, rfl, hc, fun i' h1 h2 => by omega⟩
    · rw [if_neg hc]
      rcases idxN_spec o v n (j + 1) with ⟨h1, h2⟩ | ⟨i, h1, h2, h3, h4, h5⟩
      · refine .inl ⟨h1, fun i h3 h4 => ?_⟩
        rcases Nat.lt_or_ge j i with h | h
        · exact h2 i h (by omega)
        · obtain rfl : i = j := by omega
          exact hc
      · refine .inr ⟨i, by omega, by omega, h3, h4, fun i' h6 h7 => ?_⟩
        rcases Nat.lt_or_ge j i' with h | h
        · exact h5 i' h h7
        · obtain rfl : i' = j := by omega
          exact hc
theorem idx_spec (o : List Int) (v : Int) : (idx o v = -1 ∧ ∀ i, i < o.length → o.getD i 0 ≠ v) ∨ (∃ i, i < o.length ∧ idx o v = (i : Int) ∧ o.getD i 0 = v ∧ ∀ i', i' < i → o.getD i' 0 ≠ v) := by
  rcases idxN_spec o v o.length 0 with ⟨h1, h2⟩ | ⟨i, h1, h2, h3, h4, h5⟩
  · exact .inl ⟨h1, fun i h => h2 i (by omega) (by omega)⟩
  · exact .inr ⟨i, by omega, h3, h4, fun i' h => h5 i' (by omega) h⟩
theorem take_at (o : List Int) {i j : Nat} (h : i < j) : (o.take j).getD i 0 = o.getD i 0 := by
  simp [List.getD_eq_getElem?_getD, List.getElem?_take, h]
theorem idx_first {o : List Int} {j : Nat} (hj : j < o.length) : idx o (o.getD j 0) = (j : Int) ↔ idx (o.take j) (o.getD j 0) < 0 := by
  have hl : (o.take j).length = j := by simp; omega
  rcases idx_spec (o.take j) (o.getD j 0) with ⟨h1, h2⟩ | ⟨i, h1, h2, h3, h4⟩
  · constructor
    · intro _; omega
    · intro _
      rcases idx_spec o (o.getD j 0) with ⟨g1, g2⟩ | ⟨i, g1, g2, g3, g4⟩
      · exact absurd rfl (g2 j hj)
      · rw [g2]
        rcases Nat.lt_or_ge i j with h | h
        · exact absurd (by rw [take_at o h]; exact g3) (h2 i (by omega))
        · rcases Nat.lt_or_ge j i with h' | h'
          · exact absurd rfl (g4 j h')
          · omega
  · rw [hl] at h1
    rw [take_at o h1] at h3
    constructor
    · intro h
      rcases idx_spec o (o.getD j 0) with ⟨g1, g2⟩ | ⟨i', g1, g2, g3, g4⟩
      · omega
      · exact absurd h3 (g4 i (by omega))
    · intro h; omega
/-- A loop that looks for the first place. -/
theorem Tl.idxN {F : Nat → Int → Option Int} {o : List Int} {v : Int}
    (ht : ∀ j, j < o.length → o.getD j 0 ≠ v → ∀ r, Tl (fun k => F k ((j + 1 : Nat) : Int)) r → Tl (fun k => F k (j : Int)) r)
    (hf : ∀ j, j < o.length → o.getD j 0 = v → Tl (fun k => F k (j : Int)) (j : Int)) (he : Tl (fun k => F k (o.length : Int)) (-1)) :
    ∀ (n j : Nat), j + n = o.length → Tl (fun k => F k (j : Int)) (idxN o v n j)
  | 0, j, e => by obtain rfl : j = o.length := by omega
                  exact he
  | n + 1, j, e => by
    unfold Evs.idxN
    by_cases hc : o.getD j 0 = v
    · rw [if_pos hc]; exact hf j (by omega) hc
    · rw [if_neg hc]; exact ht j (by omega) hc _ (Tl.idxN ht hf he n (j + 1) (by omega))
end Go.Proofs.Ytappbijjpcaocaa.Evs
