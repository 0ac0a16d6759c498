/- What the program and the reference compute, and that both agree. No condition. -/
import Derived.Test.YtfciajbahgjflaaPO
import Derived.Test.YtfciajbahgjflaaZFnExactGlobalMissedP2
import Derived.RowKit
import Derived.WalkKit
import Derived.Test.YtfciajbahgjflaaZFnExactGlobalMissedP0
import Derived.Test.YtfciajbahgjflaaZFnExactGlobalMissedP1
namespace Go.Proofs.Ytfciajbahgjflaa.Print
open Go.RowKit Go.Proofs.YtfciajbahgjflaaW.PrintWords Go.Proofs.YtfciajbahgjflaaW.PrintLast Go.Proofs.YtfciajbahgjflaaW.PrintMore
attribute [local go_sem] max2_int min2_int max_two min_two max_three min_three max_four min_four   -- for this text's walks alone
set_option linter.unusedVariables false
set_option linter.unusedSimpArgs false

open Go.Proofs.Ytfciajbahgjflaa.Opens
/-- The pure statement of FnExactGlobalMissed. -/
def PureFnExactGlobalMissed : Prop := ∀ (x0 : List (S79)) (x1 : S62), (wfL wf79) x0 → wf62 x1 → ∃ k, laws_FnExactGlobalMissed.f k x0 x1.f0 x1.f1 = some true
end Go.Proofs.Ytfciajbahgjflaa.Print

namespace Go.Proofs.Ytfciajbahgjflaa.Evs
open Go.RowKit
set_option linter.unusedSimpArgs false
set_option linter.unusedVariables false

/-- From some number of rounds on, g tells r. -/
def Tl {α : Type} (g : Nat → Option α) (r : α) : Prop := ∃ k0, ∀ k, k0 ≤ k → g k = some r

theorem Tl.ret {α : Type} (r : α) : Tl (fun _ => some r) r := ⟨0, fun _ _ => rfl⟩
theorem Tl.of_eq {α : Type} {g : Nat → Option α} {r : α} (h : ∀ k, g k = some r) : Tl g r := ⟨0, fun k _ => h k⟩
theorem Tl.step {α : Type} {g : Nat → Option α} {r : α} (h : Tl (fun k => g (k + 1)) r) : Tl g r := by
  obtain ⟨k0, hk⟩ := h
  refine ⟨k0 + 1, fun k hle => ?_⟩
  obtain ⟨m, rfl⟩ : ∃ m, k = m + 1 := ⟨k - 1, by omega⟩
  exact hk m (by omega)
theorem Tl.bind {α β : Type} {g : Nat → Option α} {a : α} {f : α → Nat → Option β} {r : β} (h : Tl g a) (h2 : Tl (f a) r) : Tl (fun k => (g k).bind fun x => f x k) r := by
  obtain ⟨k0, hk⟩ := h
  obtain ⟨k1, hk1⟩ := h2
  refine ⟨max k0 k1, fun k hle => ?_⟩
  show (g k).bind (fun x => f x k) = some r
  rw [hk k (by omega), Option.bind_some]
  exact hk1 k (by omega)
theorem Tl.once {α : Type} {g : Nat → Option α} {r : α} (h : Tl g r) : ∃ k, g k = some r := by
  obtain ⟨k0, hk⟩ := h
  exact ⟨k0, hk k0 (Nat.le_refl _)⟩
theorem Tl.cast {α : Type} {g : Nat → Option α} {r r' : α} (h : Tl g r) (e : r = r') : Tl g r' := e ▸ h
theorem Tl.iteT {α : Type} {c : Prop} [Decidable c] {g g' : Nat → Option α} {r : α} (hc : c) (h : Tl g r) : Tl (fun k => if c then g k else g' k) r := by simpa only [if_pos hc] using h
theorem Tl.iteF {α : Type} {c : Prop} [Decidable c] {g g' : Nat → Option α} {r : α} (hc : ¬ c) (h : Tl g' r) : Tl (fun k => if c then g k else g' k) r := by simpa only [if_neg hc] using h

/-- Downwards. -/
theorem down {Q : Nat → Prop} (n : Nat) (he : Q n) (hs : ∀ j, j < n → Q (j + 1) → Q j) : Q 0 := by
  induction n with
  | zero => exact he
  | succ n ih => exact ih (hs n (by omega) he) (fun j hj => hs j (by omega))
theorem downFrom {Q : Nat → Prop} {m n : Nat} (hm : m ≤ n) (he : Q n) (hs : ∀ j, m ≤ j → j < n → Q (j + 1) → Q j) : Q m := by
  obtain ⟨d, rfl⟩ : ∃ d, n = m + d := ⟨n - m, by omega⟩
  induction d with
  | zero => exact he
  | succ d ih => exact ih (by omega) (hs (m + d) (by omega) (by omega) he) (fun j h1 h2 => hs j h1 (by omega))

/-- A loop that asks something of each index, and stops at the first 'no'. -/
theorem Tl.all {F : Nat → Int → Option Bool} {n : Nat} {P : Nat → Bool} {fin : Bool}
    (ht : ∀ j, j < n → P j = true → ∀ r, Tl (fun k => F k ((j + 1 : Nat) : Int)) r → Tl (fun k => F k (j : Int)) r)
    (hf : ∀ j, j < n → P j = false → Tl (fun k => F k (j : Int)) false) (he : Tl (fun k => F k (n : Int)) fin) :
    Tl (fun k => F k 0) ((List.range n).all P && fin) := by
  by_cases hall : ∀ j, j < n → P j = true
  · have h1 : ((List.range n).all P) = true := by simpa using hall
    rw [h1, Bool.true_and]
    exact down (Q := fun j => Tl (fun k => F k (j : Int)) fin) n he (fun j hj h => ht j hj (hall j hj) _ h)
  · have h1 : ((List.range n).all P) = false := by simpa using hall
    rw [h1, Bool.false_and]
    clear h1
    have key : ∀ m, m ≤ n → (∃ j, j < m ∧ P j = false) → Tl (fun k => F k 0) false := by
      intro m
      induction m with
      | zero => rintro _ ⟨j, hj, _⟩; omega
      | succ m ih =>
        rintro hm ⟨j, hj, hp⟩
        by_cases hlow : ∃ j, j < m ∧ P j = false
        · exact ih (by omega) hlow
        · have hjm : j = m := by
            rcases Nat.lt_or_ge j m with h | h
            · exact absurd ⟨j, h, hp⟩ hlow
            · omega
          subst hjm
          refine down (Q := fun j => Tl (fun k => F k (j : Int)) false) j (hf j (by omega) hp) (fun i hi h => ht i (by omega) ?_ _ h)
          cases hpi : P i
          · exact absurd ⟨i, hi, hpi⟩ hlow
          · rfl
    refine key n (Nat.le_refl _) ?_
    apply Classical.byContradiction
    intro hno
    refine hall (fun j hj => ?_)
    cases hp : P j
    · exact absurd ⟨j, hj, hp⟩ hno
    · rfl

theorem wrap_id {n : Int} (h1 : -9223372036854775808 ≤ n) (h2 : n ≤ 9223372036854775807) : wrap64 n = n := by unfold wrap64; omega
theorem wrap_succ {j n : Nat} (h : j < n) (hn : n ≤ 9223372036854775807) : wrap64 ((j : Int) + 1) = ((j + 1 : Nat) : Int) := by unfold wrap64; omega
theorem wrap_pred {j n : Nat} (h : j < n) (h0 : 0 < j) (hn : n ≤ 9223372036854775807) : wrap64 ((j : Int) - 1) = ((j - 1 : Nat) : Int) := by unfold wrap64; omega
end Go.Proofs.Ytfciajbahgjflaa.Evs

namespace Go.Proofs.Ytfciajbahgjflaa.Evs
theorem fill_zero {α : Type} (xs : List α) (z : α) : xs.take 0 ++ List.replicate (xs.length - 0) z = List.replicate xs.length z := by simp
theorem fill_set {α : Type} (xs : List α) (z : α) {j : Nat} (hj : j < xs.length) (x : α) (hx : x = xs.getD j z) :
    (xs.take j ++ List.replicate (xs.length - j) z).set j x = xs.take (j + 1) ++ List.replicate (xs.length - (j + 1)) z := by
  have h1 : (xs.take j).length = j := by simp; omega
  rw [List.set_append_right _ _ (by omega), h1, Nat.sub_self]
  obtain ⟨m, hm⟩ : ∃ m, xs.length - j = m + 1 := ⟨xs.length - j - 1, by omega⟩
  rw [hm, List.replicate_succ, List.set_cons_zero, List.take_succ_eq_append_getElem hj, List.append_assoc, hx]
  have h2 : xs.length - (j + 1) = m := by omega
  rw [h2]
  simp [List.getD_eq_getElem?_getD, hj]
theorem fill_len {α : Type} (xs : List α) (z : α) {j : Nat} (hj : j ≤ xs.length) : (xs.take j ++ List.replicate (xs.length - j) z).length = xs.length := by simp; omega
theorem fill_end {α : Type} (xs : List α) (z : α) : xs.take xs.length ++ List.replicate (xs.length - xs.length) z = xs := by simp
theorem getD_map {α β : Type} (f : α → β) (l : List α) (j : Nat) (z : α) (z' : β) (hj : j < l.length) : (l.map f).getD j z' = f (l.getD j z) := by simp [List.getD_eq_getElem?_getD, hj]
theorem all_range {α : Type} (l : List α) (z : α) (p : α → Bool) : (List.range l.length).all (fun j => p (l.getD j z)) = l.all p := by
  rw [Bool.eq_iff_iff, List.all_eq_true, List.all_eq_true]
  constructor
  · intro h x hx
    obtain ⟨i, hi, rfl⟩ := List.getElem_of_mem hx
    have := h i (by simpa using hi)
    simpa [List.getD_eq_getElem?_getD, hi] using this
  · intro h j hj
    have hj' : j < l.length := by simpa using hj
    have := h l[j] (List.getElem_mem hj')
    simpa [List.getD_eq_getElem?_getD, hj'] using this
end Go.Proofs.Ytfciajbahgjflaa.Evs

namespace Go.Proofs.Ytfciajbahgjflaa.Print
open Go.RowKit Go.Proofs.YtfciajbahgjflaaW.PrintWords Go.Proofs.Ytfciajbahgjflaa.Evs Go.Proofs.Ytfciajbahgjflaa.Opens
set_option linter.unusedSimpArgs false
abbrev Job := S77
theorem eqJob_self (x : Job) : laws_eqJob.f x.f0 x.f1 x.f2 x.f3 x.f0 x.f1 x.f2 x.f3 = some true := by simp [laws_eqJob.f]
theorem eqJobS_ev (l : List Job) (hl : l.length ≤ 1048576) : Tl (fun k => laws_eqJobS.f k l l) true := by
  unfold laws_eqJobS.f
  simp only [if_true]
  refine down (Q := fun j => Tl (fun k => laws_eqJobS.l0 k l l (j : Int)) true) l.length ?_ ?_
  · refine Tl.step ?_
    have c3 := eq_false (show ¬ ((l.length : Int) < (l.length : Int)) by omega)
    simp only [laws_eqJobS.l0, c3, if_false]
    exact Tl.ret _
  · intro j hj h
    refine Tl.step ?_
    have c3 := eq_true (show (j : Int) < (l.length : Int) by omega)
    have c4 := eq_true (show 0 ≤ (j : Int) by omega)
    simp only [laws_eqJobS.l0, c3, c4, if_true, eqJob_self, Option.bind_some]
    rw [wrap_succ hj (by omega)]
    exact h

abbrev LJob := S79
def cvJob (x : LJob) : Job := ⟨x.f0, x.f1, x.f2, x.f3⟩
theorem toJobS_ev (l : List LJob) (hl : l.length ≤ 1048576) : Tl (fun k => laws_toJobS.f k l) (l.map cvJob) := by
  unfold laws_toJobS.f
  have c1 := eq_true (show 0 ≤ (l.length : Int) by omega)
  have c2 := eq_true (show l.length ≤ 8796093022208 by omega)
  simp only [c1, c2, if_true, Int.toNat_natCast]
  have hlen : (l.map cvJob).length = l.length := by simp
  have key := down (Q := fun j => Tl (fun k => laws_toJobS.l0 k l ((l.map cvJob).take j ++ List.replicate ((l.map cvJob).length - j) z77) (j : Int)) (l.map cvJob)) l.length ?_ ?_
  · rw [fill_zero, hlen] at key; exact key
  · refine Tl.step ?_
    have c3 := eq_false (show ¬ ((l.length : Int) < (l.length : Int)) by omega)
    rw [← hlen, fill_end]
    simp only [hlen]
    simp only [laws_toJobS.l0, c3, if_false]
    exact Tl.ret _
  · intro j hj h
    refine Tl.step ?_
    have c3 := eq_true (show (j : Int) < (l.length : Int) by omega)
    have c4 := eq_true (show 0 ≤ (j : Int) by omega)
    have c5 := eq_true (show (j : Int) < (((l.map cvJob).take j ++ List.replicate ((l.map cvJob).length - j) z77).length : Int) by rw [fill_len _ _ (by omega)]; omega)
    simp only [laws_toJobS.l0, c3, c4, c5, if_true, laws_toJob.f, Option.bind_some, Int.toNat_natCast]
    rw [fill_set _ _ (by omega) _ (by rw [getD_map cvJob l j z79 _ hj]; rfl), wrap_succ hj (by omega)]
    exact h
theorem szJobS_f (l : List LJob) (a : Int) (h0 : 0 ≤ a) (h1 : a ≤ 1048576) (hl : l.length ≤ 9223372036854775807) : laws_szJobS.f l a = some (if a < l.length then -1 else a - l.length) := by
  unfold laws_szJobS.f
  rw [wrap_id (by omega) (by omega)]
  by_cases h : a < l.length
  · rw [if_pos (by omega), if_pos h]
  · rw [if_neg (by omega), if_neg h]

theorem eqIntS_ev (l : List Int) (hl : l.length ≤ 1048576) : Tl (fun k => laws_eqIntS.f k l l) true := by
  unfold laws_eqIntS.f
  simp only [if_true]
  refine down (Q := fun j => Tl (fun k => laws_eqIntS.l0 k l l (j : Int)) true) l.length ?_ ?_
  · refine Tl.step ?_
    have c3 := eq_false (show ¬ ((l.length : Int) < (l.length : Int)) by omega)
    simp only [laws_eqIntS.l0, c3, if_false]
    exact Tl.ret _
  · intro j hj h
    refine Tl.step ?_
    have c3 := eq_true (show (j : Int) < (l.length : Int) by omega)
    have c4 := eq_true (show 0 ≤ (j : Int) by omega)
    simp only [laws_eqIntS.l0, c3, c4, if_true]
    rw [wrap_succ hj (by omega)]
    exact h

theorem toIntS_ev (l : List Int) (hl : l.length ≤ 1048576) : Tl (fun k => laws_toIntS.f k l) l := by
  unfold laws_toIntS.f
  have c1 := eq_true (show 0 ≤ (l.length : Int) by omega)
  have c2 := eq_true (show l.length ≤ 35184372088832 by omega)
  simp only [c1, c2, if_true, Int.toNat_natCast]
  have key := down (Q := fun j => Tl (fun k => laws_toIntS.l0 k l (l.take j ++ List.replicate (l.length - j) 0) (j : Int)) l) l.length ?_ ?_
  · rw [fill_zero] at key; exact key
  · refine Tl.step ?_
    have c3 := eq_false (show ¬ ((l.length : Int) < (l.length : Int)) by omega)
    rw [fill_end]
    simp only [laws_toIntS.l0, c3, if_false]
    exact Tl.ret _
  · intro j hj h
    refine Tl.step ?_
    have c3 := eq_true (show (j : Int) < (l.length : Int) by omega)
    have c4 := eq_true (show 0 ≤ (j : Int) by omega)
    have c5 := eq_true (show (j : Int) < ((l.take j ++ List.replicate (l.length - j) 0).length : Int) by rw [fill_len _ _ (by omega)]; omega)
    simp only [laws_toIntS.l0, c3, c4, c5, if_true, Int.toNat_natCast]
    rw [fill_set l 0 hj (rd l (j : Int)) rfl, wrap_succ hj (by omega)]
    exact h
end Go.Proofs.Ytfciajbahgjflaa.Print

namespace Go.Proofs.Ytfciajbahgjflaa.Print
open Go.RowKit Go.Proofs.YtfciajbahgjflaaW.PrintWords Go.Proofs.Ytfciajbahgjflaa.Evs Go.Proofs.Ytfciajbahgjflaa.Opens
set_option linter.unusedSimpArgs false
set_option linter.unusedVariables false
/-- A row marked with m, m + 1, .. -/
structure Marked (l : List Int) (m : Int) (n : Nat) : Prop where
  len : l.length = n
  at_ : ∀ i, i < n → l.getD i 0 = m + i
theorem markIntS_at : ∀ (d j : Nat) (l : List Int) (m : Int), j + d = l.length → 0 ≤ m → m + l.length ≤ 100000000 → (∀ i, i < j → l.getD i 0 = m + i) → ∃ l', Marked l' m l.length ∧ Tl (fun k => laws_markIntS.l0 k l (m + j) (j : Int)) (m + l.length, l')
  | 0, j, l, m, e, h0, h1, hm => by
    refine ⟨l, ⟨rfl, fun i hi => hm i (by omega)⟩, Tl.step ?_⟩
    simp only [laws_markIntS.l0]
    exact Tl.iteF (by omega) (Tl.cast (Tl.ret _) (by rw [show m + (j : Int) = m + (l.length : Int) by omega]))
  | d + 1, j, l, m, e, h0, h1, hm => by
    obtain ⟨l', h2, h3⟩ := markIntS_at d (j + 1) (l.set j (m + j)) m (by rw [List.length_set]; omega) h0 (by rw [List.length_set]; exact h1) (fun i hi => by
      by_cases hij : i = j
      · subst hij
        simp [List.getD_eq_getElem?_getD, List.getElem?_set, show i < l.length by omega]
      · have := hm i (by omega)
        rw [← this]
        simp [List.getD_eq_getElem?_getD, List.getElem?_set, show ¬ j = i by omega])
    rw [List.length_set] at h2 h3
    refine ⟨l', h2, Tl.step ?_⟩
    simp only [laws_markIntS.l0, Int.toNat_natCast]
    rw [wrap_id (n := m + (j : Int) + 1) (by omega) (by omega), wrap_succ (n := l.length) (by omega) (by omega), show m + (j : Int) + 1 = m + ((j + 1 : Nat) : Int) by omega]
    exact Tl.iteT (by omega) (Tl.iteT (by omega) h3)
theorem markIntS_ev (l : List Int) (m : Int) (h0 : 0 ≤ m) (h1 : m ≤ 10000000) (hl : l.length ≤ 1048576) : ∃ l', Marked l' m l.length ∧ Tl (fun k => laws_markIntS.f k l m) (m + l.length, l') := by
  obtain ⟨l', h2, h3⟩ := markIntS_at l.length 0 l m (by omega) h0 (by omega) (fun i hi => by omega)
  rw [show m + ((0 : Nat) : Int) = m by omega] at h3
  exact ⟨l', h2, h3⟩
theorem heldIntS_ev {l : List Int} {m : Int} {n : Nat} (h : Marked l m n) (h0 : 0 ≤ m) (h1 : m ≤ 10000000) (hl : n ≤ 1048576) : Tl (fun k => laws_heldIntS.f k l m) (m + n) := by
  unfold laws_heldIntS.f
  have he := h.len
  have key := down (Q := fun j => Tl (fun k => laws_heldIntS.l0 k l (m + j) (j : Int)) (m + n)) n ?_ ?_
  · rw [show m + ((0 : Nat) : Int) = m by omega] at key; exact key
  · refine Tl.step ?_
    simp only [laws_heldIntS.l0]
    exact Tl.iteF (by omega) (Tl.ret _)
  · intro j hj hh
    refine Tl.step ?_
    have ha : rd l (j : Int) = m + j := h.at_ j hj
    simp only [laws_heldIntS.l0, ha]
    rw [wrap_id (n := m + (j : Int) + 1) (by omega) (by omega), wrap_succ hj (by omega), show m + (j : Int) + 1 = m + ((j + 1 : Nat) : Int) by omega]
    exact Tl.iteT (by omega) (Tl.iteT (by omega) (Tl.iteT (by trivial) hh))

theorem misN_succ (l : List Job) (f : List Int) (j : Nat) : misN l f (j + 1) = if misAt (l.getD j z77) (f.getD j 0) = true then misN l f j ++ [(j : Int)] else misN l f j := rfl
def jb (l : List Job) (j : Nat) : Job := l.getD j z77
theorem rd_jb (l : List Job) (j : Nat) : rd_T77 l (j : Int) = jb l j := rfl
theorem rd_f (o : List Int) (j : Nat) : rd o (j : Int) = o.getD j 0 := rfl
def missD (l : List Job) (f : List Int) : List Int := if f.length = l.length then misN l f l.length else []
theorem missD_len (l : List Job) (f : List Int) : (missD l f).length ≤ l.length := by
  unfold missD
  split
  · exact misN_len l f l.length
  · simp
theorem spec_l3Missed_ev (l : List Job) (a f : List Int) (hl : l.length ≤ 1048576) (h : f.length = l.length) : Tl (fun k => spec_l3Missed.f k l a f) (misN l f l.length) := by
  unfold spec_l3Missed.f
  refine down (Q := fun j => Tl (fun k => spec_l3Missed.l0 k l (misN l f j) (j : Int) a f) (misN l f l.length)) l.length ?_ ?_
  · refine Tl.step ?_
    simp only [spec_l3Missed.l0]
    exact Tl.iteF (by omega) (Tl.ret _)
  · intro j hj hh
    have hlen := misN_len l f j
    rw [misN_succ] at hh
    change Tl (fun k => spec_l3Missed.l0 k l (if misAt (jb l j) (f.getD j 0) = true then misN l f j ++ [(j : Int)] else misN l f j) _ a f) _ at hh
    refine Tl.step ?_
    simp only [spec_l3Missed.l0, rd_jb, rd_f]
    rw [wrap_succ hj (by omega)]
    refine Tl.iteT (by omega) (Tl.iteT (by omega) ?_)
    by_cases d1 : (jb l j).f2 ≤ 120
    · refine Tl.iteT d1 (Tl.iteT (by omega) ?_)
      by_cases d2 : f.getD j 0 < 0
      · rw [if_pos (by unfold misAt; rw [decide_eq_true d1, decide_eq_true d2]; rfl)] at hh
        exact Tl.iteT d2 (Tl.iteT (by omega) hh)
      · refine Tl.iteF d2 ?_
        by_cases d3 : f.getD j 0 > (jb l j).f2
        · rw [if_pos (by unfold misAt; rw [decide_eq_true d1, decide_eq_true d3, Bool.or_true]; rfl)] at hh
          exact Tl.iteT d3 (Tl.iteT (by omega) hh)
        · rw [if_neg (by unfold misAt; rw [decide_eq_false d2, decide_eq_false d3]; simp)] at hh
          exact Tl.iteF d3 hh
    · rw [if_neg (by unfold misAt; rw [decide_eq_false d1]; simp)] at hh
      exact Tl.iteF d1 hh
theorem spec_Missed_ev (l : List Job) (a f : List Int) (hl : l.length ≤ 1048576) : Tl (fun k => spec_Missed.f k l a f) (missD l f) := by
  unfold spec_Missed.f missD
  by_cases h : f.length = l.length
  · refine Tl.iteT (by omega) ?_
    rw [if_pos h]
    exact Tl.bind (spec_l3Missed_ev l a f (by omega) h) (Tl.ret _)
  · refine Tl.iteF (by omega) ?_
    rw [if_neg h]
    exact Tl.ret _
theorem spec_GlobalMissed_ev (l : List Job) (a : List (List Int)) (f : List Int) (hl : l.length ≤ 1048576) : Tl (fun k => spec_GlobalMissed.f k l a f) (missD l f) := by
  unfold spec_GlobalMissed.f
  exact Tl.bind (spec_Missed_ev l [] f hl) (Tl.ret _)
theorem impl_GlobalMissed_ev (l : List Job) (a : List (List Int)) (f : List Int) (hl : l.length ≤ 1048576) : Tl (fun _ => impl_GlobalMissed.f l a f) (missD l f) := by
  refine Tl.of_eq fun _ => ?_
  unfold impl_GlobalMissed.f impl_missed.f missD
  by_cases h : f.length = l.length
  · rw [if_pos h, if_pos hl, if_pos h]; rfl
  · rw [if_neg h, if_neg h]; rfl
/-- How many numbers the rows hold. -/
def tot : List (List Int) → Nat
  | [] => 0
  | x :: xs => x.length + tot xs
theorem rd_rows (l : List (List Int)) (j : Nat) : rd_L3 l (j : Int) = l.getD j [] := rfl
theorem rows_at {l : List (List Int)} {i : Nat} (h : i < l.length) : l.drop i = l.getD i [] :: l.drop (i + 1) := by
  rw [List.drop_eq_getElem_cons h, List.getD_eq_getElem?_getD, List.getElem?_eq_getElem h]; rfl
theorem tot_at : ∀ (l : List (List Int)) (i : Nat), (l.getD i []).length ≤ tot l
  | [], i => by simp
  | x :: xs, 0 => by unfold tot; simp
  | x :: xs, i + 1 => by
    have := tot_at xs i
    have e : (x :: xs).getD (i + 1) [] = xs.getD i [] := by simp
    rw [e]
    unfold tot
    omega
theorem szIntsG_f (l : List Int) (m : Int) (h0 : 0 ≤ m) (h1 : m ≤ 1048576) (hl : l.length ≤ 9223372036854775807) : laws_szIntS.f l m = some (if m < l.length then -1 else m - l.length) := by
  unfold laws_szIntS.f
  by_cases h : m < (l.length : Int)
  · rw [if_pos h, if_pos (by unfold wrap64; omega)]
  · rw [if_neg h, wrap_id (n := m - (l.length : Int)) (by omega) (by omega), if_neg (by omega)]
theorem szRows_l0 {l : List (List Int)} (hl : l.length ≤ 1048576) (hw : ∀ i, (l.getD i []).length ≤ 9223372036854775807) : ∀ (d i : Nat) (m : Int), i + d = l.length → 0 ≤ m → m ≤ 1048576 → Tl (fun k => laws_szIntSS.l0 k l m (i : Int)) (if m < tot (l.drop i) then -1 else m - tot (l.drop i))
  | 0, i, m, hi, h0, h1 => by
    have e : l.drop i = [] := List.drop_eq_nil_of_le (by omega)
    rw [e]
    refine Tl.step ?_
    simp only [laws_szIntSS.l0]
    refine Tl.cast (Tl.iteF (by omega) (Tl.ret _)) ?_
    unfold tot
    rw [if_neg (by omega)]
    omega
  | d + 1, i, m, hi, h0, h1 => by
    have hil : i < l.length := by omega
    rw [rows_at hil]
    have ih := fun m' => szRows_l0 hl hw d (i + 1) m' (by omega)
    have e : tot (l.getD i [] :: l.drop (i + 1)) = (l.getD i []).length + tot (l.drop (i + 1)) := rfl
    rw [e]
    have hwi := hw i
    refine Tl.step ?_
    simp only [laws_szIntSS.l0, rd_rows]
    rw [wrap_succ hil (by omega)]
    generalize l.getD i [] = x at hwi ⊢
    refine Tl.iteT (by omega) (Tl.iteT (by omega) (Tl.bind (Tl.of_eq fun _ => szIntsG_f x m h0 h1 hwi) ?_))
    by_cases h : m < (x.length : Int)
    · rw [if_pos h]
      exact Tl.cast (Tl.iteT (by omega) (Tl.ret _)) (by rw [if_pos (by omega)])
    · rw [if_neg h]
      refine Tl.cast (Tl.iteF (by omega) (ih (m - x.length) (by omega) (by omega))) ?_
      by_cases h2 : m - (x.length : Int) < (tot (l.drop (i + 1)) : Int)
      · rw [if_pos h2, if_pos (by omega)]
      · rw [if_neg h2, if_neg (by omega)]
        omega
theorem szRun_ev {l : List (List Int)} {f : List Int} (m : Int) (h0 : 0 ≤ m) (h1 : m ≤ 1048576) (hl : l.length ≤ 9223372036854775807) (hw : ∀ i, (l.getD i []).length ≤ 9223372036854775807) (hf : f.length ≤ 9223372036854775807) :
    Tl (fun k => laws_szGlobalRun.f k l f m) (if m < (l.length : Int) + tot l + f.length then -1 else m - ((l.length : Int) + tot l + f.length)) := by
  unfold laws_szGlobalRun.f
  have hss : Tl (fun k => laws_szIntSS.f k l m) (if m < (l.length : Int) + tot l then -1 else m - ((l.length : Int) + tot l)) := by
    unfold laws_szIntSS.f
    by_cases h : m < (l.length : Int)
    · exact Tl.cast (Tl.iteT (by unfold wrap64; omega) (Tl.ret _)) (by rw [if_pos (by omega)])
    · rw [wrap_id (n := m - (l.length : Int)) (by omega) (by omega)]
      refine Tl.cast (Tl.iteF (by omega) (szRows_l0 (l := l) (by omega) hw l.length 0 (m - l.length) (by omega) (by omega) (by omega))) ?_
      rw [List.drop_zero]
      by_cases h2 : m - (l.length : Int) < (tot l : Int)
      · rw [if_pos h2, if_pos (by omega)]
      · rw [if_neg h2, if_neg (by omega)]
        omega
  refine Tl.bind hss ?_
  by_cases h : m < (l.length : Int) + tot l
  · rw [if_pos h]
    exact Tl.cast (Tl.iteT (by omega) (Tl.ret _)) (by rw [if_pos (by omega)])
  · rw [if_neg h]
    refine Tl.iteF (by omega) (Tl.bind (Tl.of_eq fun _ => szIntsG_f f _ (by omega) (by omega) hf) ?_)
    by_cases h2 : m - ((l.length : Int) + tot l) < (f.length : Int)
    · rw [if_pos h2]
      exact Tl.cast (Tl.iteT (by omega) (Tl.ret _)) (by rw [if_pos (by omega)])
    · rw [if_neg h2]
      refine Tl.cast (Tl.iteF (by omega) (Tl.ret _)) ?_
      rw [if_neg (by omega)]
      omega
theorem toRows_ev (l : List (List Int)) (hl : l.length ≤ 1048576) (hw : ∀ i, (l.getD i []).length ≤ 1048576) : Tl (fun k => laws_toIntSS.f k l) l := by
  unfold laws_toIntSS.f
  refine Tl.iteT (by omega) (Tl.iteT (by omega) ?_)
  have key := down (Q := fun j => Tl (fun k => laws_toIntSS.l0 k l (l.take j ++ List.replicate (l.length - j) []) (j : Int)) l) l.length ?_ ?_
  · have e : l.take 0 ++ List.replicate (l.length - 0) [] = List.replicate ((l.length : Int)).toNat ([] : List Int) := by simp
    rw [e] at key
    exact key
  · refine Tl.step ?_
    simp only [laws_toIntSS.l0]
    refine Tl.iteF (by omega) ?_
    rw [List.take_length, Nat.sub_self, List.replicate_zero, List.append_nil]
    exact Tl.ret _
  · intro j hj hh
    have hlen : (l.take j ++ List.replicate (l.length - j) ([] : List Int)).length = l.length := by simp; omega
    have hset : (l.take j ++ List.replicate (l.length - j) ([] : List Int)).set j (l.getD j []) = l.take (j + 1) ++ List.replicate (l.length - (j + 1)) [] := by
      have e1 : l.length - j = (l.length - (j + 1)) + 1 := by omega
      have e2 : (l.take j).length = j := by simp; omega
      rw [e1, List.replicate_succ, List.set_append_right _ _ (by omega), e2, Nat.sub_self, List.set_cons_zero, List.take_succ_eq_append_getElem hj, List.append_assoc, List.getD_eq_getElem?_getD, List.getElem?_eq_getElem hj]
      rfl
    refine Tl.step ?_
    simp only [laws_toIntSS.l0, rd_rows]
    rw [wrap_succ hj (by omega)]
    refine Tl.iteT (by omega) (Tl.iteT (by omega) (Tl.bind (toIntS_ev (l.getD j []) (hw j)) (Tl.iteT (by omega) ?_)))
    rw [Int.toNat_natCast, hset]
    exact hh
theorem toRun_ev (l : List (List Int)) (f : List Int) (hl : l.length ≤ 1048576) (hw : ∀ i, (l.getD i []).length ≤ 1048576) (hf : f.length ≤ 1048576) : Tl (fun k => laws_toGlobalRun.f k l f) (l, f) := by
  unfold laws_toGlobalRun.f
  exact Tl.bind (toRows_ev l hl hw) (Tl.bind (toIntS_ev f hf) (Tl.ret _))
theorem eqRows_ev (l : List (List Int)) (hl : l.length ≤ 1048576) (hw : ∀ i, (l.getD i []).length ≤ 1048576) : Tl (fun k => laws_eqIntSS.f k l l) true := by
  unfold laws_eqIntSS.f
  refine Tl.iteT rfl ?_
  refine down (Q := fun j => Tl (fun k => laws_eqIntSS.l0 k l l (j : Int)) true) l.length ?_ ?_
  · refine Tl.step ?_
    simp only [laws_eqIntSS.l0]
    exact Tl.iteF (by omega) (Tl.ret _)
  · intro j hj hh
    refine Tl.step ?_
    simp only [laws_eqIntSS.l0, rd_rows]
    rw [wrap_succ hj (by omega)]
    exact Tl.iteT (by omega) (Tl.iteT (by omega) (Tl.iteT (by omega) (Tl.bind (eqIntS_ev (l.getD j []) (hw j)) (Tl.iteT rfl hh))))
theorem eqRun_ev (l : List (List Int)) (f : List Int) (hl : l.length ≤ 1048576) (hw : ∀ i, (l.getD i []).length ≤ 1048576) (hf : f.length ≤ 1048576) : Tl (fun k => laws_eqGlobalRun.f k l f l f) true := by
  unfold laws_eqGlobalRun.f
  exact Tl.bind (eqRows_ev l hl hw) (Tl.iteT rfl (Tl.bind (eqIntS_ev f hf) (Tl.iteT rfl (Tl.ret _))))
theorem markRows_ev : ∀ (l : List (List Int)) (m : Int), 0 ≤ m → m + tot l ≤ 5000000 → (∀ i, (l.getD i []).length ≤ 1048576) → Tl (fun k => markRows k l m) (m + tot l)
  | [], m, _, _, _ => by
    unfold markRows tot
    exact Tl.cast (Tl.ret _) (by simp)
  | x :: xs, m, h0, h1, hw => by
    have e : tot (x :: xs) = x.length + tot xs := rfl
    rw [e] at h1 ⊢
    obtain ⟨t, _, ht⟩ := markIntS_ev x m h0 (by omega) (hw 0)
    have ih := markRows_ev xs (m + x.length) (by omega) (by omega) (fun i => by have := hw (i + 1); simpa using this)
    unfold markRows
    exact Tl.cast (Tl.bind ht ih) (by omega)
theorem markRun_ev (l : List (List Int)) (f : List Int) (m : Int) (h0 : 0 ≤ m) (h1 : m + tot l ≤ 5000000) (hw : ∀ i, (l.getD i []).length ≤ 1048576) (hf : f.length ≤ 1048576) : Tl (fun k => laws_markGlobalRun.f k l f m) (m + tot l + f.length) := by
  unfold laws_markGlobalRun.f
  obtain ⟨t, _, n, hn⟩ := markIntS_ev f (m + tot l) (by omega) (by omega) hf
  exact Tl.bind (markRows_ev l m h0 h1 hw) ⟨n, fun k hk => by show (laws_markIntS.f k f (m + tot l)).map _ = _; have h := hn k hk; simp only at h; rw [h]; rfl⟩

theorem wrap4 {m : Int} (h0 : 0 ≤ m) (h1 : m ≤ 100000000) : wrap64 ((wrap64 ((wrap64 ((wrap64 (m + 1)) + 1)) + 1)) + 1) = m + 4 := by
  rw [wrap_id (n := m + 1) (by omega) (by omega), wrap_id (n := m + 1 + 1) (by omega) (by omega), wrap_id (n := m + 1 + 1 + 1) (by omega) (by omega), wrap_id (n := m + 1 + 1 + 1 + 1) (by omega) (by omega)]
  omega
def jm (l : List Job) (j : Nat) : Job := l.getD j z77
theorem rd_jm (l : List Job) (j : Nat) : rd_T77 l (j : Int) = jm l j := rfl
theorem jm_set (l : List Job) (v : Job) {j : Nat} (h : j < l.length) : jm (l.set j v) j = v := by
  unfold jm; simp [List.getD_eq_getElem?_getD, List.getElem?_set, h]
theorem markJobS_at : ∀ (d j : Nat) (l : List Job) (m : Int), j + d = l.length → 0 ≤ m → m + 4 * d ≤ 100000000 → l.length ≤ 1048576 → ∃ l', Tl (fun k => laws_markJobS.l0 k l m (j : Int)) (m + 4 * d, l')
  | 0, j, l, m, e, h0, h1, h2 => by
    refine ⟨l, Tl.step ?_⟩
    simp only [laws_markJobS.l0]
    exact Tl.iteF (by omega) (Tl.cast (Tl.ret _) (by rw [show m + 4 * ((0 : Nat) : Int) = m by omega]))
  | d + 1, j, l, m, e, h0, h1, h2 => by
    have key : ∀ x : List Job, x.length = l.length → ∃ l', Tl (fun k => laws_markJobS.l0 k x (m + 4) ((j + 1 : Nat) : Int)) (m + 4 + 4 * d, l') := fun x hx => markJobS_at d (j + 1) x (m + 4) (by omega) (by omega) (by omega) (by omega)
    have hj : j < l.length := by omega
    obtain ⟨l', hl'⟩ := key (l.set j ⟨m, wrap64 (m + 1), wrap64 ((wrap64 (m + 1)) + 1), wrap64 ((wrap64 ((wrap64 (m + 1)) + 1)) + 1)⟩) (by rw [List.length_set])
    refine ⟨l', Tl.step ?_⟩
    simp only [laws_markJobS.l0, rd_jm, Int.toNat_natCast, Option.bind_some]
    simp only [List.set_set, jm_set _ _ hj, List.length_set]
    rw [wrap4 h0 (by omega), wrap_succ (n := l.length) (by omega) (by omega)]
    exact Tl.iteT (by omega) (Tl.iteT (by omega) (Tl.cast hl' (by rw [show m + 4 + 4 * (d : Int) = m + 4 * ((d + 1 : Nat) : Int) by omega])))
theorem markJobS_ev (l : List Job) (m : Int) (h0 : 0 ≤ m) (h1 : m ≤ 10000000) (hl : l.length ≤ 1048576) : ∃ l', Tl (fun k => laws_markJobS.f k l m) (m + 4 * l.length, l') :=
  markJobS_at l.length 0 l m (by omega) h0 (by omega) hl

set_option maxHeartbeats 1000000 in
theorem FnExactGlobalMissed_pure : PureFnExactGlobalMissed := by
  intro x0 x1 w0 w1
  apply Tl.once
  unfold laws_FnExactGlobalMissed.f
  obtain ⟨a, f⟩ := x1
  obtain ⟨wa, wf⟩ := w1
  simp only at wa wf ⊢
  have wra : ∀ i, (a.getD i []).length ≤ 9223372036854775807 := fun i => by
    rw [List.getD_eq_getElem?_getD]
    cases hi : a[i]? with
    | none => simp
    | some x => exact (wa.2 x (List.mem_of_getElem? hi)).1
  refine Tl.bind (Tl.of_eq fun _ => szJobS_f x0 _ (by omega) (by omega) w0.1) ?_
  by_cases g0 : (1048576 : Int) < x0.length
  · rw [if_pos g0]; exact Tl.iteT (by omega) (Tl.ret _)
  rw [if_neg g0]
  refine Tl.iteF (by omega) ?_
  have hl0 : x0.length ≤ 1048576 := by omega
  have hm0 : (x0.map cvJob).length ≤ 1048576 := by simpa using hl0
  refine Tl.bind (szRun_ev (l := a) (f := f) _ (by omega) (by omega) wa.1 wra wf.1) ?_
  by_cases g1 : (1048576 : Int) - x0.length < (a.length : Int) + tot a + f.length
  · rw [if_pos g1]; exact Tl.iteT (by omega) (Tl.ret _)
  rw [if_neg g1]
  refine Tl.iteF (by omega) ?_
  have ha : a.length ≤ 1048576 := by omega
  have hf : f.length ≤ 1048576 := by omega
  have hwr : ∀ i, (a.getD i []).length ≤ 1048576 := fun i => by have := tot_at a i; omega
  have hlm : (x0.map cvJob).length = x0.length := by simp
  have HS := spec_GlobalMissed_ev (x0.map cvJob) a f hm0
  have HI := impl_GlobalMissed_ev (x0.map cvJob) a f hm0
  have hd := missD_len (x0.map cvJob) f
  generalize missD (x0.map cvJob) f = D at HS HI hd
  have hd2 : D.length ≤ 1048576 := by omega
  have HE := eqIntS_ev D hd2
  have T1 := toRun_ev a f ha hwr hf
  have E1 := eqRun_ev a f ha hwr hf
  obtain ⟨t1, m1⟩ := markJobS_ev (x0.map cvJob) 1 (by omega) (by omega) hm0
  have m2 := markRun_ev a f (1 + 4 * ((x0.map cvJob).length : Int)) (by omega) (by omega) hwr hf
  obtain ⟨t3, mk, m3⟩ := markIntS_ev D 1 (by omega) (by omega) hd2
  have m4 := heldIntS_ev mk (by omega) (by omega) hd2
  repeat (first
    | exact Tl.ret _
    | dsimp only
    | with_reducible refine Tl.bind (toJobS_ev x0 hl0) ?_
    | with_reducible refine Tl.bind (eqJobS_ev (x0.map cvJob) hm0) ?_
    | with_reducible refine Tl.bind T1 ?_
    | with_reducible refine Tl.bind E1 ?_
    | with_reducible refine Tl.bind HE ?_
    | with_reducible refine Tl.bind m1 ?_
    | with_reducible refine Tl.bind m2 ?_
    | with_reducible refine Tl.bind m3 ?_
    | with_reducible refine Tl.bind m4 ?_
    | with_reducible refine Tl.bind HS ?_
    | with_reducible refine Tl.bind HI ?_
    | with_reducible refine Tl.iteT rfl ?_
    | (with_reducible refine Tl.step (g := fun k => laws_FnExactGlobalMissed.j0 k _ _ _ _ _ _) ?_; simp only [laws_FnExactGlobalMissed.j0])
    | with_reducible refine Tl.iteF (by omega) ?_
    | with_reducible refine Tl.iteF (by simp) ?_)
end Go.Proofs.Ytfciajbahgjflaa.Print
