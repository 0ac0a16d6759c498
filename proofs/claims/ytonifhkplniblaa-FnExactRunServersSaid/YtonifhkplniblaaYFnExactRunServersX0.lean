/- What the program and the reference compute, and that both agree. No condition. -/
import Derived.RowKit
import Derived.WalkKit
import Derived.Test.YtonifhkplniblaaYFnExactRunServersPO
import Derived.Test.YtonifhkplniblaaYFnExactRunServersP0
import Derived.Test.YtonifhkplniblaaYFnExactRunServersP1
import Derived.Test.YtonifhkplniblaaYFnExactRunServersWMore
import Derived.Test.YtonifhkplniblaaYFnExactRunServersWLast
import Derived.Test.YtonifhkplniblaaYFnExactRunServersWApart
import Derived.Test.YtonifhkplniblaaYFnExactRunServersWalk
import Derived.Test.YtonifhkplniblaaYFnExactRunServersPB
import Derived.Test.YtonifhkplniblaaYFnExactRunServersWGuard
import Derived.Lib.Hide
import Derived.Deep.DeepMust
import Derived.Deep.QuietTactic
import Derived.BigQuiet
import Derived.Lib.LazyBuf
import Derived.Deep.RegionHeld3
import Derived.Deep.LoopGhost
import Derived.Test.YtonifhkplniblaaYFnExactRunServersP2
import Derived.Test.YtonifhkplniblaaYFnExactRunServersP3
namespace Go.Proofs.Ytonifhkplniblaa.Evs
open Go.RowKit
set_option linter.unusedSimpArgs false
set_option linter.unusedVariables false

/-- From some number of rounds on, g tells r. -/
def Tl {α : Type} (g : Nat → Option α) (r : α) : Prop := ∃ k0, ∀ k, k0 ≤ k → g k = some r

theorem Tl.ret {α : Type} (r : α) : Tl (fun _ => some r) r := ⟨0, fun _ _ => rfl⟩
theorem Tl.step {α : Type} {g : Nat → Option α} {r : α} (h : Tl (fun k => g (k + 1)) r) : Tl g r := by
  obtain ⟨k0, hk⟩ := h
  refine ⟨k0 + 1, fun k hle => ?_⟩
  obtain ⟨m, rfl⟩ : ∃ m, k = m + 1 := ⟨k - 1, by omega⟩
  exact hk m (by omega)
theorem Tl.bind {α β : Type} {g : Nat → Option α} {a : α} {f : α → Nat → Option β} {r : β} (h : Tl g a) (h2 : Tl (f a) r) : Tl (fun k => (g k).bind fun x => f x k) r := by
  obtain ⟨k0, hk⟩ := h
  obtain ⟨k1, hk1⟩ := h2
  refine ⟨max k0 k1, fun k hle => ?_⟩
  show (g k).bind (fun x => f x k) = some r
  rw [hk k (by omega), Option.bind_some]
  exact hk1 k (by omega)
theorem Tl.cast {α : Type} {g : Nat → Option α} {r r' : α} (h : Tl g r) (e : r = r') : Tl g r' := e ▸ h
theorem Tl.iteT {α : Type} {c : Prop} [Decidable c] {g g' : Nat → Option α} {r : α} (hc : c) (h : Tl g r) : Tl (fun k => if c then g k else g' k) r := by simpa only [if_pos hc] using h
theorem Tl.iteF {α : Type} {c : Prop} [Decidable c] {g g' : Nat → Option α} {r : α} (hc : ¬ c) (h : Tl g' r) : Tl (fun k => if c then g k else g' k) r := by simpa only [if_neg hc] using h

/-- Downwards. -/
theorem down {Q : Nat → Prop} (n : Nat) (he : Q n) (hs : ∀ j, j < n → Q (j + 1) → Q j) : Q 0 := by
  induction n with
  | zero => exact he
  | succ n ih => exact ih (hs n (by omega) he) (fun j hj => hs j (by omega))
/-- A loop that asks something of each index, and stops at the first 'no'. -/
theorem Tl.all {F : Nat → Int → Option Bool} {n : Nat} {P : Nat → Bool} {fin : Bool}
    (ht : ∀ j, j < n → P j = true → ∀ r, Tl (fun k => F k ((j + 1 : Nat) : Int)) r → Tl (fun k => F k (j : Int)) r)
    (hf : ∀ j, j < n → P j = false → Tl (fun k => F k (j : Int)) false) (he : Tl (fun k => F k (n : Int)) fin) :
    Tl (fun k => F k 0) ((List.range n).all P && fin) := by
  by_cases hall : ∀ j, j < n → P j = true
  · have h1 : ((List.range n).all P) = true := by simpa using hall
    rw [h1, Bool.true_and]
    exact down (Q := fun j => Tl (fun k => F k (j : Int)) fin) n he (fun j hj h => ht j hj (hall j hj) _ h)
  · have h1 : ((List.range n).all P) = false := by simpa using hall
    rw [h1, Bool.false_and]
    clear h1
    have key : ∀ m, m ≤ n → (∃ j, j < m ∧ P j = false) → Tl (fun k => F k 0) false := by
      intro m
      induction m with
      | zero => rintro _ ⟨j, hj, _⟩; omega
      | succ m ih =>
        rintro hm ⟨j, hj, hp⟩
        by_cases hlow : ∃ j, j < m ∧ P j = false
        · exact ih (by omega) hlow
        · have hjm : j = m := by
            rcases Nat.lt_or_ge j m with h | h
            · exact absurd ⟨j, h, hp⟩ hlow
            · omega
          subst hjm
          refine down (Q := fun j => Tl (fun k => F k (j : Int)) false) j (hf j (by omega) hp) (fun i hi h => ht i (by omega) ?_ _ h)
          cases hpi : P i
          · exact absurd ⟨i, hi, hpi⟩ hlow
          · rfl
    refine key n (Nat.le_refl _) ?_
    apply Classical.byContradiction
    intro hno
    refine hall (fun j hj => ?_)
    cases hp : P j
    · exact absurd ⟨j, hj, hp⟩ hno
    · rfl

theorem wrap_id {n : Int} (h1 : -9223372036854775808 ≤ n) (h2 : n ≤ 9223372036854775807) : wrap64 n = n := by unfold wrap64; omega
theorem wrap_succ {j n : Nat} (h : j < n) (hn : n ≤ 9223372036854775807) : wrap64 ((j : Int) + 1) = ((j + 1 : Nat) : Int) := by unfold wrap64; omega
theorem wrap_pred {j n : Nat} (h : j < n) (h0 : 0 < j) (hn : n ≤ 9223372036854775807) : wrap64 ((j : Int) - 1) = ((j - 1 : Nat) : Int) := by unfold wrap64; omega
end Go.Proofs.Ytonifhkplniblaa.Evs

namespace Go.Proofs.Ytonifhkplniblaa.Evs
theorem fill_zero {α : Type} (xs : List α) (z : α) : xs.take 0 ++ List.replicate (xs.length - 0) z = List.replicate xs.length z := by simp
theorem fill_set {α : Type} (xs : List α) (z : α) {j : Nat} (hj : j < xs.length) (x : α) (hx : x = xs.getD j z) :
    (xs.take j ++ List.replicate (xs.length - j) z).set j x = xs.take (j + 1) ++ List.replicate (xs.length - (j + 1)) z := by
  have h1 : (xs.take j).length = j := by simp; omega
  rw [List.set_append_right _ _ (by omega), h1, Nat.sub_self]
  obtain ⟨m, hm⟩ : ∃ m, xs.length - j = m + 1 := ⟨xs.length - j - 1, by omega⟩
  rw [hm, List.replicate_succ, List.set_cons_zero, List.take_succ_eq_append_getElem hj, List.append_assoc, hx]
  have h2 : xs.length - (j + 1) = m := by omega
  rw [h2]
  simp [List.getD_eq_getElem?_getD, hj]
theorem fill_len {α : Type} (xs : List α) (z : α) {j : Nat} (hj : j ≤ xs.length) : (xs.take j ++ List.replicate (xs.length - j) z).length = xs.length := by simp; omega
theorem fill_end {α : Type} (xs : List α) (z : α) : xs.take xs.length ++ List.replicate (xs.length - xs.length) z = xs := by simp
theorem getD_map {α β : Type} (f : α → β) (l : List α) (j : Nat) (z : α) (z' : β) (hj : j < l.length) : (l.map f).getD j z' = f (l.getD j z) := by simp [List.getD_eq_getElem?_getD, hj]
theorem all_range {α : Type} (l : List α) (z : α) (p : α → Bool) : (List.range l.length).all (fun j => p (l.getD j z)) = l.all p := by
  rw [Bool.eq_iff_iff, List.all_eq_true, List.all_eq_true]
  constructor
  · intro h x hx
    obtain ⟨i, hi, rfl⟩ := List.getElem_of_mem hx
    have := h i (by simpa using hi)
    simpa [List.getD_eq_getElem?_getD, hi] using this
  · intro h j hj
    have hj' : j < l.length := by simpa using hj
    have := h l[j] (List.getElem_mem hj')
    simpa [List.getD_eq_getElem?_getD, hj'] using this
end Go.Proofs.Ytonifhkplniblaa.Evs

namespace Go.Proofs.Ytonifhkplniblaa.Print
open Go.RowKit Go.Proofs.YtonifhkplniblaaW.PrintWords Go.Proofs.Ytonifhkplniblaa.Evs Go.Proofs.Ytonifhkplniblaa.Opens
set_option linter.unusedSimpArgs false
theorem eqIntS_ev (l : List Int) (hl : l.length ≤ 1048576) : Tl (fun k => laws_eqIntS.f k l l) true := by
  unfold laws_eqIntS.f
  simp only [if_true]
  refine down (Q := fun j => Tl (fun k => laws_eqIntS.l0 k l l (j : Int)) true) l.length ?_ ?_
  · refine Tl.step ?_
    have c3 := eq_false (show ¬ ((l.length : Int) < (l.length : Int)) by omega)
    simp only [laws_eqIntS.l0, c3, if_false]
    exact Tl.ret _
  · intro j hj h
    refine Tl.step ?_
    have c3 := eq_true (show (j : Int) < (l.length : Int) by omega)
    have c4 := eq_true (show 0 ≤ (j : Int) by omega)
    simp only [laws_eqIntS.l0, c3, c4, if_true]
    rw [wrap_succ hj (by omega)]
    exact h

abbrev LTask := S105
abbrev Task := S62
def cvTask (x : LTask) : Task := ⟨x.f0, x.f1, x.f2⟩
theorem toTaskS_ev (l : List LTask) (hl : l.length ≤ 1048576) : Tl (fun k => laws_toTaskS.f k l) (l.map cvTask) := by
  unfold laws_toTaskS.f
  have c1 := eq_true (show 0 ≤ (l.length : Int) by omega)
  have c2 := eq_true (show l.length ≤ 11728124029610 by omega)
  simp only [c1, c2, if_true, Int.toNat_natCast]
  have hlen : (l.map cvTask).length = l.length := by simp
  have key := down (Q := fun j => Tl (fun k => laws_toTaskS.l0 k l ((l.map cvTask).take j ++ List.replicate ((l.map cvTask).length - j) z62) (j : Int)) (l.map cvTask)) l.length ?_ ?_
  · rw [fill_zero, hlen] at key; exact key
  · refine Tl.step ?_
    have c3 := eq_false (show ¬ ((l.length : Int) < (l.length : Int)) by omega)
    rw [← hlen, fill_end]
    simp only [hlen]
    simp only [laws_toTaskS.l0, c3, if_false]
    exact Tl.ret _
  · intro j hj h
    refine Tl.step ?_
    have c3 := eq_true (show (j : Int) < (l.length : Int) by omega)
    have c4 := eq_true (show 0 ≤ (j : Int) by omega)
    have c5 := eq_true (show (j : Int) < (((l.map cvTask).take j ++ List.replicate ((l.map cvTask).length - j) z62).length : Int) by rw [fill_len _ _ (by omega)]; omega)
    simp only [laws_toTaskS.l0, c3, c4, c5, if_true, laws_toTask.f, Option.bind_some, Int.toNat_natCast]
    rw [fill_set _ _ (by omega) _ (by rw [getD_map cvTask l j z105 _ hj]; rfl), wrap_succ hj (by omega)]
    exact h
theorem eqTask_self (x : Task) : laws_eqTask.f x.f0 x.f1 x.f2 x.f0 x.f1 x.f2 = some true := by simp [laws_eqTask.f]
theorem eqTaskS_ev (l : List Task) (hl : l.length ≤ 1048576) : Tl (fun k => laws_eqTaskS.f k l l) true := by
  unfold laws_eqTaskS.f
  simp only [if_true]
  refine down (Q := fun j => Tl (fun k => laws_eqTaskS.l0 k l l (j : Int)) true) l.length ?_ ?_
  · refine Tl.step ?_
    have c3 := eq_false (show ¬ ((l.length : Int) < (l.length : Int)) by omega)
    simp only [laws_eqTaskS.l0, c3, if_false]
    exact Tl.ret _
  · intro j hj h
    refine Tl.step ?_
    have c3 := eq_true (show (j : Int) < (l.length : Int) by omega)
    have c4 := eq_true (show 0 ≤ (j : Int) by omega)
    simp only [laws_eqTaskS.l0, c3, c4, if_true, eqTask_self, Option.bind_some]
    rw [wrap_succ hj (by omega)]
    exact h
theorem szTaskS_f (l : List LTask) (a : Int) (h0 : 0 ≤ a) (h1 : a ≤ 1048576) (hl : l.length ≤ 9223372036854775807) : laws_szTaskS.f l a = some (if a < l.length then -1 else a - l.length) := by
  unfold laws_szTaskS.f
  rw [wrap_id (by omega) (by omega)]
  by_cases h : a < l.length
  · rw [if_pos (by omega), if_pos h]
  · rw [if_neg (by omega), if_neg h]

abbrev Job := S67
theorem eqJob_self (x : Job) : laws_eqJob.f x.f0 x.f1 x.f2 x.f3 x.f0 x.f1 x.f2 x.f3 = some true := by simp [laws_eqJob.f]
theorem eqJobS_ev (l : List Job) (hl : l.length ≤ 1048576) : Tl (fun k => laws_eqJobS.f k l l) true := by
  unfold laws_eqJobS.f
  simp only [if_true]
  refine down (Q := fun j => Tl (fun k => laws_eqJobS.l0 k l l (j : Int)) true) l.length ?_ ?_
  · refine Tl.step ?_
    have c3 := eq_false (show ¬ ((l.length : Int) < (l.length : Int)) by omega)
    simp only [laws_eqJobS.l0, c3, if_false]
    exact Tl.ret _
  · intro j hj h
    refine Tl.step ?_
    have c3 := eq_true (show (j : Int) < (l.length : Int) by omega)
    have c4 := eq_true (show 0 ≤ (j : Int) by omega)
    simp only [laws_eqJobS.l0, c3, c4, if_true, eqJob_self, Option.bind_some]
    rw [wrap_succ hj (by omega)]
    exact h

abbrev LJob := S107
def cvJob (x : LJob) : Job := ⟨x.f0, x.f1, x.f2, x.f3⟩
theorem toJobS_ev (l : List LJob) (hl : l.length ≤ 1048576) : Tl (fun k => laws_toJobS.f k l) (l.map cvJob) := by
  unfold laws_toJobS.f
  have c1 := eq_true (show 0 ≤ (l.length : Int) by omega)
  have c2 := eq_true (show l.length ≤ 8796093022208 by omega)
  simp only [c1, c2, if_true, Int.toNat_natCast]
  have hlen : (l.map cvJob).length = l.length := by simp
  have key := down (Q := fun j => Tl (fun k => laws_toJobS.l0 k l ((l.map cvJob).take j ++ List.replicate ((l.map cvJob).length - j) z67) (j : Int)) (l.map cvJob)) l.length ?_ ?_
  · rw [fill_zero, hlen] at key; exact key
  · refine Tl.step ?_
    have c3 := eq_false (show ¬ ((l.length : Int) < (l.length : Int)) by omega)
    rw [← hlen, fill_end]
    simp only [hlen]
    simp only [laws_toJobS.l0, c3, if_false]
    exact Tl.ret _
  · intro j hj h
    refine Tl.step ?_
    have c3 := eq_true (show (j : Int) < (l.length : Int) by omega)
    have c4 := eq_true (show 0 ≤ (j : Int) by omega)
    have c5 := eq_true (show (j : Int) < (((l.map cvJob).take j ++ List.replicate ((l.map cvJob).length - j) z67).length : Int) by rw [fill_len _ _ (by omega)]; omega)
    simp only [laws_toJobS.l0, c3, c4, c5, if_true, laws_toJob.f, Option.bind_some, Int.toNat_natCast]
    rw [fill_set _ _ (by omega) _ (by rw [getD_map cvJob l j z107 _ hj]; rfl), wrap_succ hj (by omega)]
    exact h
theorem szJobS_f (l : List LJob) (a : Int) (h0 : 0 ≤ a) (h1 : a ≤ 1048576) (hl : l.length ≤ 9223372036854775807) : laws_szJobS.f l a = some (if a < l.length then -1 else a - l.length) := by
  unfold laws_szJobS.f
  rw [wrap_id (by omega) (by omega)]
  by_cases h : a < l.length
  · rw [if_pos (by omega), if_pos h]
  · rw [if_neg (by omega), if_neg h]

abbrev LServer := S111
abbrev Server := S109
def cvServer (x : LServer) : Server := ⟨x.f0, x.f1⟩
theorem toServerS_ev (l : List LServer) (hl : l.length ≤ 1048576) : Tl (fun k => laws_toServerS.f k l) (l.map cvServer) := by
  unfold laws_toServerS.f
  have c1 := eq_true (show 0 ≤ (l.length : Int) by omega)
  have c2 := eq_true (show l.length ≤ 17592186044416 by omega)
  simp only [c1, c2, if_true, Int.toNat_natCast]
  have hlen : (l.map cvServer).length = l.length := by simp
  have key := down (Q := fun j => Tl (fun k => laws_toServerS.l0 k l ((l.map cvServer).take j ++ List.replicate ((l.map cvServer).length - j) z109) (j : Int)) (l.map cvServer)) l.length ?_ ?_
  · rw [fill_zero, hlen] at key; exact key
  · refine Tl.step ?_
    have c3 := eq_false (show ¬ ((l.length : Int) < (l.length : Int)) by omega)
    rw [← hlen, fill_end]
    simp only [hlen]
    simp only [laws_toServerS.l0, c3, if_false]
    exact Tl.ret _
  · intro j hj h
    refine Tl.step ?_
    have c3 := eq_true (show (j : Int) < (l.length : Int) by omega)
    have c4 := eq_true (show 0 ≤ (j : Int) by omega)
    have c5 := eq_true (show (j : Int) < (((l.map cvServer).take j ++ List.replicate ((l.map cvServer).length - j) z109).length : Int) by rw [fill_len _ _ (by omega)]; omega)
    simp only [laws_toServerS.l0, c3, c4, c5, if_true, laws_toServer.f, Option.bind_some, Int.toNat_natCast]
    rw [fill_set _ _ (by omega) _ (by rw [getD_map cvServer l j z111 _ hj]; rfl), wrap_succ hj (by omega)]
    exact h
theorem eqServer_self (x : Server) : laws_eqServer.f x.f0 x.f1 x.f0 x.f1 = some true := by simp [laws_eqServer.f]
theorem eqServerS_ev (l : List Server) (hl : l.length ≤ 1048576) : Tl (fun k => laws_eqServerS.f k l l) true := by
  unfold laws_eqServerS.f
  simp only [if_true]
  refine down (Q := fun j => Tl (fun k => laws_eqServerS.l0 k l l (j : Int)) true) l.length ?_ ?_
  · refine Tl.step ?_
    have c3 := eq_false (show ¬ ((l.length : Int) < (l.length : Int)) by omega)
    simp only [laws_eqServerS.l0, c3, if_false]
    exact Tl.ret _
  · intro j hj h
    refine Tl.step ?_
    have c3 := eq_true (show (j : Int) < (l.length : Int) by omega)
    have c4 := eq_true (show 0 ≤ (j : Int) by omega)
    simp only [laws_eqServerS.l0, c3, c4, if_true, eqServer_self, Option.bind_some]
    rw [wrap_succ hj (by omega)]
    exact h
theorem szServerS_f (l : List LServer) (a : Int) (h0 : 0 ≤ a) (h1 : a ≤ 1048576) (hl : l.length ≤ 9223372036854775807) : laws_szServerS.f l a = some (if a < l.length then -1 else a - l.length) := by
  unfold laws_szServerS.f
  rw [wrap_id (by omega) (by omega)]
  by_cases h : a < l.length
  · rw [if_pos (by omega), if_pos h]
  · rw [if_neg (by omega), if_neg h]

abbrev LArrival := S173
abbrev Arrival := S164
def cvArrival (x : LArrival) : Arrival := ⟨x.f0, x.f1⟩
theorem toArrivalS_ev (l : List LArrival) (hl : l.length ≤ 1048576) : Tl (fun k => laws_toArrivalS.f k l) (l.map cvArrival) := by
  unfold laws_toArrivalS.f
  have c1 := eq_true (show 0 ≤ (l.length : Int) by omega)
  have c2 := eq_true (show l.length ≤ 17592186044416 by omega)
  simp only [c1, c2, if_true, Int.toNat_natCast]
  have hlen : (l.map cvArrival).length = l.length := by simp
  have key := down (Q := fun j => Tl (fun k => laws_toArrivalS.l0 k l ((l.map cvArrival).take j ++ List.replicate ((l.map cvArrival).length - j) z164) (j : Int)) (l.map cvArrival)) l.length ?_ ?_
  · rw [fill_zero, hlen] at key; exact key
  · refine Tl.step ?_
    have c3 := eq_false (show ¬ ((l.length : Int) < (l.length : Int)) by omega)
    rw [← hlen, fill_end]
    simp only [hlen]
    simp only [laws_toArrivalS.l0, c3, if_false]
    exact Tl.ret _
  · intro j hj h
    refine Tl.step ?_
    have c3 := eq_true (show (j : Int) < (l.length : Int) by omega)
    have c4 := eq_true (show 0 ≤ (j : Int) by omega)
    have c5 := eq_true (show (j : Int) < (((l.map cvArrival).take j ++ List.replicate ((l.map cvArrival).length - j) z164).length : Int) by rw [fill_len _ _ (by omega)]; omega)
    simp only [laws_toArrivalS.l0, c3, c4, c5, if_true, laws_toArrival.f, Option.bind_some, Int.toNat_natCast]
    rw [fill_set _ _ (by omega) _ (by rw [getD_map cvArrival l j z173 _ hj]; rfl), wrap_succ hj (by omega)]
    exact h
theorem eqArrival_self (x : Arrival) : laws_eqArrival.f x.f0 x.f1 x.f0 x.f1 = some true := by simp [laws_eqArrival.f]
theorem eqArrivalS_ev (l : List Arrival) (hl : l.length ≤ 1048576) : Tl (fun k => laws_eqArrivalS.f k l l) true := by
  unfold laws_eqArrivalS.f
  simp only [if_true]
  refine down (Q := fun j => Tl (fun k => laws_eqArrivalS.l0 k l l (j : Int)) true) l.length ?_ ?_
  · refine Tl.step ?_
    have c3 := eq_false (show ¬ ((l.length : Int) < (l.length : Int)) by omega)
    simp only [laws_eqArrivalS.l0, c3, if_false]
    exact Tl.ret _
  · intro j hj h
    refine Tl.step ?_
    have c3 := eq_true (show (j : Int) < (l.length : Int) by omega)
    have c4 := eq_true (show 0 ≤ (j : Int) by omega)
    simp only [laws_eqArrivalS.l0, c3, c4, if_true, eqArrival_self, Option.bind_some]
    rw [wrap_succ hj (by omega)]
    exact h
theorem szArrivalS_f (l : List LArrival) (a : Int) (h0 : 0 ≤ a) (h1 : a ≤ 1048576) (hl : l.length ≤ 9223372036854775807) : laws_szArrivalS.f l a = some (if a < l.length then -1 else a - l.length) := by
  unfold laws_szArrivalS.f
  rw [wrap_id (by omega) (by omega)]
  by_cases h : a < l.length
  · rw [if_pos (by omega), if_pos h]
  · rw [if_neg (by omega), if_neg h]
end Go.Proofs.Ytonifhkplniblaa.Print

namespace Go.Proofs.Ytonifhkplniblaa.Print
open Go.RowKit Go.Proofs.YtonifhkplniblaaW.PrintWords Go.Proofs.Ytonifhkplniblaa.Evs Go.Proofs.Ytonifhkplniblaa.Opens
set_option linter.unusedSimpArgs false
set_option linter.unusedVariables false
theorem spec_l1In_f (a b c : Int) : spec_l1In.f a b c = some (decide (b ≤ a ∧ a ≤ c)) := by
  unfold spec_l1In.f
  by_cases h : a ≥ b
  · have h' : b ≤ a := h
    simp [h, h']
  · have h' : ¬ b ≤ a := h
    simp [h, h']
theorem spec_TaskValid_f (x : Task) : spec_TaskValid.f x.f0 x.f1 x.f2 = some (okTask x) := by
  unfold spec_TaskValid.f okTask
  simp only [spec_l1In_f, Option.bind_some, decide_eq_true_eq]
  split
  · split
    · congr 1; rw [Bool.eq_iff_iff]; simp only [decide_eq_true_eq, Bool.false_eq_true, false_iff]; omega
    · congr 1; rw [Bool.eq_iff_iff]; simp only [decide_eq_true_eq, Bool.false_eq_true, false_iff]; omega
  · congr 1; rw [Bool.eq_iff_iff]; simp only [decide_eq_true_eq, Bool.false_eq_true, false_iff]; omega
/-- A valid set. -/
def okSet (l : List Task) : Bool := decide (l.length ≤ 5) && l.all okTask
theorem impl_SetValid_f (l : List Task) : impl_SetValid.f l = some (okSet l) := rfl
theorem spec_SetValid_ev (l : List Task) (hl : l.length ≤ 1048576) : Tl (fun k => spec_SetValid.f k l) (okSet l) := by
  have key := Tl.all (F := fun k i => spec_SetValid.l0 k l i) (n := l.length) (P := fun j => okTask (l.getD j z62)) (fin := decide (l.length ≤ 5)) ?_ ?_ ?_
  · rw [all_range] at key
    unfold okSet
    rw [Bool.and_comm]
    exact key
  · intro j hj hp r h
    refine Tl.step ?_
    have c3 := eq_true (show (j : Int) < (l.length : Int) by omega)
    have c4 := eq_true (show 0 ≤ (j : Int) by omega)
    have c5 : spec_TaskValid.f (rd_T62 l (j : Int)).f0 (rd_T62 l (j : Int)).f1 (rd_T62 l (j : Int)).f2 = some true := by rw [spec_TaskValid_f]; exact congrArg some hp
    simp only [spec_SetValid.l0, c3, c4, c5, if_true, Option.bind_some]
    rw [wrap_succ hj (by omega)]
    exact h
  · intro j hj hp
    refine Tl.step ?_
    have c3 := eq_true (show (j : Int) < (l.length : Int) by omega)
    have c4 := eq_true (show 0 ≤ (j : Int) by omega)
    have c5 : spec_TaskValid.f (rd_T62 l (j : Int)).f0 (rd_T62 l (j : Int)).f1 (rd_T62 l (j : Int)).f2 = some false := by rw [spec_TaskValid_f]; exact congrArg some hp
    simp only [spec_SetValid.l0, c3, c4, c5, if_true, Option.bind_some, Bool.false_eq_true, if_false]
    exact Tl.ret _
  · refine Tl.step ?_
    have c3 := eq_false (show ¬ ((l.length : Int) < (l.length : Int)) by omega)
    simp only [spec_SetValid.l0, c3, if_false]
    have : decide ((l.length : Int) ≤ 5) = decide (l.length ≤ 5) := by rw [decide_eq_decide]; omega
    rw [this]
    exact Tl.ret _

/-- Task j of a list. -/
def tk (l : List Task) (j : Nat) : Task := l.getD j z62
theorem rd_tk (l : List Task) (j : Nat) : rd_T62 l (j : Int) = tk l j := rfl
theorem okSet_len {l : List Task} (h : okSet l = true) : l.length ≤ 5 := by unfold okSet at h; simp at h; exact h.1
theorem okSet_tk {l : List Task} (h : okSet l = true) {j : Nat} (hj : j < l.length) : 1 ≤ (tk l j).f0 ∧ (tk l j).f0 ≤ 8 ∧ (tk l j).f0 ≤ (tk l j).f1 ∧ (tk l j).f1 ≤ (tk l j).f2 ∧ (tk l j).f2 ≤ 12 := by
  unfold okSet at h
  rw [Bool.and_eq_true, List.all_eq_true] at h
  have h1 : tk l j ∈ l := by unfold tk; simp [List.getD_eq_getElem?_getD, hj]
  have := h.2 _ h1
  unfold okTask at this
  exact of_decide_eq_true this

theorem wrap3 {m : Int} (h0 : 0 ≤ m) (h1 : m ≤ 100000000) : wrap64 ((wrap64 ((wrap64 (m + 1)) + 1)) + 1) = m + 3 := by
  rw [wrap_id (n := m + 1) (by omega) (by omega), wrap_id (n := m + 1 + 1) (by omega) (by omega), wrap_id (n := m + 1 + 1 + 1) (by omega) (by omega)]
  omega
theorem markTaskS_at : ∀ (d j : Nat) (l : List Task) (m : Int), j + d = l.length → 0 ≤ m → m + 3 * d ≤ 100000000 → l.length ≤ 1048576 → ∃ l', Tl (fun k => laws_markTaskS.l0 k l m (j : Int)) (m + 3 * d, l')
  | 0, j, l, m, e, h0, h1, h2 => by
    refine ⟨l, Tl.step ?_⟩
    simp only [laws_markTaskS.l0]
    exact Tl.iteF (by omega) (Tl.cast (Tl.ret _) (by rw [show m + 3 * ((0 : Nat) : Int) = m by omega]))
  | d + 1, j, l, m, e, h0, h1, h2 => by
    have key : ∀ x : List Task, x.length = l.length → ∃ l', Tl (fun k => laws_markTaskS.l0 k x (m + 3) ((j + 1 : Nat) : Int)) (m + 3 + 3 * d, l') := fun x hx => markTaskS_at d (j + 1) x (m + 3) (by omega) (by omega) (by omega) (by omega)
    obtain ⟨l', hl'⟩ := key _ (show (((l.set j ⟨m, (tk l j).f1, (tk l j).f2⟩).set j ⟨(tk (l.set j ⟨m, (tk l j).f1, (tk l j).f2⟩) j).f0, wrap64 (m + 1), (tk (l.set j ⟨m, (tk l j).f1, (tk l j).f2⟩) j).f2⟩).set j ⟨(tk ((l.set j ⟨m, (tk l j).f1, (tk l j).f2⟩).set j ⟨(tk (l.set j ⟨m, (tk l j).f1, (tk l j).f2⟩) j).f0, wrap64 (m + 1), (tk (l.set j ⟨m, (tk l j).f1, (tk l j).f2⟩) j).f2⟩) j).f0, (tk ((l.set j ⟨m, (tk l j).f1, (tk l j).f2⟩).set j ⟨(tk (l.set j ⟨m, (tk l j).f1, (tk l j).f2⟩) j).f0, wrap64 (m + 1), (tk (l.set j ⟨m, (tk l j).f1, (tk l j).f2⟩) j).f2⟩) j).f1, wrap64 ((wrap64 (m + 1)) + 1)⟩).length = l.length by simp only [List.length_set])
    refine ⟨l', Tl.step ?_⟩
    simp only [laws_markTaskS.l0, rd_tk, Int.toNat_natCast, Option.bind_some]
    rw [wrap3 h0 (by omega), wrap_succ (n := l.length) (by omega) (by omega)]
    exact Tl.iteT (by omega) (Tl.iteT (by omega) (Tl.cast hl' (by rw [show m + 3 + 3 * (d : Int) = m + 3 * ((d + 1 : Nat) : Int) by omega])))
theorem markTaskS_ev (l : List Task) (m : Int) (h0 : 0 ≤ m) (h1 : m ≤ 10000000) (hl : l.length ≤ 1048576) : ∃ l', Tl (fun k => laws_markTaskS.f k l m) (m + 3 * l.length, l') :=
  markTaskS_at l.length 0 l m (by omega) h0 (by omega) hl

theorem wrap4 {m : Int} (h0 : 0 ≤ m) (h1 : m ≤ 100000000) : wrap64 ((wrap64 ((wrap64 ((wrap64 (m + 1)) + 1)) + 1)) + 1) = m + 4 := by
  rw [wrap_id (n := m + 1) (by omega) (by omega), wrap_id (n := m + 1 + 1) (by omega) (by omega), wrap_id (n := m + 1 + 1 + 1) (by omega) (by omega), wrap_id (n := m + 1 + 1 + 1 + 1) (by omega) (by omega)]
  omega
def jm (l : List Job) (j : Nat) : Job := l.getD j z67
theorem rd_jm (l : List Job) (j : Nat) : rd_T67 l (j : Int) = jm l j := rfl
theorem jm_set (l : List Job) (v : Job) {j : Nat} (h : j < l.length) : jm (l.set j v) j = v := by
  unfold jm; simp [List.getD_eq_getElem?_getD, List.getElem?_set, h]
theorem markJobS_at : ∀ (d j : Nat) (l : List Job) (m : Int), j + d = l.length → 0 ≤ m → m + 4 * d ≤ 100000000 → l.length ≤ 1048576 → ∃ l', Tl (fun k => laws_markJobS.l0 k l m (j : Int)) (m + 4 * d, l')
  | 0, j, l, m, e, h0, h1, h2 => by
    refine ⟨l, Tl.step ?_⟩
    simp only [laws_markJobS.l0]
    exact Tl.iteF (by omega) (Tl.cast (Tl.ret _) (by rw [show m + 4 * ((0 : Nat) : Int) = m by omega]))
  | d + 1, j, l, m, e, h0, h1, h2 => by
    have key : ∀ x : List Job, x.length = l.length → ∃ l', Tl (fun k => laws_markJobS.l0 k x (m + 4) ((j + 1 : Nat) : Int)) (m + 4 + 4 * d, l') := fun x hx => markJobS_at d (j + 1) x (m + 4) (by omega) (by omega) (by omega) (by omega)
    have hj : j < l.length := by omega
    obtain ⟨l', hl'⟩ := key (l.set j ⟨m, wrap64 (m + 1), wrap64 ((wrap64 (m + 1)) + 1), wrap64 ((wrap64 ((wrap64 (m + 1)) + 1)) + 1)⟩) (by rw [List.length_set])
    refine ⟨l', Tl.step ?_⟩
    simp only [laws_markJobS.l0, rd_jm, Int.toNat_natCast, Option.bind_some]
    simp only [List.set_set, jm_set _ _ hj, List.length_set]
    rw [wrap4 h0 (by omega), wrap_succ (n := l.length) (by omega) (by omega)]
    exact Tl.iteT (by omega) (Tl.iteT (by omega) (Tl.cast hl' (by rw [show m + 4 + 4 * (d : Int) = m + 4 * ((d + 1 : Nat) : Int) by omega])))
theorem markJobS_ev (l : List Job) (m : Int) (h0 : 0 ≤ m) (h1 : m ≤ 10000000) (hl : l.length ≤ 1048576) : ∃ l', Tl (fun k => laws_markJobS.f k l m) (m + 4 * l.length, l') :=
  markJobS_at l.length 0 l m (by omega) h0 (by omega) hl
end Go.Proofs.Ytonifhkplniblaa.Print

namespace Go.Proofs.Ytonifhkplniblaa.Print
open Go.RowKit Go.Proofs.YtonifhkplniblaaW.PrintWords Go.Proofs.YtonifhkplniblaaW.PrintLast Go.Proofs.YtonifhkplniblaaW.PrintMore
set_option linter.unusedVariables false
set_option linter.unusedSimpArgs false
theorem ob_eq (A : Option Addr) (n c n' c' : Nat) : (Value.slice A n c).ownBlock = (Value.slice A n' c').ownBlock := by cases A <;> rfl
/-- As Kd.R; the value's capacity is its own. -/
def Kd.RR {α : Type} (d : Kd α) (e : Nat) (w : World) (base : Nat) (ok : Nat → Prop) (v : Value) (xs : List α) : Prop := ∃ A n c c', v = .slice A n c ∧ (c = n ∨ c = c') ∧ n ≤ c ∧ d.R e w base ok (.slice A n c') xs
section
variable {α : Type} {d : Kd α} {e e' : Nat} {w w1 W W2 : World} {base b' : Nat} {ok ok' ok1 S : Nat → Prop} {u v : Value} {xs : List α}
theorem Kd.RR_of_R (h : d.R e w base ok v xs) : Kd.RR d e w base ok v xs := by
  obtain ⟨A, c, rfl⟩ := Kd.R_slice h
  exact ⟨A, _, c, c, rfl, .inr rfl, (Kd.R_reads' h).2.1, h⟩
theorem Kd.RR_nil (d : Kd α) (e : Nat) (w : World) (base : Nat) (ok : Nat → Prop) : Kd.RR d e w base ok (.slice none 0 0) [] := ⟨none, 0, 0, 0, rfl, .inl rfl, Nat.le_refl _, Kd.R_nil _ _ _ _ _⟩
theorem Kd.RR_ne (h : Kd.RR d e w base ok v xs) {g t : Nat} {cells : Array Value} (hb : w.heap[g]? = some (.cells cells t (0, 0))) (ht : e ≠ t) : some g ≠ v.ownBlock := by
  obtain ⟨A, n, c, c', rfl, hcc, hc, h⟩ := h
  rw [ob_eq A n c n c']
  exact Kd.R_ne h hb ht
theorem Kd.RR_slice (h : Kd.RR d e w base ok v xs) : ∃ A c, v = .slice A xs.length c := by
  obtain ⟨A, n, c, c', rfl, hcc, hc, h⟩ := h
  obtain ⟨rfl, _⟩ := Kd.R_reads' h
  exact ⟨A, c, rfl⟩
theorem Kd.RR_reads' {A : Option Addr} {n c : Nat} (h : Kd.RR d e w base ok (.slice A n c) xs) : n = xs.length ∧ n ≤ c ∧ d.C w A xs.length xs := by
  obtain ⟨A', n', c', c'', he, hcc, hc, h⟩ := h
  injection he with h1 h2 h3
  subst h1 h2 h3
  obtain ⟨h1, _, h3⟩ := Kd.R_reads' h
  exact ⟨h1, hc, h3⟩
theorem Kd.RR_base (h : Kd.RR d e w base ok v xs) : ∀ k, v.ownBlock = some k → base ≤ k := by
  obtain ⟨A, n, c, c', rfl, hcc, hc, h⟩ := h
  rw [ob_eq A n c n c']
  exact Kd.R_base h
theorem Kd.RR_lt (h : Kd.RR d e w base ok v xs) : ∀ k, v.ownBlock = some k → k < w.heap.size := by
  obtain ⟨A, n, c, c', rfl, hcc, hc, h⟩ := h
  rw [ob_eq A n c n c']
  exact Kd.R_lt h
end
section
variable {α : Type} {enc : α → Value} {h1 : ∀ x, (enc x).oneCell' = true} {e : Nat} {W : World} {base : Nat} {ok : Nat → Prop} {xs : List α}
end
section
variable {P : Program} {ops : Array Oper} {o : Oper} {a : Act} {Q : Exit → Act → World → Prop} {Kc : Act → World → Prop} {α : Type}
section
variable {rest : List Oper}
end
end
end Go.Proofs.Ytonifhkplniblaa.Print

namespace Go.Proofs.Ytonifhkplniblaa.Print
open Go.RowKit Go.Proofs.YtonifhkplniblaaW.PrintWords Go.Proofs.YtonifhkplniblaaW.PrintLast Go.Proofs.YtonifhkplniblaaW.PrintMore
attribute [local go_sem] max2_int min2_int max_two min_two max_three min_three max_four min_four
set_option linter.unusedVariables false
set_option linter.unusedSimpArgs false
open Go.Proofs.Ytonifhkplniblaa.Walk
/-- A simulation, as it is read. -/
def MachR (W : World) (g : Nat) (A : Option Addr) (c : Nat) (jobs : List (S67)) (D : Option Addr) (cd : Nat) (done : List Int) (now : Int) : Prop :=
  W.heap[g]? = some (.cells #[.slice A jobs.length c, .slice D done.length cd, .int .i64 now] 124 (0, 0)) ∧ Kd.C k67 W A jobs.length jobs ∧ Kd.C (Kd.int .i64) W D done.length done ∧ done.length = jobs.length
theorem MachR.drewN {W : World} {g : Nat} {A : Option Addr} {c : Nat} {jobs : List (S67)} {D : Option Addr} {cd : Nat} {done : List Int} {now : Int} (h : MachR W g A c jobs D cd done now) (n : Nat) : MachR (W.drewN n) g A c jobs D cd done now :=
  ⟨blk_drewN h.1 n, Kd.C_drewN h.2.1 n, Kd.C_drewN h.2.2.1 n, h.2.2.2⟩
theorem MachR.below {W W' : World} {g : Nat} {A : Option Addr} {c : Nat} {jobs : List (S67)} {D : Option Addr} {cd : Nat} {done : List Int} {now : Int} (h : MachR W g A c jobs D cd done now) (hb : Below W.heap.size W W') : MachR W' g A c jobs D cd done now :=
  ⟨blk_below h.1 hb, Kd.C_below h.2.1 hb, Kd.C_below h.2.2.1 hb, h.2.2.2⟩
/-- Whether a job is released and unfinished. -/
def rdyB (jobs : List (S67)) (done : List Int) (now : Int) (i : Nat) : Bool := decide ((jobs.getD i z67).f1 ≤ now) && decide (done.getD i 0 < (jobs.getD i z67).f3)
set_option maxHeartbeats 2000000 in
set_option maxRecDepth 100000 in
theorem ready_calls (g : Nat) (A : Option Addr) (c : Nat) (jobs : List (S67)) (D : Option Addr) (cd : Nat) (done : List Int) (now : Int) (i : Nat) (hi : i < jobs.length) (w : World) (h : MachR w g A c jobs D cd done now) :
    Calls Try.prog 110 #[.pointer (some ⟨g, 0, none⟩), .int .i64 (i : Int)] w fun e w' => e = .returned (.bool (rdyB jobs done now i)) ∧ ∃ m, w' = w.drewN m := by
  obtain ⟨hb, hj, hd, hl⟩ := h
  have hm0 : w.cell? ⟨g, 0, none⟩ = some (.slice A jobs.length c) := (blk_cell hb 0).trans rfl
  have hm1 : w.cell? ⟨g, 1, none⟩ = some (.slice D done.length cd) := (blk_cell hb 1).trans rfl
  have hm2 : w.cell? ⟨g, 2, none⟩ = some (.int .i64 now) := (blk_cell hb 2).trans rfl
  obtain ⟨ad0, e0, hy0, hy1, hy2, hy3⟩ := at_T67 hj (i : Int) (by omega) (by omega)
  cases e0
  obtain ⟨ad1, e1, hx0⟩ := Kd.at_int hd (i : Int) (by omega) (by omega)
  cases e1
  simp only [Int.toNat_natCast] at hy0 hy1 hy2 hy3 hx0
  have hrd : rd_T67 jobs (i : Int) = jobs.getD i z67 := rfl
  have hrd1 : rd done (i : Int) = done.getD i 0 := rfl
  rw [hrd] at hy0 hy1 hy2 hy3
  rw [hrd1] at hx0
  have hu := Try.underlying124
  have huJ := Try.underlying67
  have q0 : 0 ≤ (i : Int) := by omega
  have q1 : (i : Int) < (jobs.length : Int) := by omega
  have q2 : (i : Int) < (done.length : Int) := by omega
  unfold rdyB
  obtain ⟨y, hy⟩ : ∃ y, y = jobs.getD i z67 := ⟨_, rfl⟩
  rw [← hy] at hy0 hy1 hy2 hy3 ⊢
  obtain ⟨x, hx⟩ : ∃ x, x = done.getD i 0 := ⟨_, rfl⟩
  rw [← hx] at hx0 ⊢
  clear hrd hrd1 hy hx hb hj hd hl
  obtain ⟨ya, yb, yc, yd⟩ := y
  simp only at hy0 hy1 hy2 hy3 ⊢
  by_cases d1 : yb ≤ now
  · have d1b : decide (yb ≤ now) = true := decide_eq_true d1
    rw [d1b]
    clear d1
    go_enter Try.func110, Try.ntmps110
    go_wp2_with fail
    go_quiet (fail)
    go_wp2
    go_ret
    exact ⟨by simp, _, rfl⟩
  · have d1b : decide (yb ≤ now) = false := decide_eq_false d1
    rw [d1b]
    clear d1
    go_enter Try.func110, Try.ntmps110
    go_wp2_with fail
    go_quiet (fail)
    go_wp2
    go_ret
    exact ⟨by simp, _, rfl⟩
set_option maxHeartbeats 2000000 in
set_option maxRecDepth 100000 in
theorem deadline_calls (g : Nat) (A : Option Addr) (c : Nat) (jobs : List (S67)) (D : Option Addr) (cd : Nat) (done : List Int) (now : Int) (i : Nat) (hi : i < jobs.length) (w : World) (h : MachR w g A c jobs D cd done now) :
    Calls Try.prog 112 #[.pointer (some ⟨g, 0, none⟩), .int .i64 (i : Int)] w fun e w' => e = .returned (.int .i64 (jobs.getD i z67).f2) ∧ ∃ m, w' = w.drewN m := by
  obtain ⟨hb, hj, hd, hl⟩ := h
  have hm0 : w.cell? ⟨g, 0, none⟩ = some (.slice A jobs.length c) := (blk_cell hb 0).trans rfl
  obtain ⟨ad0, e0, hy0, hy1, hy2, hy3⟩ := at_T67 hj (i : Int) (by omega) (by omega)
  cases e0
  simp only [Int.toNat_natCast] at hy0 hy1 hy2 hy3
  have hrd : rd_T67 jobs (i : Int) = jobs.getD i z67 := rfl
  rw [hrd] at hy0 hy1 hy2 hy3
  have hu := Try.underlying124
  have huJ := Try.underlying67
  have q0 : 0 ≤ (i : Int) := by omega
  have q1 : (i : Int) < (jobs.length : Int) := by omega
  obtain ⟨y, hy⟩ : ∃ y, y = jobs.getD i z67 := ⟨_, rfl⟩
  rw [← hy] at hy0 hy1 hy2 hy3 ⊢
  clear hrd hy hb hj hd hl
  obtain ⟨ya, yb, yc, yd⟩ := y
  go_enter Try.func112, Try.ntmps112
  go_wp2
  go_ret
  exact ⟨rfl, 0, rfl⟩
theorem any_calls (v : Value) (i : Int) (w : World) :
    Calls Try.prog 148 #[v, .int .i64 i] w fun e w' => e = .returned (.bool true) ∧ ∃ m, w' = w.drewN m := by
  go_enter Try.func148, Try.ntmps148
  go_wp2
  go_ret
  exact ⟨rfl, 0, rfl⟩
/-- The first of the candidates with the least key, among the first. -/
def bestN (ok : Nat → Bool) (key : Nat → Int) : Nat → Int
  | 0 => -1
  | j + 1 => if ok j && (decide (bestN ok key j < 0) || decide (key j < key (bestN ok key j).toNat)) then (j : Int) else bestN ok key j
theorem bestN_in (ok : Nat → Bool) (key : Nat → Int) : ∀ j, -1 ≤ bestN ok key j ∧ bestN ok key j < j
  | 0 => by simp [bestN]
  | j + 1 => by
    have := bestN_in ok key j
    unfold bestN
    split <;> omega
theorem bestN_ok (ok : Nat → Bool) (key : Nat → Int) : ∀ j, 0 ≤ bestN ok key j → ok (bestN ok key j).toNat = true
  | 0, h => by simp [bestN] at h
  | j + 1, h => by
    have ih := bestN_ok ok key j
    unfold bestN at h ⊢
    split
    · rename_i g
      rw [Bool.and_eq_true] at g
      simpa using g.1
    · rename_i g
      rw [if_neg g] at h
      exact ih h
set_option maxHeartbeats 4000000 in
set_option maxRecDepth 100000 in
theorem best_calls (g : Nat) (A : Option Addr) (c : Nat) (jobs : List (S67)) (D : Option Addr) (cd : Nat) (done : List Int) (now : Int) (w : World) (h : MachR w g A c jobs D cd done now) (key : Nat → Int) (may : Nat → Bool)
    (fk : FuncId) (k1 k2 : Array Value) {fnk : Func} (hfk : Try.prog.funcs[fk]? = some fnk) (hnk : (fnk.name == "runtime.NumGoroutine") = false) (hbk : fnk.body.isSome = true)
    (hck : ∀ (i n : Nat), i < jobs.length → Calls Try.prog fk (k1 ++ #[.int .i64 (i : Int)] ++ k2) (w.drewN n) fun e w' => e = .returned (.int .i64 (key i)) ∧ ∃ m, w' = (w.drewN n).drewN m)
    (fm : FuncId) (m1 m2 : Array Value) {fnm : Func} (hfm : Try.prog.funcs[fm]? = some fnm) (hnm : (fnm.name == "runtime.NumGoroutine") = false) (hbm : fnm.body.isSome = true)
    (hcm : ∀ (i n : Nat), i < jobs.length → Calls Try.prog fm (m1 ++ #[.int .i64 (i : Int)] ++ m2) (w.drewN n) fun e w' => e = .returned (.bool (may i)) ∧ ∃ m, w' = (w.drewN n).drewN m) :
    Calls Try.prog 111 #[.pointer (some ⟨g, 0, none⟩), .func (.func fk) k1 k2, .func (.func fm) m1 m2] w fun e w' => e = .returned (.int .i64 (bestN (fun i => rdyB jobs done now i && may i) key jobs.length)) ∧ ∃ m, w' = w.drewN m := by
  have HM := Aside0.mk h
  have hu := Try.underlying124
  have hm0 : w.cell? ⟨g, 0, none⟩ = some (.slice A jobs.length c) := (blk_cell h.1 0).trans rfl
  have hmx : jobs.length ≤ 9223372036854775807 := h.2.1.2.1
  have HFK := Aside0.mk hfk
  have HFM := Aside0.mk hfm
  have HCK := Aside0.mk hck
  have HCM := Aside0.mk hcm
  obtain ⟨B, hB⟩ : ∃ B, B = bestN (fun i => rdyB jobs done now i && may i) key := ⟨_, rfl⟩
  rw [← hB]
  have HIN : Hid (∀ j, -1 ≤ B j ∧ B j < j) := Lib.hid (by rw [hB]; exact bestN_in _ _)
  have HBS : Hid (∀ j, B (j + 1) = if (rdyB jobs done now j && may j) && (decide (B j < 0) || decide (key j < key (B j).toNat)) then (j : Int) else B j) := Lib.hid (fun j => by rw [hB]; rfl)
  have HB0 : Hid (B 0 = -1) := Lib.hid (by rw [hB]; rfl)
  clear h hfk hfm hck hcm hB
  go_enter Try.func111, Try.ntmps111
  go_wp2
  go_loopw [7, 14] (fun v7 v14 w' => ∃ j : Nat, v14 = .int .i64 j ∧ j ≤ jobs.length ∧ v7 = .int .i64 (B j) ∧ ∃ n, w' = w.drewN n) (fun v7 v14 _ => jobs.length - (intOf v14).toNat)
  case atStart => exact ⟨0, rfl, Nat.zero_le _, by rw [HB0.out], 0, rfl⟩
  case round =>
    obtain ⟨j, rfl, hj, rfl, n, rfl⟩ := hrel
    have hin := HIN.out j
    have hst := HBS.out j
    obtain ⟨b, hb⟩ : ∃ b, b = B j := ⟨_, rfl⟩
    rw [← hb] at hin hst ⊢
    by_cases hlt : j < jobs.length
    · have b1 : decide ((j : Int) < (jobs.length : Int)) = true := decide_eq_true (by omega)
      have hr0 := fun n => ready_calls g A c jobs D cd done now j hlt (w.drewN n) (HM.out.drewN n)
      cases hr : rdyB jobs done now j with
      | false =>
        have HN : Hid (B (j + 1) = b) := Lib.hid (by rw [hst, hr]; rfl)
        have HRDY : Hid (∀ n, Calls Try.prog 110 #[.pointer (some ⟨g, 0, none⟩), .int .i64 (j : Int)] (w.drewN n) fun e w' => e = .returned (.bool false) ∧ ∃ m, w' = (w.drewN n).drewN m) := Lib.hid (fun n => by rw [← hr]; exact hr0 n)
        clear hst hr hr0 hin hb
        go_wp2_with ((go_at_call 110; refine (HRDY.out _).mono ?_; rintro e w2 ⟨rfl, mm, rfl⟩; rw [World.drewN_drewN]))
        ((go_roundw; (case rel => exact ⟨j + 1, by go_num, by omega, by rw [HN.out], _, rfl⟩); (case measure => simp [intOf]; omega)))
      | true =>
        have HRDY : Hid (∀ n, Calls Try.prog 110 #[.pointer (some ⟨g, 0, none⟩), .int .i64 (j : Int)] (w.drewN n) fun e w' => e = .returned (.bool true) ∧ ∃ m, w' = (w.drewN n).drewN m) := Lib.hid (fun n => by rw [← hr]; exact hr0 n)
        cases hy : may j with
        | false =>
          have HN : Hid (B (j + 1) = b) := Lib.hid (by rw [hst, hr, hy]; rfl)
          have HMAY : Hid (∀ n, Calls Try.prog fm (m1 ++ #[.int .i64 (j : Int)] ++ m2) (w.drewN n) fun e w' => e = .returned (.bool false) ∧ ∃ m, w' = (w.drewN n).drewN m) := Lib.hid (fun n => by rw [← hy]; exact HCM.out j n hlt)
          clear hst hr hr0 hin hb hy
          go_wp2_with (first | ((go_at_call 110; refine (HRDY.out _).mono ?_; rintro e w2 ⟨rfl, mm, rfl⟩; rw [World.drewN_drewN])) | ((with_reducible refine gate_value (n := 21) rfl ?_; refine gate_guard (by first | rfl | (go_simp; done) | (simp [go_sem]; done)) ?_; dsimp only; go_must (refine goesF_ (some 23) rfl rfl rfl rfl HFM.out hnm hbm (m1 ++ #[.int .i64 (j : Int)] ++ m2) (by simp [Act.eval]) ?_; refine (HMAY.out _).mono ?_; rintro e w2 ⟨rfl, mm, rfl⟩; rw [World.drewN_drewN]; refine ⟨_, rfl, ?_⟩))))
          ((go_roundw; (case rel => exact ⟨j + 1, by go_num, by omega, by rw [HN.out], _, rfl⟩); (case measure => simp [intOf]; omega)))
        | true =>
          have HMAY : Hid (∀ n, Calls Try.prog fm (m1 ++ #[.int .i64 (j : Int)] ++ m2) (w.drewN n) fun e w' => e = .returned (.bool true) ∧ ∃ m, w' = (w.drewN n).drewN m) := Lib.hid (fun n => by rw [← hy]; exact HCM.out j n hlt)
          by_cases hneg : b < 0
          · have hnb : decide (b < 0) = true := decide_eq_true hneg
            have HN : Hid (B (j + 1) = (j : Int)) := Lib.hid (by rw [hst, hr, hy, hnb]; rfl)
            clear hst hr hr0 hin hb hy hneg
            go_wp2_with (first | ((go_at_call 110; refine (HRDY.out _).mono ?_; rintro e w2 ⟨rfl, mm, rfl⟩; rw [World.drewN_drewN])) | ((with_reducible refine gate_value (n := 21) rfl ?_; refine gate_guard (by first | rfl | (go_simp; done) | (simp [go_sem]; done)) ?_; dsimp only; go_must (refine goesF_ (some 23) rfl rfl rfl rfl HFM.out hnm hbm (m1 ++ #[.int .i64 (j : Int)] ++ m2) (by simp [Act.eval]) ?_; refine (HMAY.out _).mono ?_; rintro e w2 ⟨rfl, mm, rfl⟩; rw [World.drewN_drewN]; refine ⟨_, rfl, ?_⟩))))
            ((go_roundw; (case rel => exact ⟨j + 1, by go_num, by omega, by rw [HN.out], _, rfl⟩); (case measure => simp [intOf]; omega)))
          · have hnb : decide (b < 0) = false := decide_eq_false hneg
            have HKA : Hid (∀ n, Calls Try.prog fk (k1 ++ #[.int .i64 (j : Int)] ++ k2) (w.drewN n) fun e w' => e = .returned (.int .i64 (key j)) ∧ ∃ m, w' = (w.drewN n).drewN m) := Lib.hid (fun n => HCK.out j n hlt)
            have HKB : Hid (∀ n, Calls Try.prog fk (k1 ++ #[.int .i64 b] ++ k2) (w.drewN n) fun e w' => e = .returned (.int .i64 (key b.toNat)) ∧ ∃ m, w' = (w.drewN n).drewN m) := Lib.hid (fun n => by
              have hbe : b = ((b.toNat : Nat) : Int) := by omega
              have := HCK.out b.toNat n (by omega)
              rw [← hbe] at this
              exact this)
            by_cases hk : key j < key b.toNat
            · have hkb : decide (key j < key b.toNat) = true := decide_eq_true hk
              have HN : Hid (B (j + 1) = (j : Int)) := Lib.hid (by rw [hst, hr, hy, hkb]; simp)
              clear hst hr hr0 hin hb hy hneg hk
              go_wp2_with (first | ((go_at_call 110; refine (HRDY.out _).mono ?_; rintro e w2 ⟨rfl, mm, rfl⟩; rw [World.drewN_drewN])) | ((with_reducible refine gate_value (n := 21) rfl ?_; refine gate_guard (by first | rfl | (go_simp; done) | (simp [go_sem]; done)) ?_; dsimp only; go_must (refine goesF_ (some 23) rfl rfl rfl rfl HFM.out hnm hbm (m1 ++ #[.int .i64 (j : Int)] ++ m2) (by simp [Act.eval]) ?_; refine (HMAY.out _).mono ?_; rintro e w2 ⟨rfl, mm, rfl⟩; rw [World.drewN_drewN]; refine ⟨_, rfl, ?_⟩))) | ((with_reducible refine gate_value (n := 29) rfl ?_; refine gate_guard (by first | rfl | (go_simp; done) | (simp [go_sem]; done)) ?_; dsimp only; go_must (refine goesF_ (some 31) rfl rfl rfl rfl HFK.out hnk hbk (k1 ++ #[.int .i64 (j : Int)] ++ k2) (by simp [Act.eval]) ?_; refine (HKA.out _).mono ?_; rintro e w2 ⟨rfl, mm, rfl⟩; rw [World.drewN_drewN]; refine ⟨_, rfl, ?_⟩))) | ((with_reducible refine gate_value (n := 32) rfl ?_; refine gate_guard (by first | rfl | (go_simp; done) | (simp [go_sem]; done)) ?_; dsimp only; go_must (refine goesF_ (some 34) rfl rfl rfl rfl HFK.out hnk hbk (k1 ++ #[.int .i64 b] ++ k2) (by simp [Act.eval]) ?_; refine (HKB.out _).mono ?_; rintro e w2 ⟨rfl, mm, rfl⟩; rw [World.drewN_drewN]; refine ⟨_, rfl, ?_⟩))))
              ((go_roundw; (case rel => exact ⟨j + 1, by go_num, by omega, by rw [HN.out], _, rfl⟩); (case measure => simp [intOf]; omega)))
            · have hkb : decide (key j < key b.toNat) = false := decide_eq_false hk
              have HN : Hid (B (j + 1) = b) := Lib.hid (by rw [hst, hr, hy, hnb, hkb]; rfl)
              clear hst hr hr0 hin hb hy hneg hk
              go_wp2_with (first | ((go_at_call 110; refine (HRDY.out _).mono ?_; rintro e w2 ⟨rfl, mm, rfl⟩; rw [World.drewN_drewN])) | ((with_reducible refine gate_value (n := 21) rfl ?_; refine gate_guard (by first | rfl | (go_simp; done) | (simp [go_sem]; done)) ?_; dsimp only; go_must (refine goesF_ (some 23) rfl rfl rfl rfl HFM.out hnm hbm (m1 ++ #[.int .i64 (j : Int)] ++ m2) (by simp [Act.eval]) ?_; refine (HMAY.out _).mono ?_; rintro e w2 ⟨rfl, mm, rfl⟩; rw [World.drewN_drewN]; refine ⟨_, rfl, ?_⟩))) | ((with_reducible refine gate_value (n := 29) rfl ?_; refine gate_guard (by first | rfl | (go_simp; done) | (simp [go_sem]; done)) ?_; dsimp only; go_must (refine goesF_ (some 31) rfl rfl rfl rfl HFK.out hnk hbk (k1 ++ #[.int .i64 (j : Int)] ++ k2) (by simp [Act.eval]) ?_; refine (HKA.out _).mono ?_; rintro e w2 ⟨rfl, mm, rfl⟩; rw [World.drewN_drewN]; refine ⟨_, rfl, ?_⟩))) | ((with_reducible refine gate_value (n := 32) rfl ?_; refine gate_guard (by first | rfl | (go_simp; done) | (simp [go_sem]; done)) ?_; dsimp only; go_must (refine goesF_ (some 34) rfl rfl rfl rfl HFK.out hnk hbk (k1 ++ #[.int .i64 b] ++ k2) (by simp [Act.eval]) ?_; refine (HKB.out _).mono ?_; rintro e w2 ⟨rfl, mm, rfl⟩; rw [World.drewN_drewN]; refine ⟨_, rfl, ?_⟩))))
              ((go_roundw; (case rel => exact ⟨j + 1, by go_num, by omega, by rw [HN.out], _, rfl⟩); (case measure => simp [intOf]; omega)))
    · have b1 : decide ((j : Int) < (jobs.length : Int)) = false := decide_eq_false (by omega)
      have hje : j = jobs.length := by omega
      subst hje
      have HBE := Lib.hid hb
      clear hst hin hb
      go_wp2
      go_ret
      exact ⟨by rw [← HBE.out]; rfl, _, rfl⟩
set_option maxHeartbeats 1000000 in
theorem edf_calls (g : Nat) (A : Option Addr) (c : Nat) (jobs : List (S67)) (D : Option Addr) (cd : Nat) (done : List Int) (now : Int) (w : World) (h : MachR w g A c jobs D cd done now) :
    Calls Try.prog 82 #[.pointer (some ⟨g, 0, none⟩)] w fun e w' => e = .returned (.int .i64 (bestN (rdyB jobs done now) (fun i => (jobs.getD i z67).f2) jobs.length)) ∧ ∃ m, w' = w.drewN m := by
  have hmf : ∀ (fn : Fn) (first cap : Array Value) (w : World), (Instr.makeFunc fn first cap).run Try.prog w = .ok (.func fn first cap) w := fun _ _ _ _ => rfl
  have H := Lib.hid (best_calls g A c jobs D cd done now w h (fun i => (jobs.getD i z67).f2) (fun _ => true) 112 #[.pointer (some ⟨g, 0, none⟩)] #[] Try.func112 (by kernel_rfl) rfl
    (fun i n hi => deadline_calls g A c jobs D cd done now i hi (w.drewN n) (h.drewN n)) 148 #[.pointer (some ⟨g, 0, none⟩)] #[] Try.func148 (by kernel_rfl) rfl (fun i n hi => any_calls _ i (w.drewN n)))
  have he : (fun i => rdyB jobs done now i && true) = rdyB jobs done now := by funext i; simp
  have HE := Lib.hid he
  clear h he
  go_enter Try.func82, Try.ntmps82
  go_wp2_with (go_at_call 111; refine H.out.mono ?_; rw [HE.out]; rintro e w2 ⟨rfl, m, rfl⟩)
  go_ret
  exact ⟨rfl, _, rfl⟩


set_option maxHeartbeats 2000000 in
set_option maxRecDepth 100000 in
theorem newMachine_calls (A : Option Addr) (c : Nat) (jobs : List (S67)) (w : World) (hl : jobs.length ≤ 1000000) :
    Calls Try.prog 118 #[.slice A jobs.length c] w fun e w' => ∃ (g : Nat) (dv : Value), e = .returned (.pointer (some ⟨g, 0, none⟩)) ∧ w.heap.size ≤ g ∧ w'.heap[g]? = some (.cells #[.slice A jobs.length c, dv, .int .i64 0] 124 (0, 0)) ∧ Kd.R (Kd.int .i64) 3 w' w.heap.size (fun _ => True) dv (List.replicate jobs.length 0) ∧ Below w.heap.size w w' := by
  have hu := Try.underlying124
  have HB := Aside0.mk (Below.refl w.heap.size w)
  have n0 : (0 : Int) ≤ (jobs.length : Int) := by omega
  go_enter Try.func118, Try.ntmps118
  go_wp2_with (first | ((with_reducible refine gate_dst (N := 6) rfl ?_); refine Kd.R_make (Kd.int .i64) _ 3 rfl (N := 6) rfl 30 _ _ rfl (jobs.length : Int) rfl rfl Try.underlying30 (.int .i64 0) 8 info3 rfl (by decide) (by omega) 0 (ok := fun _ => True) (okp := fun _ => True) rfl (fun _ hk => hk) trivial n0 (by simp only [Int.toNat_natCast]; omega) (Below.refl _ _) (Nat.le_refl _) ?_; intro v103 w11 ho12 hb hg_ hnew_; clear hg_ hnew_; simp only [Int.toNat_natCast] at ho12; have n0_ := Aside0.mk ho12; have n1_ := Aside0.mk (below_step (by repeat (first | (with_reducible first | exact HB.out | apply below_alloc | apply pw_below_drewN | apply below_drew1) | exact HB.out)) hb); clear HB; have HO := n0_; have HB := n1_; clear n0_ n1_; clear hb ho12; obtain ⟨Ad, cd, ed⟩ := Kd.R_slice HO.out; have hln : (List.replicate jobs.length (0 : Int)).length = jobs.length := List.length_replicate; rw [hln] at ed; subst ed; clear hln) | ((with_reducible refine gate_dst (N := 8) rfl ?_); refine box_event ?hg (N := 8) ?hd (cs := #[.slice A jobs.length c, .slice Ad jobs.length cd, .int .i64 0]) (t := 124) ?hr ?_; (case hd => rfl); (case hg => rfl); (case hr => first | (go_simp; done) | (go_simp; rfl)); intro g hg w2 hbox hb2; have HG := Aside0.mk hg; have HBX := Aside0.mk hbox; have HB2 := Aside0.mk hb2; clear hg hbox hb2))
  go_ret
  exact ⟨g, .slice Ad jobs.length cd, rfl, by rw [HG.out]; exact HB.out.size, HBX.out, Kd.R_below HO.out HB2.out, below_step HB.out HB2.out⟩


section
variable {w00 w W W2 : World} {S : Nat → Prop} {g go g4 : Nat} {A : Option Addr} {c : Nat} {jobs : List (S67)} {dv rv fv : Value} {done run fin : List Int} {now : Int}
/-- Which blocks are apart. -/
def SimD (w : World) (g go g4 : Nat) (dv rv fv : Value) : Prop :=
  w.heap.size ≤ g ∧ w.heap.size ≤ go ∧ w.heap.size ≤ g4 ∧ go ≠ g4 ∧ (∀ k, dv.ownBlock = some k → rv.ownBlock ≠ some k ∧ fv.ownBlock ≠ some k) ∧ (∀ k, rv.ownBlock = some k → fv.ownBlock ≠ some k)
/-- What a simulation holds in memory. -/
def SimI (w00 w : World) (S : Nat → Prop) (g go g4 : Nat) (A : Option Addr) (c : Nat) (jobs : List (S67)) (dv rv fv : Value) (W : World) (done run fin : List Int) (now : Int) : Prop :=
  W.heap[g]? = some (.cells #[.slice A jobs.length c, dv, .int .i64 now] 124 (0, 0)) ∧ W.heap[go]? = some (.cells #[rv, fv] 32 (0, 0)) ∧ W.heap[g4]? = some (.cells #[.slice none 0 0, .slice none 0 0] 32 (0, 0)) ∧
  Kd.R (Kd.int .i64) 3 W w.heap.size (fun _ => True) dv done ∧ Kd.R (Kd.int .i64) 3 W w.heap.size (fun _ => True) rv run ∧ Kd.R (Kd.int .i64) 3 W w.heap.size (fun _ => True) fv fin ∧ Kept w W S ∧ Below w00.heap.size w00 W
theorem row_step {v : Value} {xs : List Int} {base : Nat} (h : Kd.R (Kd.int .i64) 3 W base (fun _ => True) v xs) (hm : ∀ k, v.ownBlock = some k → k < W.heap.size → W2.heap[k]? = W.heap[k]?) : Kd.R (Kd.int .i64) 3 W2 base (fun _ => True) v xs :=
  Kd.R_mono (Kd.R_step (Kd.R_tight rfl h) (fun k hk hlt => hm k hk.symm hlt)) (fun _ _ => trivial)
theorem SimI.keep (h : SimI w00 w S g go g4 A c jobs dv rv fv W done run fin now) (hD : SimD w g go g4 dv rv fv) (hS : ∀ k, S k → k < w.heap.size) (hk : Kept W W2 S) (hb : Below w00.heap.size W W2) : SimI w00 w S g go g4 A c jobs dv rv fv W2 done run fin now := by
  obtain ⟨h1, h2, h3, h4, h5, h6, h7, h8⟩ := h
  obtain ⟨d1, d2, d3, _⟩ := hD
  have hn : ∀ k, w.heap.size ≤ k → ¬ S k := fun k hk h => by have := hS k h; omega
  refine ⟨blk_kept h1 hk (hn _ d1), blk_kept h2 hk (hn _ d2), blk_kept h3 hk (hn _ d3), ?_, ?_, ?_, h7.then_ hk (fun k h => .inl h), h8.trans hb⟩
  · exact row_step h4 (fun k e hlt => hk.2 k hlt (hn k (Kd.R_base h4 k e)))
  · exact row_step h5 (fun k e hlt => hk.2 k hlt (hn k (Kd.R_base h5 k e)))
  · exact row_step h6 (fun k e hlt => hk.2 k hlt (hn k (Kd.R_base h6 k e)))
theorem SimI.drewN (h : SimI w00 w S g go g4 A c jobs dv rv fv W done run fin now) (n : Nat) : SimI w00 w S g go g4 A c jobs dv rv fv (W.drewN n) done run fin now := by
  obtain ⟨h1, h2, h3, h4, h5, h6, h7, h8⟩ := h
  exact ⟨h1, h2, h3, Kd.R_drewN h4 n, Kd.R_drewN h5 n, Kd.R_drewN h6 n, h7.drewN n, pw_below_drewN h8 n⟩
theorem SimI.drew (h : SimI w00 w S g go g4 A c jobs dv rv fv W done run fin now) : SimI w00 w S g go g4 A c jobs dv rv fv W.drew done run fin now := by
  obtain ⟨h1, h2, h3, h4, h5, h6, h7, h8⟩ := h
  exact ⟨h1, h2, h3, Kd.R_drew h4, Kd.R_drew h5, Kd.R_drew h6, h7.drew, below_drew h8⟩
theorem SimI.setRun {gr n cr : Nat} (h : SimI w00 w S g go g4 A c jobs dv (.slice (some ⟨gr, 0, none⟩) n cr) fv W done run fin now) (hD : SimD w g go g4 dv (.slice (some ⟨gr, 0, none⟩) n cr) fv) (h0 : w00.heap.size ≤ w.heap.size) (i : Int) (x : Int) :
    SimI w00 w S g go g4 A c jobs dv (.slice (some ⟨gr, 0, none⟩) n cr) fv (W.setCell ⟨gr, i.toNat, none⟩ (.int .i64 x)) done (run.set i.toNat x) fin now := by
  obtain ⟨h1, h2, h3, h4, h5, h6, h7, h8⟩ := h
  obtain ⟨d1, d2, d3, d4, d5, d6⟩ := hD
  obtain ⟨p1, p2⟩ := Kd.R_putg h5 i x
  have hgr : w.heap.size ≤ gr := Kd.R_base h5 gr rfl
  have e1 : gr ≠ g := fun e => Kd.R_ne h5 h1 (by decide) (by rw [← e]; rfl)
  have e2 : gr ≠ go := fun e => Kd.R_ne h5 h2 (by decide) (by rw [← e]; rfl)
  have e3 : gr ≠ g4 := fun e => Kd.R_ne h5 h3 (by decide) (by rw [← e]; rfl)
  refine ⟨blk_far h1 e1.symm _, blk_far h2 e2.symm _, blk_far h3 e3.symm _, row_step h4 (fun k e hlt => Below.heap_setCell _ _ _ k (fun e' => (d5 k e).1 (by rw [e']; rfl))), p1, row_step h6 (fun k e hlt => Below.heap_setCell _ _ _ k (fun e' => d6 gr rfl (by rw [e, e']))), h7.setCell (.inr hgr) _, h8.setCell (Nat.le_trans h0 hgr) _⟩
theorem SimI.setDone {gr n cr : Nat} (h : SimI w00 w S g go g4 A c jobs (.slice (some ⟨gr, 0, none⟩) n cr) rv fv W done run fin now) (hD : SimD w g go g4 (.slice (some ⟨gr, 0, none⟩) n cr) rv fv) (h0 : w00.heap.size ≤ w.heap.size) (i : Int) (x : Int) :
    SimI w00 w S g go g4 A c jobs (.slice (some ⟨gr, 0, none⟩) n cr) rv fv (W.setCell ⟨gr, i.toNat, none⟩ (.int .i64 x)) (done.set i.toNat x) run fin now := by
  obtain ⟨h1, h2, h3, h4, h5, h6, h7, h8⟩ := h
  obtain ⟨d1, d2, d3, d4, d5, d6⟩ := hD
  obtain ⟨p1, p2⟩ := Kd.R_putg h4 i x
  have hgr : w.heap.size ≤ gr := Kd.R_base h4 gr rfl
  have e1 : gr ≠ g := fun e => Kd.R_ne h4 h1 (by decide) (by rw [← e]; rfl)
  have e2 : gr ≠ go := fun e => Kd.R_ne h4 h2 (by decide) (by rw [← e]; rfl)
  have e3 : gr ≠ g4 := fun e => Kd.R_ne h4 h3 (by decide) (by rw [← e]; rfl)
  refine ⟨blk_far h1 e1.symm _, blk_far h2 e2.symm _, blk_far h3 e3.symm _, p1, row_step h5 (fun k e hlt => Below.heap_setCell _ _ _ k (fun e' => (d5 gr rfl).1 (by rw [e, e']))), row_step h6 (fun k e hlt => Below.heap_setCell _ _ _ k (fun e' => (d5 gr rfl).2 (by rw [e, e']))), h7.setCell (.inr hgr) _, h8.setCell (Nat.le_trans h0 hgr) _⟩
theorem SimI.setFin {gr n cr : Nat} (h : SimI w00 w S g go g4 A c jobs dv rv (.slice (some ⟨gr, 0, none⟩) n cr) W done run fin now) (hD : SimD w g go g4 dv rv (.slice (some ⟨gr, 0, none⟩) n cr)) (h0 : w00.heap.size ≤ w.heap.size) (i : Int) (x : Int) :
    SimI w00 w S g go g4 A c jobs dv rv (.slice (some ⟨gr, 0, none⟩) n cr) (W.setCell ⟨gr, i.toNat, none⟩ (.int .i64 x)) done run (fin.set i.toNat x) now := by
  obtain ⟨h1, h2, h3, h4, h5, h6, h7, h8⟩ := h
  obtain ⟨d1, d2, d3, d4, d5, d6⟩ := hD
  obtain ⟨p1, p2⟩ := Kd.R_putg h6 i x
  have hgr : w.heap.size ≤ gr := Kd.R_base h6 gr rfl
  have e1 : gr ≠ g := fun e => Kd.R_ne h6 h1 (by decide) (by rw [← e]; rfl)
  have e2 : gr ≠ go := fun e => Kd.R_ne h6 h2 (by decide) (by rw [← e]; rfl)
  have e3 : gr ≠ g4 := fun e => Kd.R_ne h6 h3 (by decide) (by rw [← e]; rfl)
  refine ⟨blk_far h1 e1.symm _, blk_far h2 e2.symm _, blk_far h3 e3.symm _, row_step h4 (fun k e hlt => Below.heap_setCell _ _ _ k (fun e' => (d5 k e).2 (by rw [e']; rfl))), row_step h5 (fun k e hlt => Below.heap_setCell _ _ _ k (fun e' => d6 k e (by rw [e']; rfl))), p1, h7.setCell (.inr hgr) _, h8.setCell (Nat.le_trans h0 hgr) _⟩
theorem SimI.setNow (h : SimI w00 w S g go g4 A c jobs dv rv fv W done run fin now) (hD : SimD w g go g4 dv rv fv) (h0 : w00.heap.size ≤ w.heap.size) (x : Int) :
    SimI w00 w S g go g4 A c jobs dv rv fv (W.setCell ⟨g, 2, none⟩ (.int .i64 x)) done run fin x := by
  obtain ⟨h1, h2, h3, h4, h5, h6, h7, h8⟩ := h
  obtain ⟨d1, d2, d3, d4, d5, d6⟩ := hD
  have e2 : go ≠ g := fun e => by rw [e, h1] at h2; injection h2 with h2; injection h2 with _ h2; cases h2
  have e3 : g4 ≠ g := fun e => by rw [e, h1] at h3; injection h3 with h3; injection h3 with _ h3; cases h3
  refine ⟨blk_put h1 2 _ rfl, blk_far h2 e2 _, blk_far h3 e3 _, row_step h4 (fun k e hlt => Below.heap_setCell _ _ _ k (fun e' => Kd.R_ne h4 h1 (by decide) (by rw [e, e']))), row_step h5 (fun k e hlt => Below.heap_setCell _ _ _ k (fun e' => Kd.R_ne h5 h1 (by decide) (by rw [e, e']))), row_step h6 (fun k e hlt => Below.heap_setCell _ _ _ k (fun e' => Kd.R_ne h6 h1 (by decide) (by rw [e, e']))), h7.setCell (.inr d1) _, h8.setCell (Nat.le_trans h0 d1) _⟩
/-- Behind the two stores into the result. -/
theorem SimI.out (h : SimI w00 w S g go g4 A c jobs dv rv fv W done run fin now) (hD : SimD w g go g4 dv rv fv) (h0 : w00.heap.size ≤ w.heap.size) (a b : Value) :
    Kd.R (Kd.int .i64) 3 ((W.setCell ⟨g4, 0, none⟩ a).setCell ⟨g4, 1, none⟩ b) w.heap.size (fun k_ => some k_ ≠ fv.ownBlock) rv run ∧ Kd.R (Kd.int .i64) 3 ((W.setCell ⟨g4, 0, none⟩ a).setCell ⟨g4, 1, none⟩ b) w.heap.size (fun k_ => some k_ ≠ rv.ownBlock) fv fin ∧
    Below w00.heap.size w00 ((W.setCell ⟨g4, 0, none⟩ a).setCell ⟨g4, 1, none⟩ b) ∧ Kept w ((W.setCell ⟨g4, 0, none⟩ a).setCell ⟨g4, 1, none⟩ b) S := by
  obtain ⟨h1, h2, h3, h4, h5, h6, h7, h8⟩ := h
  obtain ⟨d1, d2, d3, d4, d5, d6⟩ := hD
  have far : ∀ k, k ≠ g4 → ((W.setCell ⟨g4, 0, none⟩ a).setCell ⟨g4, 1, none⟩ b).heap[k]? = W.heap[k]? := fun k hk => (Below.heap_setCell _ _ _ k hk).trans (Below.heap_setCell _ _ _ k hk)
  refine ⟨Kd.R_reok rfl (row_step h5 (fun k e hlt => far k (fun e' => Kd.R_ne h5 h3 (by decide) (by rw [e, e'])))) (fun k hk h => d6 k hk h.symm), Kd.R_reok rfl (row_step h6 (fun k e hlt => far k (fun e' => Kd.R_ne h6 h3 (by decide) (by rw [e, e'])))) (fun k hk h => d6 k h.symm hk), (h8.setCell (Nat.le_trans h0 d3) _).setCell (Nat.le_trans h0 d3) _, (h7.setCell (.inr d3) _).setCell (.inr d3) _⟩
end
section
variable {σ : Type}
/-- One tick of a simulation: what the pick has kept, how long each job has run, the jobs that ran, when they were finished. -/
def simStep (jobs : List (S67)) (pick : σ → List Int → Nat → Int × σ) (t : Nat) (x : σ × List Int × List Int × List Int) : σ × List Int × List Int × List Int :=
  if (pick x.1 x.2.1 t).1 < 0 then ((pick x.1 x.2.1 t).2, x.2.1, x.2.2.1.set t (pick x.1 x.2.1 t).1, x.2.2.2)
  else if x.2.1.getD (pick x.1 x.2.1 t).1.toNat 0 + 1 = (jobs.getD (pick x.1 x.2.1 t).1.toNat z67).f3 then
    ((pick x.1 x.2.1 t).2, x.2.1.set (pick x.1 x.2.1 t).1.toNat (x.2.1.getD (pick x.1 x.2.1 t).1.toNat 0 + 1), x.2.2.1.set t (pick x.1 x.2.1 t).1, x.2.2.2.set (pick x.1 x.2.1 t).1.toNat ((t : Int) + 1))
  else ((pick x.1 x.2.1 t).2, x.2.1.set (pick x.1 x.2.1 t).1.toNat (x.2.1.getD (pick x.1 x.2.1 t).1.toNat 0 + 1), x.2.2.1.set t (pick x.1 x.2.1 t).1, x.2.2.2)
def simN (jobs : List (S67)) (pick : σ → List Int → Nat → Int × σ) (s0 : σ) : Nat → σ × List Int × List Int × List Int
  | 0 => (s0, List.replicate jobs.length 0, List.replicate 120 (-1), List.replicate jobs.length (-1))
  | t + 1 => simStep jobs pick t (simN jobs pick s0 t)
/-- What a pick may answer. -/
def PickOk (jobs : List (S67)) (pick : σ → List Int → Nat → Int × σ) : Prop := ∀ s done t, done.length = jobs.length →
  -1 ≤ (pick s done t).1 ∧ (pick s done t).1 < jobs.length ∧ (0 ≤ (pick s done t).1 → done.getD (pick s done t).1.toNat 0 < (jobs.getD (pick s done t).1.toNat z67).f3)
theorem simN_len {jobs : List (S67)} {pick : σ → List Int → Nat → Int × σ} {s0 : σ} : ∀ t, (simN jobs pick s0 t).2.1.length = jobs.length ∧ (simN jobs pick s0 t).2.2.1.length = 120 ∧ (simN jobs pick s0 t).2.2.2.length = jobs.length
  | 0 => by simp [simN]
  | t + 1 => by
    have := simN_len (jobs := jobs) (pick := pick) (s0 := s0) t
    unfold simN simStep
    split
    · simpa using this
    · split <;> simpa using this
theorem getD_set' (l : List Int) (i j : Nat) (x : Int) : (l.set i x).getD j 0 = if i = j ∧ j < l.length then x else l.getD j 0 := by
  rw [List.getD_eq_getElem?_getD, List.getD_eq_getElem?_getD, List.getElem?_set]
  split
  · rename_i e
    split
    · rename_i h; rw [if_pos ⟨e, by omega⟩]; rfl
    · rename_i h; rw [if_neg (by omega), List.getElem?_eq_none (by omega)]
  · rename_i e; rw [if_neg (by omega)]
theorem simN_done {jobs : List (S67)} {pick : σ → List Int → Nat → Int × σ} {s0 : σ} (hp : PickOk jobs pick) (hex : ∀ i, i < jobs.length → (jobs.getD i z67).f3 ≤ 8) :
    ∀ t i, 0 ≤ (simN jobs pick s0 t).2.1.getD i 0 ∧ (simN jobs pick s0 t).2.1.getD i 0 ≤ 8
  | 0, i => by
    unfold simN
    simp only [List.getD_eq_getElem?_getD, List.getElem?_replicate]
    split <;> simp
  | t + 1, i => by
    have ih := simN_done hp hex (s0 := s0) t
    have hl := simN_len (jobs := jobs) (pick := pick) (s0 := s0) t
    have hr := hp (simN jobs pick s0 t).1 (simN jobs pick s0 t).2.1 t hl.1
    obtain ⟨x, hx⟩ : ∃ x, x = simN jobs pick s0 t := ⟨_, rfl⟩
    rw [← hx] at ih hr
    unfold simN
    rw [← hx]
    unfold simStep
    split
    · exact ih i
    · rename_i hneg
      have h3 := hr.2.2 (by omega)
      have h4 := hex (pick x.1 x.2.1 t).1.toNat (by omega)
      have h5 := ih (pick x.1 x.2.1 t).1.toNat
      have h6 := ih i
      split <;> (simp only [getD_set']; split <;> omega)
end
set_option maxHeartbeats 4000000 in
set_option maxRecDepth 100000 in
theorem simulate_calls {σ : Type} (Inv : World → σ → Prop) (pick : σ → List Int → Nat → Int × σ) (s0 : σ) (S : Nat → Prop) (w00 w : World) (hw : Below w00.heap.size w00 w) (hS : ∀ k, S k → k < w.heap.size)
    (A : Option Addr) (c : Nat) (jobs : List (S67)) (hj : Kd.C k67 w00 A jobs.length jobs) (hc : jobs.length ≤ c) (hlen : jobs.length ≤ 60) (hex : ∀ i, i < jobs.length → (jobs.getD i z67).f3 ≤ 8)
    (fp : FuncId) (p1 p2 : Array Value) {fnp : Func} (hfp : Try.prog.funcs[fp]? = some fnp) (hname : (fnp.name == "runtime.NumGoroutine") = false) (hbody : fnp.body.isSome = true)
    (hinv0 : Inv w s0) (hst : ∀ W W' s, Inv W s → (∀ k, k < w.heap.size → W'.heap[k]? = W.heap[k]?) → W.heap.size ≤ W'.heap.size → Inv W' s) (hok : PickOk jobs pick)
    (hp : ∀ (g : Nat) (D : Option Addr) (cd : Nat) (W : World) (s : σ) (done : List Int) (t : Nat), t < 120 → Inv W s → MachR W g A c jobs D cd done t → w.heap.size ≤ g → Below w00.heap.size w00 W → w.heap.size ≤ W.heap.size →
      Calls Try.prog fp (p1 ++ #[.pointer (some ⟨g, 0, none⟩)] ++ p2) W fun e w' => e = .returned (.int .i64 (pick s done t).1) ∧ Inv w' (pick s done t).2 ∧ Kept W w' S ∧ Below w00.heap.size W w') :
    Calls Try.prog 80 #[.slice A jobs.length c, .func (.func fp) p1 p2] w fun e w' => ∃ v0_ v1_ : Value, e = .returned (.agg #[v0_, v1_]) ∧ Kd.R (Kd.int .i64) 3 w' w.heap.size (fun k_ => some k_ ≠ (v1_ : Value).ownBlock) v0_ (simN jobs pick s0 120).2.2.1 ∧
      Kd.R (Kd.int .i64) 3 w' w.heap.size (fun k_ => some k_ ≠ (v0_ : Value).ownBlock) v1_ (simN jobs pick s0 120).2.2.2 ∧ Below w00.heap.size w00 w' ∧ Kept w w' S ∧ Inv w' (simN jobs pick s0 120).1 := by
  have hu := Try.underlying32
  have huM := Try.underlying124
  have huJ := Try.underlying67
  have h00 := hw.size
  have hB4 := below_alloc (Below.refl w.heap.size w) (.cells #[.slice none 0 0, .slice none 0 0] 32)
  have h4 := blk_new w (.cells #[.slice none 0 0, .slice none 0 0] 32)
  have HF := Aside0.mk hfp
  have HJ := Aside0.mk hj
  have HS := Aside0.mk hS
  have HW := Aside0.mk hw
  have H4 := Aside0.mk h4
  have HB4 := Aside0.mk hB4
  have HP0 := Aside0.mk hp
  have HV0 := Aside0.mk hinv0
  have HST := Aside0.mk hst
  have HOK := Aside0.mk hok
  have HEX := Aside0.mk hex
  have HNM := Lib.hid (fun W => newMachine_calls A c jobs W (by omega))
  have HN1 := Lib.hid (fun W => impl_none.calls 120 (List.replicate 120 (-1)) W rfl)
  have HN2 := Lib.hid (fun W => impl_none.calls jobs.length (List.replicate jobs.length (-1)) W (by unfold impl_none.f; rw [if_pos (by omega)]; simp))
  clear hfp hj hS hw h4 hB4 hp hinv0 hst hok hex
  go_enter Try.func80, Try.ntmps80
  go_wp2_with (first | (go_at_call 118; refine (HNM.out _).mono ?_; rintro e w1 ⟨g, dv, rfl, hg, hbm, hrd, hb1⟩; obtain ⟨Ad, cd, ed⟩ := Kd.R_slice hrd; rw [show (List.replicate jobs.length (0 : Int)).length = jobs.length from List.length_replicate] at ed; subst ed; have HG := Lib.hid hg; have HBM := Lib.hid hbm; have HRD := Lib.hid hrd; have HB1 := Lib.hid hb1; clear hg hbm hrd hb1) | (go_at_call 79; refine (HN1.out _).mono ?_; rintro e w2 ⟨rv, rfl, hrr, hb2⟩; obtain ⟨Ar, cr, er⟩ := Kd.R_slice hrr; rw [show (List.replicate 120 (-1 : Int)).length = 120 from List.length_replicate] at er; subst er; have HRR := Lib.hid hrr; have HB2 := Lib.hid hb2; clear hrr hb2) | (go_at_call 79; refine (HN2.out _).mono ?_; rintro e w3 ⟨fv, rfl, hrf, hb3⟩; obtain ⟨Af, cf, ef⟩ := Kd.R_slice hrf; rw [show (List.replicate jobs.length (-1 : Int)).length = jobs.length from List.length_replicate] at ef; subst ef; have HRF := Lib.hid hrf; have HB3 := Lib.hid hb3; clear hrf hb3))
  have hBA : Below w.heap.size w w3 := below_step (below_step (below_step HB4.out HB1.out) HB2.out) HB3.out
  have hB : Below w.heap.size w (w3.alloc (.cells #[.slice Ar 120 cr, .slice Af jobs.length cf] 32)) := below_alloc hBA _
  have hszA : (w.alloc (.cells #[.slice none 0 0, .slice none 0 0] 32)).heap.size = w.heap.size + 1 := by simp
  have s1 := HB1.out.size
  have s2 := HB2.out.size
  have s3 := HB3.out.size
  have hI : SimI w00 w S g w3.heap.size w.heap.size A c jobs (.slice Ad jobs.length cd) (.slice Ar 120 cr) (.slice Af jobs.length cf) (w3.alloc (.cells #[.slice Ar 120 cr, .slice Af jobs.length cf] 32)) (simN jobs pick s0 0).2.1 (simN jobs pick s0 0).2.2.1 (simN jobs pick s0 0).2.2.2 ((0 : Nat) : Int) := by
    refine ⟨blk_alloc (blk_below (blk_below HBM.out HB2.out) HB3.out) _, blk_new _ _, blk_alloc (blk_below (blk_below (blk_below H4.out HB1.out) HB2.out) HB3.out) _, ?_, ?_, ?_, Kept.of_below hB S, HW.out.trans (hB.mono h00)⟩
    · exact Kd.R_alloc (Kd.R_below (Kd.R_below (Kd.R_lower HRD.out (by omega)) HB2.out) HB3.out) _
    · exact Kd.R_alloc (Kd.R_below (Kd.R_lower HRR.out (by omega)) HB3.out) _
    · exact Kd.R_alloc (Kd.R_lower HRF.out (by omega)) _
  have hD : SimD w g w3.heap.size w.heap.size (.slice Ad jobs.length cd) (.slice Ar 120 cr) (.slice Af jobs.length cf) := by
    have hg := HG.out
    refine ⟨by omega, by omega, Nat.le_refl _, by omega, fun k hk => ⟨fun h => ?_, fun h => ?_⟩, fun k hk h => ?_⟩
    · have := Kd.R_lt HRD.out k hk; have := Kd.R_base HRR.out k h; omega
    · have := Kd.R_lt HRD.out k hk; have := Kd.R_base HRF.out k h; omega
    · have := Kd.R_lt HRR.out k hk; have := Kd.R_base HRF.out k h; omega
  have hV : Inv (w3.alloc (.cells #[.slice Ar 120 cr, .slice Af jobs.length cf] 32)) (simN jobs pick s0 0).1 := HST.out _ _ _ HV0.out hB.block hB.size
  have HI0 := Aside0.mk hI
  have HD := Aside0.mk hD
  have HVI := Aside0.mk hV
  clear hI hD hV hBA hB hszA s1 s2 s3 HG HBM HRD HB1 HRR HB2 HRF HB3 H4 HB4 HV0 HNM HN1 HN2
  generalize w3.heap.size = go at HI0 HD ⊢
  go_loopg [] 120 (fun kq w' => ∃ t : Nat, t + kq = 120 ∧ Aside0 (SimI w00 w S g go w.heap.size A c jobs (.slice Ad jobs.length cd) (.slice Ar 120 cr) (.slice Af jobs.length cf) w' (simN jobs pick s0 t).2.1 (simN jobs pick s0 t).2.2.1 (simN jobs pick s0 t).2.2.2 (t : Int)) ∧ Aside0 (Inv w' (simN jobs pick s0 t).1))
  case atStart => exact ⟨0, rfl, HI0, HVI⟩
  case round =>
    clear HI0 HVI
    obtain ⟨t, ht, HI, HV⟩ := hrel
    have hb := HI.out
    obtain ⟨h1, h2, h3, h4, h5, h6, h7, h8⟩ := hb
    have hm1 : wr.cell? ⟨g, 1, none⟩ = some (.slice Ad jobs.length cd) := (blk_cell h1 1).trans rfl
    have hm2 : wr.cell? ⟨g, 2, none⟩ = some (.int .i64 (t : Int)) := (blk_cell h1 2).trans rfl
    have hfz2 := blk_frozen h1 2
    cases gk with
    | zero =>
      have htt : t = 120 := by omega
      subst htt
      have b1 : decide (((120 : Nat) : Int) < 120) = false := by decide
      have ho0 : wr.cell? ⟨go, 0, none⟩ = some (.slice Ar 120 cr) := (blk_cell h2 0).trans rfl
      have ho1 : wr.cell? ⟨go, 1, none⟩ = some (.slice Af jobs.length cf) := (blk_cell h2 1).trans rfl
      have hq0 : wr.cell? ⟨w.heap.size, 0, none⟩ = some (.slice none 0 0) := (blk_cell h3 0).trans rfl
      have hq1 : wr.cell? ⟨w.heap.size, 1, none⟩ = some (.slice none 0 0) := (blk_cell h3 1).trans rfl
      have hqf0 := blk_frozen h3 0
      have hqf1 := blk_frozen h3 1
      have hgo := HD.out.2.2.2.1
      have H3 := Aside0.mk h3
      have hout := HI.out.out HD.out h00 (.slice Ar 120 cr) (.slice Af jobs.length cf)
      have hfar : ∀ k, k < w.heap.size → ((wr.setCell ⟨w.heap.size, 0, none⟩ (.slice Ar 120 cr)).setCell ⟨w.heap.size, 1, none⟩ (.slice Af jobs.length cf)).heap[k]? = wr.heap[k]? := fun k hk => (Below.heap_setCell _ _ _ k (by simp; omega)).trans (Below.heap_setCell _ _ _ k (by simp; omega))
      have hVo := HST.out wr _ _ HV.out hfar (by simp [World.setCell])
      have HOUT := Aside0.mk hout
      have HVO := Aside0.mk hVo
      clear h1 h2 h3 h4 h5 h6 h7 h8 hout hVo hfar
      go_wp2
      (try simp only [Exit.inBlock, Exit.then])
      refine bodyPost_ret (results_cell_row rfl _ _ w.heap.size 32 #[.slice Ar 120 cr, .slice Af jobs.length cf] (0, 0) _ rfl (blk_put (blk_put H3.out 0 _ rfl) 1 _ rfl) Try.underlying32 rfl (by kernel_rfl)) rfl ?_
      exact ⟨_, _, rfl, HOUT.out.1, HOUT.out.2.1, HOUT.out.2.2.1, HOUT.out.2.2.2, HVO.out⟩
    | succ k1 =>
      have b1 : decide ((t : Int) < 120) = true := decide_eq_true (by omega)
      have hlen' := simN_len (jobs := jobs) (pick := pick) (s0 := s0) t
      have hnx : simN jobs pick s0 (t + 1) = simStep jobs pick t (simN jobs pick s0 t) := rfl
      have hdn := simN_done HOK.out HEX.out (s0 := s0) t
      obtain ⟨X, hX⟩ : ∃ X, X = simN jobs pick s0 t := ⟨_, rfl⟩
      rw [← hX] at hlen' hnx hdn HI HV h4 h5 h6
      clear hX
      obtain ⟨s, done, run, fin⟩ := X
      obtain ⟨hl1, hl2, hl3⟩ := hlen'
      simp only at hl1 hl2 hl3 hdn HI HV h4 h5 h6
      obtain ⟨gr, cr', er, _⟩ := Kd.R_form h5 (by omega)
      injection er with er1 er2 er3
      subst er1 er3
      clear er2
      have hR := HOK.out s done t hl1
      have hpc := HP0.out g Ad cd wr s done t (by omega) HV.out ⟨by rw [hl1]; exact h1, Kd.C_below HJ.out h8, (Kd.R_reads' h4).2.2, hl1⟩ HD.out.1 h8 h7.1
      have hsm : simN jobs pick s0 (t + 1) = simStep jobs pick t (s, done, run, fin) := hnx
      unfold simStep at hsm
      simp only at hsm
      obtain ⟨r, hr⟩ : ∃ r, r = (pick s done t).1 := ⟨_, rfl⟩
      obtain ⟨s', hs'⟩ : ∃ s', s' = (pick s done t).2 := ⟨_, rfl⟩
      rw [← hr] at hR hpc hsm
      rw [← hs'] at hpc hsm
      have HP := Lib.hid hpc
      have HR := Lib.hid hR
      have HSM := Lib.hid hsm
      have HDN := Lib.hid hdn
      clear hr hs' hpc hR hsm hnx hdn h1 h2 h3 h4 h5 h6 h7 h8
      go_wp2_with ((with_reducible refine gate_value (n := 27) rfl ?_; go_must (refine goesF_ (some 29) rfl rfl rfl rfl HF.out hname hbody (p1 ++ #[.pointer (some ⟨g, 0, none⟩)] ++ p2) (by simp [Act.eval]) ?_; refine HP.out.mono ?_; rintro e w2 ⟨rfl, hi2, hk2, hb2⟩; refine ⟨_, rfl, ?_⟩; have HI2 := Aside0.mk (HI.out.keep HD.out HS.out hk2 hb2); have HV2 := Aside0.mk hi2; clear hi2 hk2 hb2)))
      obtain ⟨i1, i2, i3, i4, i5, i6, i7, i8⟩ := HI2.out
      have ho0 : w2.cell? ⟨go, 0, none⟩ = some (.slice (some ⟨gr, 0, none⟩) 120 cr) := (blk_cell i2 0).trans rfl
      have hn2 : w2.cell? ⟨g, 2, none⟩ = some (.int .i64 (t : Int)) := (blk_cell i1 2).trans rfl
      obtain ⟨hx0, hxf0⟩ := Kd.R_celln 0 i5 (t : Int) (by omega) (by omega)
      simp only [Int.toNat_natCast] at hx0 hxf0
      have q0 : 0 ≤ (t : Int) := by omega
      have q1 : (t : Int) < 120 := by omega
      have ne1 : gr ≠ g := fun e => Kd.R_ne i5 i1 (by decide) (by rw [← e]; rfl)
      have ne2 : gr ≠ go := fun e => Kd.R_ne i5 i2 (by decide) (by rw [← e]; rfl)
      clear i1 i2 i3 i4 i5 i6 i7 i8
      go_wp2_with fail
      go_region_held3 (fun w' => w'.cell? ⟨go, 0, none⟩ = some (.slice (some ⟨gr, 0, none⟩) 120 cr) ∧ w'.cell? ⟨g, 2, none⟩ = some (.int .i64 (t : Int))) (go_keep) (fail)
      have hgrw : w.heap.size ≤ gr := Kd.R_base HI2.out.2.2.2.2.1 gr rfl
      have hI3 := (HI2.out.setRun HD.out h00 (t : Int) r).drew
      simp only [Int.toNat_natCast] at hI3
      have hV3 : Inv ((w2.setCell ⟨gr, t, none⟩ (.int .i64 r)).drew) s' := HST.out w2 _ _ HV2.out (fun k hk => (show (w2.setCell ⟨gr, t, none⟩ (.int .i64 r)).heap[k]? = _ from Below.heap_setCell _ _ _ k (by simp; omega))) (by simp [World.setCell, World.drew])
      have HI3 := Aside0.mk hI3
      have HV3 := Aside0.mk hV3
      clear hI3 hV3 HI HV HI2 HV2 HP ho0 hn2 hx0 hxf0 hgrw hm1 hm2 hfz2
      generalize World.drew (World.setCell w2 _ _) = w3 at HI3 HV3 ⊢
      obtain ⟨i1, i2, i3, i4, i5, i6, i7, i8⟩ := HI3.out
      by_cases hneg : r < 0
      · have hnb : decide (r < 0) = true := decide_eq_true hneg
        have hst1 : simN jobs pick s0 (t + 1) = (s', done, run.set t r, fin) := by rw [HSM.out, if_pos hneg]
        have HST1 := Lib.hid hst1
        have hn2 : w3.cell? ⟨g, 2, none⟩ = some (.int .i64 (t : Int)) := (blk_cell i1 2).trans rfl
        have hf2 := blk_frozen i1 2
        have q2 : (t : Int) < 120 := by omega
        clear i1 i2 i3 i4 i5 i6 i7 i8 hst1 hneg
        have HIL := HI3
        have HVL := HV3
        go_wp2_with fail
        ((go_roundg k1; (case measure => omega); (case rel => refine ⟨t + 1, by omega, ⟨?_⟩, ⟨?_⟩⟩; (· rw [HST1.out]; exact HIL.out.setNow HD.out h00 _); (· rw [HST1.out]; exact HST.out _ _ _ HVL.out (fun k hk => Below.heap_setCell _ _ _ k (by have := HD.out.1; simp; omega)) (by simp [World.setCell])))))
      · have hnb : decide (r < 0) = false := decide_eq_false hneg
        have hr3 := HR.out
        have hj0 : 0 < jobs.length := by omega
        obtain ⟨gd, cd', ed, _⟩ := Kd.R_form i4 (by omega)
        injection ed with ed1 ed2 ed3
        subst ed1 ed3
        obtain ⟨gf, cf', ef, _⟩ := Kd.R_form i6 (by omega)
        injection ef with ef1 ef2 ef3
        subst ef1 ef3
        clear ed2 ef2
        obtain ⟨n, rfl⟩ : ∃ n : Nat, r = (n : Int) := ⟨r.toNat, by omega⟩
        simp only [Int.toNat_natCast] at hr3
        have hnl : n < jobs.length := by omega
        have hdone := HDN.out n
        have hexn := HEX.out n hnl
        have hready := hr3.2.2 (by omega)
        obtain ⟨x, hx⟩ : ∃ x, x = done.getD n 0 := ⟨_, rfl⟩
        obtain ⟨hdc, hdf⟩ := Kd.R_celln 0 i4 (n : Int) (by omega) (by omega)
        have hrd : rdOf 0 done (n : Int) = done.getD n 0 := rfl
        rw [hrd] at hdc
        rw [← hx] at hdone hready hdc
        simp only [Int.toNat_natCast] at hdc hdf
        have hm1 : w3.cell? ⟨g, 1, none⟩ = some (.slice (some ⟨gd, 0, none⟩) jobs.length cd) := (blk_cell i1 1).trans rfl
        have q2 : 0 ≤ (n : Int) := by omega
        have q3 : (n : Int) < (jobs.length : Int) := by omega
        have nd1 : gd ≠ g := fun e => Kd.R_ne i4 i1 (by decide) (by rw [← e]; rfl)
        have hgdw : w.heap.size ≤ gd := Kd.R_base i4 gd rfl
        have hgfw : w.heap.size ≤ gf := Kd.R_base i6 gf rfl
        have hI4 := HI3.out.setDone HD.out h00 (n : Int) (x + 1)
        simp only [Int.toNat_natCast] at hI4
        have hV4 : Inv (w3.setCell ⟨gd, n, none⟩ (.int .i64 (x + 1))) s' := HST.out w3 _ _ HV3.out (fun k hk => Below.heap_setCell _ _ _ k (by simp; omega)) (by simp [World.setCell])
        have HI4 := Aside0.mk hI4
        have HV4 := Aside0.mk hV4
        have HX := Lib.hid hx
        obtain ⟨hx0, hx8⟩ := hdone
        clear i1 i2 i3 i4 i5 i6 i7 i8 hI4 hV4 hr3 hneg HR hrd hx
        go_wp2_with fail
        generalize World.setCell w3 _ _ = w4 at HI4 HV4 ⊢
        clear HI3 HV3 hdc hdf hm1
        obtain ⟨i1, i2, i3, i4, i5, i6, i7, i8⟩ := HI4.out
        have hls : (done.set n (x + 1)).length = jobs.length := by rw [List.length_set, hl1]
        obtain ⟨hdc, hdf⟩ := Kd.R_celln 0 i4 (n : Int) (by omega) (by omega)
        have hrd : rdOf 0 (done.set n (x + 1)) (n : Int) = x + 1 := by
          show (done.set n (x + 1)).getD (n : Int).toNat 0 = x + 1
          rw [Int.toNat_natCast, getD_set', if_pos ⟨rfl, by omega⟩]
        rw [hrd] at hdc
        simp only [Int.toNat_natCast] at hdc hdf
        have hm1 : w4.cell? ⟨g, 1, none⟩ = some (.slice (some ⟨gd, 0, none⟩) jobs.length cd) := (blk_cell i1 1).trans rfl
        obtain ⟨adj, ej, hy0, hy1, hy2, hy3⟩ := at_T67 (Kd.C_below HJ.out i8) (n : Int) (by omega) (by omega)
        cases ej
        simp only [Int.toNat_natCast] at hy0 hy1 hy2 hy3
        have hrj : rd_T67 jobs (n : Int) = jobs.getD n z67 := rfl
        rw [hrj] at hy0 hy1 hy2 hy3
        obtain ⟨y, hy⟩ : ∃ y, y = (jobs.getD n z67).f3 := ⟨_, rfl⟩
        rw [← hy] at hy3 hready hexn
        have HY := Lib.hid hy
        have hn2 : w4.cell? ⟨g, 2, none⟩ = some (.int .i64 (t : Int)) := (blk_cell i1 2).trans rfl
        have hf2 := blk_frozen i1 2
        have q4 : (t : Int) < 120 := by omega
        by_cases heq : x + 1 = y
        · have heb : (x + 1 == y) = true := by rw [beq_iff_eq]; exact heq
          have hst1 : simN jobs pick s0 (t + 1) = (s', done.set n (x + 1), run.set t (n : Int), fin.set n ((t : Int) + 1)) := by
            rw [HSM.out, if_neg (by omega)]
            simp only [Int.toNat_natCast]
            rw [← HX.out, ← HY.out, if_pos heq]
          have HST1 := Lib.hid hst1
          have ho1 : w4.cell? ⟨go, 1, none⟩ = some (.slice (some ⟨gf, 0, none⟩) jobs.length cf) := (blk_cell i2 1).trans rfl
          obtain ⟨hfc, hff⟩ := Kd.R_celln 0 i6 (n : Int) (by omega) (by omega)
          simp only [Int.toNat_natCast] at hfc hff
          have nf1 : gf ≠ g := fun e => Kd.R_ne i6 i1 (by decide) (by rw [← e]; rfl)
          have nf2 : gf ≠ go := fun e => Kd.R_ne i6 i2 (by decide) (by rw [← e]; rfl)
          clear i1 i2 i3 i4 i5 i6 i7 i8 hst1 heq hrd hrj hy hls
          go_wp2_with fail
          go_quiet (fail)
          go_wp2_with fail
          go_region_held3 (fun w' => w'.cell? ⟨go, 1, none⟩ = some (.slice (some ⟨gf, 0, none⟩) jobs.length cf) ∧ w'.cell? ⟨g, 2, none⟩ = some (.int .i64 (t : Int))) (go_keep) (fail)
          have hw1 : IntKind.i64.wrap ((t : Int) + 1) = (t : Int) + 1 := by rw [i64_w]; unfold wrap64; omega
          rw [hw1]
          have hIL := (HI4.out.drewN (nq + 1)).setFin HD.out h00 (n : Int) ((t : Int) + 1)
          simp only [Int.toNat_natCast] at hIL
          have hVL : Inv ((w4.drewN (nq + 1)).setCell ⟨gf, n, none⟩ (.int .i64 ((t : Int) + 1))) s' := HST.out w4 _ _ HV4.out (fun k hk => (show ((w4.drewN (nq + 1)).setCell ⟨gf, n, none⟩ (.int .i64 ((t : Int) + 1))).heap[k]? = (w4.drewN (nq + 1)).heap[k]? from Below.heap_setCell _ _ _ k (by simp; omega))) (by simp [World.setCell, World.drewN])
          have HIL := Aside0.mk hIL
          have HVL := Aside0.mk hVL
          clear hIL hVL hw1 hn2 hf2 ho1 hfc hff hdc hdf hm1 hy0 hy1 hy2 hy3
          generalize World.setCell _ _ _ = w5 at HIL HVL ⊢
          obtain ⟨i1, i2, i3, i4, i5, i6, i7, i8⟩ := HIL.out
          have hn2 : w5.cell? ⟨g, 2, none⟩ = some (.int .i64 (t : Int)) := (blk_cell i1 2).trans rfl
          have hf2 := blk_frozen i1 2
          clear i1 i2 i3 i4 i5 i6 i7 i8
          go_wp2_with fail
          ((go_roundg k1; (case measure => omega); (case rel => refine ⟨t + 1, by omega, ⟨?_⟩, ⟨?_⟩⟩; (· rw [HST1.out]; exact HIL.out.setNow HD.out h00 _); (· rw [HST1.out]; exact HST.out _ _ _ HVL.out (fun k hk => Below.heap_setCell _ _ _ k (by have := HD.out.1; simp; omega)) (by simp [World.setCell])))))
        · have heb : (x + 1 == y) = false := by rw [beq_eq_false_iff_ne]; exact heq
          have hst1 : simN jobs pick s0 (t + 1) = (s', done.set n (x + 1), run.set t (n : Int), fin) := by
            rw [HSM.out, if_neg (by omega)]
            simp only [Int.toNat_natCast]
            rw [← HX.out, ← HY.out, if_neg heq]
          have HST1 := Lib.hid hst1
          clear i1 i2 i3 i4 i5 i6 i7 i8 hst1 heq hrd hrj hy hls
          go_wp2_with fail
          go_quiet (fail)
          have HIL := Aside0.mk (HI4.out.drewN nq)
          have HVL : Aside0 (Inv (w4.drewN nq) s') := ⟨HST.out w4 _ _ HV4.out (fun k hk => rfl) (Nat.le_refl _)⟩
          go_wp2_with fail
          ((go_roundg k1; (case measure => omega); (case rel => refine ⟨t + 1, by omega, ⟨?_⟩, ⟨?_⟩⟩; (· rw [HST1.out]; exact HIL.out.setNow HD.out h00 _); (· rw [HST1.out]; exact HST.out _ _ _ HVL.out (fun k hk => Below.heap_setCell _ _ _ k (by have := HD.out.1; simp; omega)) (by simp [World.setCell])))))

end Go.Proofs.Ytonifhkplniblaa.Print

namespace Go.Proofs.Ytonifhkplniblaa.Print
open Go.RowKit Go.Proofs.YtonifhkplniblaaW.PrintWords Go.Proofs.YtonifhkplniblaaW.PrintLast Go.Proofs.YtonifhkplniblaaW.PrintMore
attribute [local go_sem] max2_int min2_int max_two min_two max_three min_three max_four min_four
set_option linter.unusedVariables false
set_option linter.unusedSimpArgs false
open Go.Proofs.Ytonifhkplniblaa.Walk
/-- What a legal pattern says of its jobs. -/
theorem legal_jobs {s : List (S62)} {l : List (S67)} (hs : impl_SetValid.f s = some true) (h : legalB s l = true) : l.length ≤ 60 ∧ ∀ i, i < l.length → (l.getD i z67).f3 ≤ 8 := by
  unfold legalB at h
  rw [Bool.and_eq_true] at h
  obtain ⟨h1, h2⟩ := ordB_in h.1
  refine ⟨h1, fun i hi => ?_⟩
  have := h2 i hi
  unfold jobIn at this
  simp only [Bool.and_eq_true, decide_eq_true_eq] at this
  obtain ⟨⟨a1, a2⟩, _, _, a3⟩ := this
  unfold impl_SetValid.f at hs
  have hs := Option.some.inj hs
  rw [Bool.and_eq_true, List.all_eq_true] at hs
  have hm : rd_T62 s (l.getD i z67).f0 ∈ s := by
    unfold rd_T62
    rw [List.getD_eq_getElem?_getD, List.getElem?_eq_getElem (by omega)]
    exact List.getElem_mem _
  have := hs.2 _ hm
  unfold okTask at this
  have := of_decide_eq_true this
  omega
theorem rdyB_done {jobs : List (S67)} {done : List Int} {now : Int} {i : Nat} (h : rdyB jobs done now i = true) : done.getD i 0 < (jobs.getD i z67).f3 := by
  unfold rdyB at h; rw [Bool.and_eq_true] at h; exact of_decide_eq_true h.2
theorem best_ok (jobs : List (S67)) (may : List Int → Nat → Nat → Bool) (key : List Int → Nat → Nat → Int) : PickOk jobs (fun (_ : Unit) done t => (bestN (fun i => rdyB jobs done t i && may done t i) (key done t) jobs.length, ())) := by
  intro s done t hl
  have h1 := bestN_in (fun i => rdyB jobs done t i && may done t i) (key done t) jobs.length
  refine ⟨h1.1, by simpa using h1.2, fun h => ?_⟩
  have := bestN_ok (fun i => rdyB jobs done t i && may done t i) (key done t) jobs.length h
  rw [Bool.and_eq_true] at this
  exact rdyB_done this.1
section
variable {w W W2 : World} {g go g4 gb gr : Nat} {A : Option Addr} {c : Nat} {jobs : List (S67)} {dv fv : Value} {done fin : List Int} {now : Int} {us : List Value} {rows : List (List Int)}
def nilV : Value := .slice none 0 0
/-- The rows of a run: the cells of a block are slices, no two of one block. -/
structure Gr (W : World) (base gr : Nat) (us : List Value) (rows : List (List Int)) : Prop where
  blk : W.heap[gr]? = some (.cells us.toArray 30 (0, 0))
  len : us.length = rows.length
  row : ∀ i, i < rows.length → Kd.RR (Kd.int .i64) 3 W base (fun _ => True) (us.getD i nilV) (rows.getD i [])
  apart : ∀ i j k, i < rows.length → j < rows.length → i ≠ j → (us.getD i nilV).ownBlock = some k → (us.getD j nilV).ownBlock ≠ some k
theorem ne_of_type {W : World} {a b : Nat} {cs ds : Array Value} {t u : TypeId} (h : W.heap[a]? = some (.cells cs t (0, 0))) (k : W.heap[b]? = some (.cells ds u (0, 0))) (hne : t ≠ u) : a ≠ b := fun e => by
  rw [e, k] at h
  injection h with h
  injection h with _ h
  exact hne h.symm
theorem row_stepG {v : Value} {xs : List Int} {base : Nat} (h : Kd.R (Kd.int .i64) 3 W base (fun _ => True) v xs) (hm : ∀ k, v.ownBlock = some k → k < W.heap.size → W2.heap[k]? = W.heap[k]?) : Kd.R (Kd.int .i64) 3 W2 base (fun _ => True) v xs :=
  Kd.R_mono (Kd.R_step (Kd.R_tight rfl h) (fun k hk hlt => hm k hk.symm hlt)) (fun _ _ => trivial)
theorem rr_stepG {v : Value} {xs : List Int} {base : Nat} (h : Kd.RR (Kd.int .i64) 3 W base (fun _ => True) v xs) (hm : ∀ k, v.ownBlock = some k → k < W.heap.size → W2.heap[k]? = W.heap[k]?) : Kd.RR (Kd.int .i64) 3 W2 base (fun _ => True) v xs := by
  obtain ⟨B, n, c, c', rfl, hcc, hc, h⟩ := h
  exact ⟨B, n, c, c', rfl, hcc, hc, row_stepG h (fun k e => hm k (by rw [ob_eq B n c n c']; exact e))⟩
theorem Gr.step {base : Nat} (h : Gr W base gr us rows) (hg : W2.heap[gr]? = W.heap[gr]?) (hm : ∀ i k, i < us.length → (us.getD i nilV).ownBlock = some k → k < W.heap.size → W2.heap[k]? = W.heap[k]?) : Gr W2 base gr us rows :=
  ⟨hg.trans h.blk, h.len, fun i hi => rr_stepG (h.row i hi) (fun k e hk => hm i k (by rw [h.len]; exact hi) e hk), h.apart⟩
theorem Gr.below {base : Nat} (h : Gr W base gr us rows) (hb : Below W.heap.size W W2) : Gr W2 base gr us rows :=
  h.step (hb.block gr (blk_lt h.blk)) (fun _ k _ _ hk => hb.block k hk)
/-- A store into a block of another type. -/
theorem Gr.far {base q : Nat} {cs : Array Value} {t : TypeId} (h : Gr W base gr us rows) (hq : W.heap[q]? = some (.cells cs t (0, 0))) (ht : 3 ≠ t) (ht2 : 30 ≠ t) (j : Nat) (u : Value) : Gr (W.setCell ⟨q, j, none⟩ u) base gr us rows :=
  h.step (Below.heap_setCell _ _ _ gr (ne_of_type h.blk hq ht2)) (fun i k hi e _ => Below.heap_setCell _ _ _ k (fun e' => Kd.RR_ne (h.row i (by rw [← h.len]; exact hi)) hq ht (by rw [e, e'])))
theorem getD_setV (l : List Value) (i j : Nat) (x : Value) : (l.set i x).getD j nilV = if i = j ∧ j < l.length then x else l.getD j nilV := by
  rw [List.getD_eq_getElem?_getD, List.getD_eq_getElem?_getD, List.getElem?_set]
  split
  · rename_i e
    split
    · rename_i h; rw [if_pos ⟨e, by omega⟩]; rfl
    · rename_i h; rw [if_neg (by omega), List.getElem?_eq_none (by omega)]
  · rename_i e; rw [if_neg (by omega)]
theorem getD_setR (l : List (List Int)) (i j : Nat) (x : List Int) : (l.set i x).getD j [] = if i = j ∧ j < l.length then x else l.getD j [] := by
  rw [List.getD_eq_getElem?_getD, List.getD_eq_getElem?_getD, List.getElem?_set]
  split
  · rename_i e
    split
    · rename_i h; rw [if_pos ⟨e, by omega⟩]; rfl
    · rename_i h; rw [if_neg (by omega), List.getElem?_eq_none (by omega)]
  · rename_i e; rw [if_neg (by omega)]
theorem Gr.put {base t : Nat} (h : Gr W base gr us rows) (ht : t < rows.length) {u : Value} {xs : List Int} (hu : Kd.RR (Kd.int .i64) 3 W base (fun _ => True) u xs) (hap : ∀ i k, i < us.length → (us.getD i nilV).ownBlock = some k → u.ownBlock ≠ some k) :
    Gr (W.setCell ⟨gr, t, none⟩ u) base gr (us.set t u) (rows.set t xs) := by
  have hl := h.len
  refine ⟨?_, by rw [List.length_set, List.length_set, hl], ?_, ?_⟩
  · have := blk_set h.blk t u
    rw [List.setIfInBounds_toArray] at this
    exact this
  · intro i hi
    rw [List.length_set] at hi
    rw [getD_setV, getD_setR]
    by_cases e : t = i
    · rw [if_pos ⟨e, by omega⟩, if_pos ⟨e, hi⟩]
      exact rr_stepG hu (fun k e hk => Below.heap_setCell _ _ _ k (fun e' => Kd.RR_ne hu h.blk (by decide) (by rw [e, e'])))
    · rw [if_neg (by omega), if_neg (by omega)]
      exact rr_stepG (h.row i hi) (fun k e hk => Below.heap_setCell _ _ _ k (fun e' => Kd.RR_ne (h.row i hi) h.blk (by decide) (by rw [e, e'])))
  · intro i j k hi hj hij
    rw [List.length_set] at hi hj
    rw [getD_setV, getD_setV]
    by_cases e1 : t = i
    · rw [if_pos ⟨e1, by omega⟩, if_neg (by omega)]
      intro he h2
      exact hap j k (by omega) h2 he
    · rw [if_neg (by omega)]
      by_cases e2 : t = j
      · rw [if_pos ⟨e2, by omega⟩]
        intro he
        exact hap i k (by omega) he
      · rw [if_neg (by omega)]
        exact h.apart i j k hi hj hij
/-- What reads the rows reads them so. -/
theorem Gr.reads {base : Nat} (h : Gr W base gr us rows) (hn : rows.length ≤ 1000) : Kd.C (Kd.slice 3 (Kd.int .i64)) W (some ⟨gr, 0, none⟩) rows.length rows := by
  refine ⟨rfl, by omega, fun _ => ⟨⟨gr, 0, none⟩, rfl, fun j p hj => ?_⟩⟩
  obtain ⟨hl, hp⟩ := List.getElem?_eq_some_iff.1 hj
  have hr := h.row j hl
  rw [show rows.getD j [] = p by rw [List.getD_eq_getElem?_getD, hj]; rfl] at hr
  obtain ⟨A, c, e⟩ := Kd.RR_slice hr
  rw [e] at hr
  have hrr := Kd.RR_reads' hr
  refine ⟨[.slice A p.length c], rfl, ⟨A, c, rfl, hrr.2.1, hrr.2.2⟩, fun i u hu => ?_⟩
  have hjl : j < us.length := by rw [h.len]; exact hl
  have hc : W.cell? ⟨gr, j, none⟩ = some (us.getD j nilV) := by
    rw [blk_cell h.blk j, List.getElem?_toArray, List.getD_eq_getElem?_getD, List.getElem?_eq_getElem hjl]
    rfl
  rw [e] at hc
  cases i with
  | zero =>
    obtain rfl : .slice A p.length c = u := by simpa using hu
    have e2 : (⟨gr, 0, none⟩ : Addr).add (j * (Kd.slice 3 (Kd.int .i64)).sz + 0) = ⟨gr, j, none⟩ := by
      rw [add_plain]
      show (⟨gr, j * 1 + 0, none⟩ : Addr) = _
      simp
    rw [e2]
    exact hc
  | succ i => simp at hu
end
theorem blk_new1 (w : World) (o o' : Obj) : ((w.alloc o).alloc o').heap[w.heap.size + 1]? = some o' := by
  have := blk_new (w.alloc o) o'
  rw [show (w.alloc o).heap.size = w.heap.size + 1 by simp] at this
  exact this
/-- One row's marks leave the rows as they are but for it. -/
theorem Gr.mark {W W2 : World} {base gr : Nat} {us : List Value} {rows : List (List Int)} {i g : Nat} {xs : List Int} (h : Gr W base gr us rows) (hi : i < rows.length) (hg : (us.getD i nilV).ownBlock = some g) (hk : Kept W W2 (fun k => k = g)) (hu : Kd.RR (Kd.int .i64) 3 W2 base (fun _ => True) (us.getD i nilV) xs) : Gr W2 base gr us (rows.set i xs) where
  blk := (hk.2 gr (blk_lt h.blk) (fun e => Kd.RR_ne (h.row i hi) h.blk (by decide) (by rw [hg, ← e]))).trans h.blk
  len := by rw [List.length_set]; exact h.len
  row := fun j hj => by
    rw [List.length_set] at hj
    rw [getD_setR]
    by_cases e : i = j
    · subst e; rw [if_pos ⟨rfl, hj⟩]; exact hu
    · rw [if_neg (by omega)]
      exact rr_stepG (h.row j hj) (fun k e2 hlt => hk.2 k hlt (fun e3 => h.apart i j g hi hj e hg (by rw [e2, e3])))
  apart := fun j l k hj hl => by
    rw [List.length_set] at hj hl
    exact h.apart j l k hj hl


/-- A row of numbers of the call's own, at block g. -/
def Rw (B : Nat) (w00 V : World) (g N cap : Nat) (xs : List Int) : Prop := Kd.R (Kd.int .i64) 3 V B (fun _ => True) (.slice (some ⟨g, 0, none⟩) N cap) xs ∧ Below B w00 V
section
variable {B : Nat} {w00 V : World} {g N cap : Nat} {xs : List Int}
theorem Rw.len (h : Rw B w00 V g N cap xs) : N = xs.length := (Kd.R_reads' h.1).1
theorem Rw.cell (h : Rw B w00 V g N cap xs) {i : Nat} (hi : i < N) : V.cell? ⟨g, i, none⟩ = some (.int .i64 (xs.getD i 0)) ∧ V.frozen? ⟨g, i, none⟩ = false := by
  have := Kd.R_celln 0 h.1 (i : Int) (by omega) (by omega)
  rw [Int.toNat_natCast] at this
  exact this
theorem Rw.set (h : Rw B w00 V g N cap xs) (i : Nat) (x : Int) : Rw B w00 (V.setCell ⟨g, i, none⟩ (.int .i64 x)) g N cap (xs.set i x) := by
  have := (Kd.R_putg h.1 (i : Int) x).1
  simp only [Int.toNat_natCast] at this
  exact ⟨this, h.2.setCell (Kd.R_base h.1 g rfl) _⟩
theorem Rw.drewN (h : Rw B w00 V g N cap xs) (n : Nat) : Rw B w00 (V.drewN n) g N cap xs := ⟨Kd.R_drewN h.1 n, pw_below_drewN h.2 n⟩
theorem Rw.drew (h : Rw B w00 V g N cap xs) : Rw B w00 V.drew g N cap xs := ⟨Kd.R_drew h.1, below_drew h.2⟩
end
theorem set_mid (A B : List Int) (x y : Int) : (A ++ x :: B).set A.length y = A ++ y :: B := by simp
theorem i64_small {x : Int} (h0 : -9223372036854775808 ≤ x) (h1 : x ≤ 9223372036854775807) : IntKind.i64.wrap x = x := by rw [i64_w]; unfold wrap64; omega
/-- The marks a, a + 1 .. in a row of n. -/
def mkL (a : Int) (n : Nat) : List Int := (List.range n).map (fun (i : Nat) => a + (i : Int))
theorem mkL_len (a : Int) (n : Nat) : (mkL a n).length = n := by simp [mkL]
theorem mkL_set (a : Int) (xs : List Int) (i : Nat) (h : i < xs.length) : (mkL a i ++ xs.drop i).set i (a + (i : Int)) = mkL a (i + 1) ++ xs.drop (i + 1) := by
  have e : xs.drop i = xs[i] :: xs.drop (i + 1) := List.drop_eq_getElem_cons h
  have hl := mkL_len a i
  rw [e]
  have := set_mid (mkL a i) (xs.drop (i + 1)) xs[i] (a + (i : Int))
  rw [hl] at this
  rw [this]
  unfold mkL
  rw [List.range_succ, List.map_append]
  simp
theorem i64_next {a : Int} (h0 : 0 ≤ a) (h1 : a ≤ 100000000) : IntKind.i64.wrap (a + 1) = a + 1 := i64_small (by omega) (by omega)
set_option maxHeartbeats 2000000 in
set_option maxRecDepth 100000 in
/-- laws.markIntS at a row, whatever the value's capacity. -/
theorem markRow_calls (B : Nat) (w00 : World) (g N cap c : Nat) (a : Int) (xs : List Int) (V : World) (hN : N ≤ 1000000) (ha : 0 ≤ a) (ha2 : a ≤ 10000000) (h : Rw B w00 V g N cap xs) :
    Calls Try.prog 57 #[.slice (some ⟨g, 0, none⟩) N c, .int .i64 a] V fun e w' => e = .returned (.int .i64 (a + (N : Int))) ∧ Rw B w00 w' g N cap (mkL a N) ∧ Kept V w' (fun k => k = g) := by
  have hlen := h.len
  have H0 : Aside0 (Rw B w00 V g N cap (mkL a 0 ++ xs.drop 0)) := ⟨by simpa [mkL] using h⟩
  have HLN := Lib.hid hlen
  have HK0 := Aside0.mk (Kept.refl V (fun k => k = g))
  clear h hlen
  go_enter Try.func57, Try.ntmps57
  go_wp2_with fail
  go_loopw [1, 5] (fun v1 v5 w' => ∃ i : Nat, v5 = .int .i64 (i : Int) ∧ v1 = .int .i64 (a + (i : Int)) ∧ i ≤ N ∧ Aside0 (Rw B w00 w' g N cap (mkL a i ++ xs.drop i)) ∧ Aside0 (Kept V w' (fun k => k = g))) (fun _ v5 _ => N - (intOf v5).toNat)
  case atStart => exact ⟨0, rfl, by simp, Nat.zero_le _, H0, HK0⟩
  case round =>
    clear H0 HK0
    obtain ⟨i, rfl, rfl, hi, HW, HK⟩ := hrel
    by_cases hlt : i < N
    · have b1 : decide ((i : Int) < (N : Int)) = true := decide_eq_true (by omega)
      obtain ⟨c1, f1⟩ := HW.out.cell (i := i) hlt
      have hs := HW.out.set i (a + (i : Int))
      rw [mkL_set a xs i (by have := HLN.out; omega)] at hs
      have HS := Aside0.mk hs
      have hk := HK.out.setCell (p := ⟨g, i, none⟩) (.inl rfl) (.int .i64 (a + (i : Int)))
      have HKS := Aside0.mk hk
      have p1 : 0 ≤ (i : Int) := by omega
      have p2 : (i : Int) < (N : Int) := by omega
      have W1 := Lib.hid (i64_next (a := a + (i : Int)) (by omega) (by omega))
      have W2 := Lib.hid (i64_next (a := (i : Int)) (by omega) (by omega))
      have n1 : i + 1 ≤ N := by omega
      clear hs hk
      have w1 := W1.out
      have w2 := W2.out
      go_wp2_with fail
      clear w1 w2
      go_roundw
      case rel => exact ⟨i + 1, by simp, by congr 1; simp; omega, n1, HS, HKS⟩
      case measure => simp [intOf]; omega
    · have b1 : decide ((i : Int) < (N : Int)) = false := decide_eq_false (by omega)
      have hie : i = N := by omega
      subst hie
      have hr := HW.out
      rw [List.drop_of_length_le (by have := HLN.out; omega), List.append_nil] at hr
      have HR := Aside0.mk hr
      clear hr
      go_wp2_with fail
      go_ret
      exact ⟨rfl, HR.out, HK.out⟩
set_option maxHeartbeats 2000000 in
set_option maxRecDepth 100000 in
/-- .. and at an empty one. -/
theorem markNil_calls (A : Option Addr) (c : Nat) (a : Int) (V : World) :
    Calls Try.prog 57 #[.slice A 0 c, .int .i64 a] V fun e w' => e = .returned (.int .i64 a) ∧ w' = V := by
  go_enter Try.func57, Try.ntmps57
  go_wp2_with fail
  go_loopw [1, 5] (fun v1 v5 w' => v5 = .int .i64 0 ∧ v1 = .int .i64 a ∧ w' = V) (fun _ _ _ => 0)
  case atStart => exact ⟨rfl, rfl, rfl⟩
  case round =>
    obtain ⟨rfl, rfl, rfl⟩ := hrel
    go_wp2_with fail
    go_ret
    exact ⟨rfl, rfl⟩
/-- The number behind the marks of the first rows. -/
def mkN (a : Int) (rows : List (List Int)) : Nat → Int
  | 0 => a
  | i + 1 => mkN a rows i + ((rows.getD i []).length : Int)
/-- The rows once the first are marked. -/
def mkR (a : Int) (rows : List (List Int)) : Nat → List (List Int)
  | 0 => rows
  | i + 1 => (mkR a rows i).set i (mkL (mkN a rows i) (rows.getD i []).length)
theorem mkR_len (a : Int) (rows : List (List Int)) : ∀ i, (mkR a rows i).length = rows.length
  | 0 => rfl
  | i + 1 => by unfold mkR; rw [List.length_set, mkR_len a rows i]
theorem mkR_at (a : Int) (rows : List (List Int)) : ∀ i j, i ≤ j → (mkR a rows i).getD j [] = rows.getD j []
  | 0, _, _ => rfl
  | i + 1, j, h => by unfold mkR; rw [getD_setR, if_neg (by omega), mkR_at a rows i j (by omega)]
theorem mkN_bound {a : Int} {rows : List (List Int)} (hr : ∀ i, (rows.getD i []).length ≤ 1000) (ha : 0 ≤ a) : ∀ i, 0 ≤ mkN a rows i ∧ mkN a rows i ≤ a + 1000 * (i : Int)
  | 0 => by unfold mkN; omega
  | i + 1 => by
    have := mkN_bound hr ha i
    have := hr i
    unfold mkN
    omega
set_option maxHeartbeats 2000000 in
set_option maxRecDepth 100000 in
/-- laws.markIntSS at the rows of a run. -/
theorem markGr_calls (B : Nat) (w00 : World) (gr c : Nat) (us : List Value) (rows : List (List Int)) (a : Int) (V : World) (hn : rows.length ≤ 1000) (hr : ∀ i, (rows.getD i []).length ≤ 1000) (ha : 0 ≤ a) (ha2 : a ≤ 1000000) (hG : Gr V B gr us rows) (hB : Below B w00 V) :
    Calls Try.prog 92 #[.slice (some ⟨gr, 0, none⟩) rows.length c, .int .i64 a] V fun e w' => e = .returned (.int .i64 (mkN a rows rows.length)) ∧ Gr w' B gr us (mkR a rows rows.length) ∧ Below B w00 w' ∧ Kept V w' (fun k => ∃ i, i < us.length ∧ (us.getD i nilV).ownBlock = some k) := by
  have H0 := Aside0.mk hG
  have HB0 := Aside0.mk hB
  have HK0 := Aside0.mk (Kept.refl V (fun k => ∃ i, i < us.length ∧ (us.getD i nilV).ownBlock = some k))
  have HRL := Lib.hid hr
  have HUL := Lib.hid hG.len
  have hu33 := Try.underlying33
  clear hG hB hr
  go_enter Try.func92, Try.ntmps92
  go_wp2_with fail
  go_loopw [1, 5] (fun v1 v5 w' => ∃ i : Nat, v5 = .int .i64 (i : Int) ∧ v1 = .int .i64 (mkN a rows i) ∧ i ≤ rows.length ∧ Aside0 (Gr w' B gr us (mkR a rows i)) ∧ Aside0 (Below B w00 w') ∧ Aside0 (Kept V w' (fun k => ∃ i, i < us.length ∧ (us.getD i nilV).ownBlock = some k))) (fun _ v5 _ => rows.length - (intOf v5).toNat)
  case atStart => exact ⟨0, rfl, rfl, Nat.zero_le _, H0, HB0, HK0⟩
  case round =>
    clear H0 HB0 HK0
    obtain ⟨i, rfl, rfl, hi, HG, HB, HK⟩ := hrel
    by_cases hlt : i < rows.length
    · have b1 : decide ((i : Int) < (rows.length : Int)) = true := decide_eq_true (by omega)
      have hG := HG.out
      have hil : i < (mkR a rows i).length := by rw [mkR_len]; exact hlt
      have hrow := hG.row i hil
      rw [mkR_at a rows i i (Nat.le_refl _)] at hrow
      have hul : i < us.length := by rw [HUL.out]; exact hlt
      have hcell : wr.cell? ⟨gr, i, none⟩ = some (us.getD i nilV) := by
        rw [blk_cell hG.blk i, List.getElem?_toArray, List.getD_eq_getElem?_getD, List.getElem?_eq_getElem hul]
        rfl
      have hbd := mkN_bound (a := a) HRL.out ha i
      have hrl := HRL.out i
      obtain ⟨n, hnn⟩ : ∃ n, n = (rows.getD i []).length := ⟨_, rfl⟩
      have hst : mkR a rows (i + 1) = (mkR a rows i).set i (mkL (mkN a rows i) (rows.getD i []).length) := rfl
      have hsn : mkN a rows (i + 1) = mkN a rows i + ((rows.getD i []).length : Int) := rfl
      obtain ⟨b, hb⟩ : ∃ b, b = mkN a rows i := ⟨_, rfl⟩
      rw [← hb] at hst hsn hbd ⊢
      rw [← hnn] at hst hsn hrl
      have p1 : 0 ≤ (i : Int) := by omega
      have p2 : (i : Int) < (rows.length : Int) := by omega
      have hcall : Calls Try.prog 57 #[us.getD i nilV, .int .i64 b] wr fun e w' => e = .returned (.int .i64 (b + (n : Int))) ∧ Gr w' B gr us (mkR a rows (i + 1)) ∧ Below B w00 w' ∧ Kept wr w' (fun k => ∃ i, i < us.length ∧ (us.getD i nilV).ownBlock = some k) := by
        rcases Nat.eq_zero_or_pos n with hz | hpos
        · obtain ⟨A, cc, e⟩ := Kd.RR_slice hrow
          rw [← hnn, hz] at e
          rw [e]
          refine (markNil_calls A cc b wr).mono ?_
          rintro e' w' ⟨rfl, rfl⟩
          refine ⟨by rw [hz]; simp, ?_, HB.out, Kept.refl _ _⟩
          have hnil : rows.getD i [] = [] := List.eq_nil_of_length_eq_zero (by rw [← hnn]; exact hz)
          rw [hst, hz]
          have hsame : (mkR a rows i).set i (mkL b 0) = mkR a rows i := by
            apply List.ext_getElem?
            intro j
            by_cases e2 : i = j
            · subst e2
              rw [List.getElem?_set_self hil, List.getElem?_eq_getElem hil]
              have h2 := mkR_at a rows i i (Nat.le_refl _)
              rw [List.getD_eq_getElem?_getD, List.getElem?_eq_getElem hil] at h2
              simp only [Option.getD_some] at h2
              rw [h2, hnil]
              rfl
            · rw [List.getElem?_set_ne e2]
          rw [hsame]
          exact HG.out
        · obtain ⟨A, n', c1, c2, e, hcc, hc, hR⟩ := hrow
          obtain ⟨g, cap, e3, hbg, hgl, _⟩ := Kd.R_form hR (by omega)
          injection e3 with e4 e5 e6
          rw [← hnn] at e5
          subst e4 e5 e6
          rw [e]
          refine (markRow_calls B w00 g n' c2 c1 b (rows.getD i []) wr (by omega) (by omega) (by omega) ⟨hR, HB.out⟩).mono ?_
          rintro e' w' ⟨rfl, h1, h2⟩
          have hob : (us.getD i nilV).ownBlock = some g := by rw [e]; rfl
          refine ⟨rfl, ?_, h1.2, h2.mono (fun k hk => ⟨i, hul, by rw [hob, hk]⟩)⟩
          rw [hst]
          exact HG.out.mark hil hob h2 (by rw [e]; exact ⟨_, _, _, _, rfl, hcc, hc, h1.1⟩)
      have HC := Lib.hid hcall
      obtain ⟨u, hu⟩ : ∃ u, u = us.getD i nilV := ⟨_, rfl⟩
      rw [← hu] at hcell HC
      have HSN := Lib.hid hsn
      obtain ⟨A, cc, e⟩ := Kd.RR_slice hrow
      rw [← hu, ← hnn] at e
      subst e
      clear hcall hrow hst hsn hnn hG hil hul hbd hu hb
      go_wp2_with (go_at_call 57; refine HC.out.mono ?_; rintro e w2 ⟨rfl, h1, h2, h3⟩; have H1 := Aside0.mk h1; have H2 := Aside0.mk h2; have H3 := Aside0.mk h3; clear h1 h2 h3)
      go_roundw
      case rel => exact ⟨i + 1, by go_num, by rw [HSN.out], by omega, H1, H2, ⟨HK.out.then_ H3.out (fun k h => .inl h)⟩⟩
      case measure => simp [intOf]; omega
    · have b1 : decide ((i : Int) < (rows.length : Int)) = false := decide_eq_false (by omega)
      obtain rfl : i = rows.length := by omega
      go_wp2_with fail
      go_ret
      exact ⟨rfl, HG.out, HB.out, HK.out⟩


/-- A server at work: what is left of its budget, its deadline, how many requests came, the one it serves, how much of that is done. -/
structure Sv where
  left : Int
  dl : Int
  came : Int
  hd : Int
  dn : Int
def SvM (W : World) (q : Nat) (b p : Int) (R : Value) (s : Sv) : Prop :=
  W.heap[q]? = some (.cells #[.int .i64 b, .int .i64 p, .int .i64 s.left, .int .i64 s.dl, R, .int .i64 s.came, .int .i64 s.hd, .int .i64 s.dn] 118 (0, 0))
/-- What holds of a server throughout. -/
structure SvB (b p : Int) (rs : List (S164)) (s : Sv) : Prop where
  b1 : 1 ≤ b
  bp : b ≤ p
  p1 : p ≤ 12
  rl : rs.length ≤ 20
  rx : ∀ i : Int, 0 ≤ i → i < rs.length → 1 ≤ (rd_T164 rs i).f1 ∧ (rd_T164 rs i).f1 ≤ 20
  l0 : 1 ≤ s.left
  l1 : s.left ≤ b
  d0 : 0 ≤ s.dl
  d1 : s.dl ≤ 1000 + 100 * (20 * s.hd + s.dn)
  h0 : 0 ≤ s.hd
  h1 : s.hd ≤ s.came
  c1 : s.came ≤ rs.length
  n0 : 0 ≤ s.dn
  n1 : s.hd < s.came → s.dn < (rd_T164 rs s.hd).f1
  n2 : s.hd = s.came → s.dn = 0
def pendS (s : Sv) : Bool := decide (s.hd < s.came)
def adm1 (b p now : Int) (s : Sv) : Sv :=
  if s.hd < s.came then ⟨s.left, s.dl, s.came + 1, s.hd, s.dn⟩
  else if s.left * p ≥ (s.dl - now) * b then ⟨b, now + p, s.came + 1, s.hd, s.dn⟩ else ⟨s.left, s.dl, s.came + 1, s.hd, s.dn⟩
def admN (b p now : Int) (rs : List (S164)) : Nat → Sv → Sv
  | 0, s => s
  | n + 1, s => if (rd_T164 rs s.came).f0 = now then admN b p now rs n (adm1 b p now s) else s
def adm (b p now : Int) (rs : List (S164)) (s : Sv) : Sv := admN b p now rs (rs.length - s.came.toNat) s
/-- A tick of service. -/
def srvS (b p : Int) (rs : List (S164)) (s : Sv) : Sv :=
  if s.dn + 1 < (rd_T164 rs s.hd).f1 then ⟨if s.left - 1 = 0 then b else s.left - 1, if s.left - 1 = 0 then s.dl + p else s.dl, s.came, s.hd, s.dn + 1⟩
  else ⟨if s.left - 1 = 0 then b else s.left - 1, if s.left - 1 = 0 then s.dl + p else s.dl, s.came, s.hd + 1, 0⟩
def srvF (rs : List (S164)) (s : Sv) : Bool := !decide (s.dn + 1 < (rd_T164 rs s.hd).f1)
theorem SvB.adm1 {b p now : Int} {rs : List (S164)} {s : Sv} (h : SvB b p rs s) (hc : s.came < rs.length) (h0 : 0 ≤ now) (h1 : now ≤ 200) : SvB b p rs (adm1 b p now s) := by
  obtain ⟨a1, a2, a3, a4, a5, a6, a7, a8, a9, b1, b2, b3, b4, b5, b6⟩ := h
  have hx := a5 s.came (by omega) hc
  unfold Print.adm1
  split
  · rename_i hp
    exact ⟨a1, a2, a3, a4, a5, a6, a7, a8, a9, b1, by show s.hd ≤ s.came + 1; omega, by show s.came + 1 ≤ _; omega, b4, fun _ => b5 hp, fun e => by have e : s.hd = s.came + 1 := e; omega⟩
  · rename_i hp
    have he : s.hd = s.came := by omega
    have hd := b6 he
    have hn : s.dn < (rd_T164 rs s.hd).f1 := by rw [he, hd]; omega
    split
    · exact ⟨a1, a2, a3, a4, a5, a1, Int.le_refl _, by show 0 ≤ now + p; omega, by show now + p ≤ 1000 + 100 * (20 * s.hd + s.dn); omega, b1, by show s.hd ≤ s.came + 1; omega, by show s.came + 1 ≤ _; omega, b4, fun _ => hn, fun e => by have e : s.hd = s.came + 1 := e; omega⟩
    · exact ⟨a1, a2, a3, a4, a5, a6, a7, a8, a9, b1, by show s.hd ≤ s.came + 1; omega, by show s.came + 1 ≤ _; omega, b4, fun _ => hn, fun e => by have e : s.hd = s.came + 1 := e; omega⟩
theorem adm1_came (b p now : Int) (s : Sv) : (adm1 b p now s).came = s.came + 1 := by
  unfold adm1; split
  · rfl
  · split <;> rfl
theorem SvB.admN {b p now : Int} {rs : List (S164)} (h0 : 0 ≤ now) (h1 : now ≤ 200) : ∀ (n : Nat) {s : Sv}, SvB b p rs s → s.came + n = rs.length → SvB b p rs (admN b p now rs n s)
  | 0, _, h, _ => h
  | n + 1, s, h, he => by
    unfold Print.admN
    split
    · exact SvB.admN h0 h1 n (h.adm1 (by omega) h0 h1) (by rw [adm1_came]; omega)
    · exact h
theorem SvB.adm {b p now : Int} {rs : List (S164)} {s : Sv} (h : SvB b p rs s) (h0 : 0 ≤ now) (h1 : now ≤ 200) : SvB b p rs (adm b p now rs s) :=
  SvB.admN h0 h1 _ h (by have := h.h0; have := h.h1; have := h.c1; omega)
theorem SvB.srv {b p : Int} {rs : List (S164)} {s : Sv} (h : SvB b p rs s) (hp : s.hd < s.came) : SvB b p rs (srvS b p rs s) := by
  obtain ⟨a1, a2, a3, a4, a5, a6, a7, a8, a9, b1, b2, b3, b4, b5, b6⟩ := h
  have hx := a5 s.hd b1 (by omega)
  have hdn := b5 hp
  have e1 : 1 ≤ (if s.left - 1 = 0 then b else s.left - 1) ∧ (if s.left - 1 = 0 then b else s.left - 1) ≤ b := by split <;> omega
  have e2 : 0 ≤ (if s.left - 1 = 0 then s.dl + p else s.dl) ∧ (if s.left - 1 = 0 then s.dl + p else s.dl) ≤ s.dl + p := by split <;> omega
  unfold srvS
  split
  · rename_i hl
    exact ⟨a1, a2, a3, a4, a5, e1.1, e1.2, e2.1, by show (if s.left - 1 = 0 then s.dl + p else s.dl) ≤ 1000 + 100 * (20 * s.hd + (s.dn + 1)); omega, b1, b2, b3, by show 0 ≤ s.dn + 1; omega, fun _ => hl, fun e => by have e : s.hd = s.came := e; omega⟩
  · rename_i hl
    refine ⟨a1, a2, a3, a4, a5, e1.1, e1.2, e2.1, by show (if s.left - 1 = 0 then s.dl + p else s.dl) ≤ 1000 + 100 * (20 * (s.hd + 1) + 0); omega, by show 0 ≤ s.hd + 1; omega, by show s.hd + 1 ≤ s.came; omega, b3, Int.le_refl _, fun e => ?_, fun _ => rfl⟩
    have e : s.hd + 1 < s.came := e
    have := a5 (s.hd + 1) (by omega) (by omega)
    show 0 < (rd_T164 rs (s.hd + 1)).f1
    omega
set_option maxHeartbeats 2000000 in
set_option maxRecDepth 100000 in
theorem pending_calls (q : Nat) (b p : Int) (R : Value) (s : Sv) (w : World) (h : SvM w q b p R s) :
    Calls Try.prog 84 #[.pointer (some ⟨q, 0, none⟩)] w fun e w' => e = .returned (.bool (pendS s)) ∧ ∃ m, w' = w.drewN m := by
  have c5 : w.cell? ⟨q, 5, none⟩ = some (.int .i64 s.came) := (blk_cell h 5).trans rfl
  have c6 : w.cell? ⟨q, 6, none⟩ = some (.int .i64 s.hd) := (blk_cell h 6).trans rfl
  have hu := Try.underlying118
  have HE := Lib.hid (show pendS s = decide (s.hd < s.came) from rfl)
  clear h
  go_enter Try.func84, Try.ntmps84
  go_wp2_with fail
  go_quiet (fail)
  go_wp2
  go_ret
  exact ⟨by rw [HE.out]; rfl, _, rfl⟩

theorem i64_sm {x : Int} (h0 : -9223372036854775808 ≤ x) (h1 : x ≤ 9223372036854775807) : IntKind.i64.wrap x = x := by rw [i64_w]; unfold wrap64; omega
theorem SvM.below {W W2 : World} {q : Nat} {b p : Int} {R : Value} {s : Sv} (h : SvM W q b p R s) (hb : Below W.heap.size W W2) : SvM W2 q b p R s := blk_below h hb
theorem SvM.drewN {W : World} {q : Nat} {b p : Int} {R : Value} {s : Sv} (h : SvM W q b p R s) (n : Nat) : SvM (W.drewN n) q b p R s := blk_drewN h n
theorem SvM.all {W : World} {q : Nat} {b p : Int} {R : Value} {s : Sv} (h : SvM W q b p R s) : W.cell? ⟨q, 0, none⟩ = some (.int .i64 b) ∧ W.cell? ⟨q, 1, none⟩ = some (.int .i64 p) ∧ W.cell? ⟨q, 2, none⟩ = some (.int .i64 s.left) ∧ W.cell? ⟨q, 3, none⟩ = some (.int .i64 s.dl) ∧ W.cell? ⟨q, 4, none⟩ = some R ∧ W.cell? ⟨q, 5, none⟩ = some (.int .i64 s.came) ∧ W.cell? ⟨q, 6, none⟩ = some (.int .i64 s.hd) ∧ W.cell? ⟨q, 7, none⟩ = some (.int .i64 s.dn) ∧
    W.frozen? ⟨q, 2, none⟩ = false ∧ W.frozen? ⟨q, 3, none⟩ = false ∧ W.frozen? ⟨q, 5, none⟩ = false ∧ W.frozen? ⟨q, 6, none⟩ = false ∧ W.frozen? ⟨q, 7, none⟩ = false :=
  ⟨(blk_cell h 0).trans rfl, (blk_cell h 1).trans rfl, (blk_cell h 2).trans rfl, (blk_cell h 3).trans rfl, (blk_cell h 4).trans rfl, (blk_cell h 5).trans rfl, (blk_cell h 6).trans rfl, (blk_cell h 7).trans rfl, blk_frozen h 2, blk_frozen h 3, blk_frozen h 5, blk_frozen h 6, blk_frozen h 7⟩
/-- What admit keeps. -/
def AdmI (w00 w W : World) (q : Nat) (b p : Int) (R : Value) (s : Sv) : Prop := SvM W q b p R s ∧ Kept w W (fun k => k = q) ∧ Below w00.heap.size w00 W
theorem AdmI.drewN {w00 w W : World} {q : Nat} {b p : Int} {R : Value} {s : Sv} (h : AdmI w00 w W q b p R s) (n : Nat) : AdmI w00 w (W.drewN n) q b p R s := ⟨h.1.drewN n, h.2.1.drewN n, pw_below_drewN h.2.2 n⟩
theorem AdmI.drew {w00 w W : World} {q : Nat} {b p : Int} {R : Value} {s : Sv} (h : AdmI w00 w W q b p R s) : AdmI w00 w W.drew q b p R s := ⟨blk_drew h.1, h.2.1.drew, below_drew h.2.2⟩
theorem AdmI.put {w00 w W : World} {q : Nat} {b p : Int} {R : Value} {s s2 : Sv} (h : AdmI w00 w W q b p R s) (hq : w00.heap.size ≤ q) (j : Nat) (x : Int)
    (he : (#[Value.int .i64 b, .int .i64 p, .int .i64 s.left, .int .i64 s.dl, R, .int .i64 s.came, .int .i64 s.hd, .int .i64 s.dn] : Array Value).setIfInBounds j (.int .i64 x) = #[.int .i64 b, .int .i64 p, .int .i64 s2.left, .int .i64 s2.dl, R, .int .i64 s2.came, .int .i64 s2.hd, .int .i64 s2.dn]) : AdmI w00 w (W.setCell ⟨q, j, none⟩ (.int .i64 x)) q b p R s2 := by
  refine ⟨?_, h.2.1.setCell (.inl rfl) _, h.2.2.setCell hq _⟩
  have := blk_set h.1 j (.int .i64 x)
  rw [he] at this
  exact this
set_option maxHeartbeats 4000000 in
set_option maxRecDepth 100000 in
theorem admit_calls (w00 : World) (q : Nat) (hq : w00.heap.size ≤ q) (b p now : Int) (A : Option Addr) (c : Nat) (rs : List (S164)) (s : Sv) (w : World) (h : SvM w q b p (.slice A rs.length c) s) (hb : SvB b p rs s) (hr : Kd.C k164 w00 A rs.length rs) (hw : Below w00.heap.size w00 w) (h0 : 0 ≤ now) (h1 : now ≤ 200) :
    Calls Try.prog 83 #[.pointer (some ⟨q, 0, none⟩), .int .i64 now] w fun e w' => e = .returned (.tuple #[]) ∧ SvM w' q b p (.slice A rs.length c) (adm b p now rs s) ∧ Kept w w' (fun k => k = q) ∧ Below w00.heap.size w00 w' := by
  have hu := Try.underlying118
  have huS := Try.underlying109
  have huA := Try.underlying164
  have HI0 : Aside0 (AdmI w00 w w q b p (.slice A rs.length c) s) := ⟨h, Kept.refl _ _, hw⟩
  have HR := Lib.hid hr
  have hfu : s.came + ((rs.length - s.came.toNat : Nat) : Int) = rs.length := by have := hb.h0; have := hb.h1; have := hb.c1; omega
  have HFIN := Lib.hid (show adm b p now rs s = admN b p now rs (rs.length - s.came.toNat) s from rfl)
  have HB := Lib.hid hb
  generalize adm b p now rs s = S at HFIN ⊢
  generalize rs.length - s.came.toNat = n0 at HFIN hfu
  clear h hr hw hb
  go_enter Try.func83, Try.ntmps83
  go_wp2_with fail
  go_loopg [] n0 (fun kq w' => ∃ s' : Sv, Aside0 (AdmI w00 w w' q b p (.slice A rs.length c) s') ∧ S = admN b p now rs kq s' ∧ SvB b p rs s' ∧ s'.came + (kq : Int) = rs.length)
  case atStart => exact ⟨s, HI0, HFIN.out, HB.out, hfu⟩
  case round =>
    clear HI0 HFIN HB
    obtain ⟨s', HI, hS, hB, hk⟩ := hrel
    obtain ⟨sl, sd, sc, sh, sn⟩ := s'
    obtain ⟨a1, a2, a3, a4, a5, a6, a7, a8, a9, b1, b2, b3, b4, b5, b6⟩ := id hB
    simp only at a6 a7 a8 a9 b1 b2 b3 b4 hk
    have HBB := Lib.hid hB
    have HR2 := Kd.C_below HR.out HI.out.2.2
    ((obtain ⟨z0, z1, z2, z3, z4, z5, z6, z7, zf2, zf3, zf5, zf6, zf7⟩ := HI.out.1.all; simp only at z2 z3 z5 z6 z7))
    have b7 : sn ≤ 20 := by
      by_cases h : sh < sc
      · have h2 : sn < (rd_T164 rs sh).f1 := b5 h; have := a5 sh b1 (by omega); omega
      · have h2 : sn = 0 := b6 (show sh = sc by omega); omega
    clear b5 b6 a5
    cases gk with
    | zero =>
      have hlt : decide (sc < (rs.length : Int)) = false := decide_eq_false (by omega)
      have HS : Hid (S = ⟨sl, sd, sc, sh, sn⟩) := Lib.hid hS
      clear hS hB HR2
      go_wp2_with fail
      go_quiet (fail)
      go_wp2
      go_end0
      rw [HS.out]
      exact ⟨rfl, HI.out.drewN _⟩
    | succ k1 =>
      have hlt : decide (sc < (rs.length : Int)) = true := decide_eq_true (by omega)
      obtain ⟨ad, e0, hx0, hx1⟩ := at_T164 HR2 sc (by omega) (by omega)
      cases e0
      have hstp : admN b p now rs (k1 + 1) ⟨sl, sd, sc, sh, sn⟩ = if (rd_T164 rs sc).f0 = now then admN b p now rs k1 (adm1 b p now ⟨sl, sd, sc, sh, sn⟩) else ⟨sl, sd, sc, sh, sn⟩ := rfl
      rw [hstp] at hS
      obtain ⟨tm, htm⟩ : ∃ tm, tm = (rd_T164 rs sc).f0 := ⟨_, rfl⟩
      rw [← htm] at hx0 hS
      have q0 : 0 ≤ sc := by omega
      have q1 : sc < (rs.length : Int) := by omega
      by_cases he : tm = now
      · have heb : (tm == now) = true := by rw [beq_iff_eq]; exact he
        rw [if_pos he] at hS
        have HN1 := hB.adm1 (now := now) q1 h0 h1
        have hca := adm1_came b p now ⟨sl, sd, sc, sh, sn⟩
        have n1 : 0 ≤ sl * p ∧ sl * p ≤ 144 := ⟨Int.mul_nonneg (by omega) (by omega), by have := Int.mul_le_mul (show sl ≤ 12 by omega) (show p ≤ 12 by omega) (by omega) (by omega); omega⟩
        have n2 : (sd - now) * b ≤ 1000000 := by have := Int.mul_le_mul (show sd - now ≤ 50000 by omega) (show b ≤ 12 by omega) (by omega) (by omega); omega
        have n3 : -1000000 ≤ (sd - now) * b := by have := Int.mul_le_mul (show -(sd - now) ≤ 50000 by omega) (show b ≤ 12 by omega) (by omega) (by omega); rw [Int.neg_mul] at this; omega
        have W1 := Lib.hid (show IntKind.i64.wrap (sl * p) = sl * p from i64_sm (by omega) (by omega))
        have W2 := Lib.hid (show IntKind.i64.wrap ((sd - now) * b) = (sd - now) * b from i64_sm (by omega) (by omega))
        have W3 := Lib.hid (show IntKind.i64.wrap (sd - now) = sd - now from i64_sm (by omega) (by omega))
        have W4 := Lib.hid (show IntKind.i64.wrap (now + p) = now + p from i64_sm (by omega) (by omega))
        have W5 := Lib.hid (show IntKind.i64.wrap (sc + 1) = sc + 1 from i64_sm (by omega) (by omega))
        have hpv : pendS ⟨sl, sd, sc, sh, sn⟩ = decide (sh < sc) := rfl
        have hsc2 : sc + 1 + (k1 : Int) = rs.length := by omega
        clear n1 n2 n3 hB HR2 htm hx1 hstp
        by_cases hp : sh < sc
        · have hpb : decide (sh < sc) = true := decide_eq_true hp
          rw [hpb] at hpv
          have had : adm1 b p now ⟨sl, sd, sc, sh, sn⟩ = ⟨sl, sd, sc + 1, sh, sn⟩ := by unfold adm1; rw [if_pos hp]
          rw [had] at hS HN1
          have HS := Lib.hid hS
          have HN := Lib.hid HN1
          have w5 := W5.out
          clear hS HN1 had hp hca
          go_wp2_with fail
          go_quiet (fail)
          ((have HIx := Aside0.mk (HI.out.drewN nq); clear z0 z1 z2 z3 z4 z5 z6 z7 zf2 zf3 zf5 zf6 zf7 HI; generalize World.drewN wr nq = w1 at HIx ⊢; have HI := HIx; clear HIx; ((obtain ⟨z0, z1, z2, z3, z4, z5, z6, z7, zf2, zf3, zf5, zf6, zf7⟩ := HI.out.1.all; simp only at z2 z3 z5 z6 z7))))
          have HPD := Lib.hid (fun n => pending_calls q b p (.slice (some ad) rs.length c) ⟨sl, sd, sc, sh, sn⟩ (w1.drewN n) (HI.out.1.drewN n))
          rw [hpv] at HPD
          clear hpv
          go_wp2_with fail
          ((go_quiet ((go_at_call 84; with_reducible exact Calls.quiet_of (HPD.out _)))))
          go_wp2_with fail
          go_roundg k1
          case measure => omega
          case rel => exact ⟨⟨sl, sd, sc + 1, sh, sn⟩, ⟨(HI.out.drewN nq).put hq 5 (sc + 1) rfl⟩, HS.out, HN.out, hsc2⟩
        · have hpb : decide (sh < sc) = false := decide_eq_false hp
          rw [hpb] at hpv
          by_cases hg : sl * p ≥ (sd - now) * b
          · have hgb : decide (sl * p ≥ (sd - now) * b) = true := decide_eq_true hg
            have had : adm1 b p now ⟨sl, sd, sc, sh, sn⟩ = ⟨b, now + p, sc + 1, sh, sn⟩ := by unfold adm1; rw [if_neg hp, if_pos hg]
            rw [had] at hS HN1
            have HS := Lib.hid hS
            have HN := Lib.hid HN1
            have w1_ := W1.out
            have w2_ := W2.out
            have w3_ := W3.out
            have w4_ := W4.out
            have w5_ := W5.out
            clear hS HN1 had hp hg hca
            go_wp2_with fail
            go_quiet (fail)
            ((have HIx := Aside0.mk (HI.out.drewN nq); clear z0 z1 z2 z3 z4 z5 z6 z7 zf2 zf3 zf5 zf6 zf7 HI; generalize World.drewN wr nq = w1 at HIx ⊢; have HI := HIx; clear HIx; ((obtain ⟨z0, z1, z2, z3, z4, z5, z6, z7, zf2, zf3, zf5, zf6, zf7⟩ := HI.out.1.all; simp only at z2 z3 z5 z6 z7))))
            have HPD := Lib.hid (fun n => pending_calls q b p (.slice (some ad) rs.length c) ⟨sl, sd, sc, sh, sn⟩ (w1.drewN n) (HI.out.1.drewN n))
            rw [hpv] at HPD
            clear hpv
            go_wp2_with fail
            ((go_quiet ((go_at_call 84; with_reducible exact Calls.quiet_of (HPD.out _)))))
            clear HPD
            ((have HIx := Aside0.mk (HI.out.drewN nq); clear z0 z1 z2 z3 z4 z5 z6 z7 zf2 zf3 zf5 zf6 zf7 HI; generalize World.drewN w1 nq = w1 at HIx ⊢; have HI := HIx; clear HIx; ((obtain ⟨z0, z1, z2, z3, z4, z5, z6, z7, zf2, zf3, zf5, zf6, zf7⟩ := HI.out.1.all; simp only at z2 z3 z5 z6 z7))))
            go_wp2_with fail
            go_region
            have hi2 : AdmI w00 w (World.drew ((w1.setCell ⟨q, 3, none⟩ (.int .i64 (now + p))).setCell ⟨q, 2, none⟩ (.int .i64 b))) q b p (.slice (some ad) rs.length c) ⟨b, now + p, sc, sh, sn⟩ := ((HI.out.put (s2 := ⟨sl, now + p, sc, sh, sn⟩) hq 3 (now + p) rfl).put hq 2 b rfl).drew
            have HI2 := Aside0.mk hi2
            clear hi2 z0 z1 z2 z3 z4 z5 z6 z7 zf2 zf3 zf5 zf6 zf7 HI
            generalize World.drew _ = w2 at HI2 ⊢
            have z5 : w2.cell? ⟨q, 5, none⟩ = some (.int .i64 sc) := (blk_cell HI2.out.1 5).trans rfl
            have zf5 := blk_frozen HI2.out.1 5
            go_wp2_with fail
            go_roundg k1
            case measure => omega
            case rel => exact ⟨⟨b, now + p, sc + 1, sh, sn⟩, ⟨HI2.out.put hq 5 (sc + 1) rfl⟩, HS.out, HN.out, hsc2⟩
          · have hgb : decide (sl * p ≥ (sd - now) * b) = false := decide_eq_false hg
            have had : adm1 b p now ⟨sl, sd, sc, sh, sn⟩ = ⟨sl, sd, sc + 1, sh, sn⟩ := by unfold adm1; rw [if_neg hp, if_neg hg]
            rw [had] at hS HN1
            have HS := Lib.hid hS
            have HN := Lib.hid HN1
            have w1_ := W1.out
            have w2_ := W2.out
            have w3_ := W3.out
            have w5_ := W5.out
            clear hS HN1 had hp hg hca
            go_wp2_with fail
            go_quiet (fail)
            ((have HIx := Aside0.mk (HI.out.drewN nq); clear z0 z1 z2 z3 z4 z5 z6 z7 zf2 zf3 zf5 zf6 zf7 HI; generalize World.drewN wr nq = w1 at HIx ⊢; have HI := HIx; clear HIx; ((obtain ⟨z0, z1, z2, z3, z4, z5, z6, z7, zf2, zf3, zf5, zf6, zf7⟩ := HI.out.1.all; simp only at z2 z3 z5 z6 z7))))
            have HPD := Lib.hid (fun n => pending_calls q b p (.slice (some ad) rs.length c) ⟨sl, sd, sc, sh, sn⟩ (w1.drewN n) (HI.out.1.drewN n))
            rw [hpv] at HPD
            clear hpv
            go_wp2_with fail
            ((go_quiet ((go_at_call 84; with_reducible exact Calls.quiet_of (HPD.out _)))))
            go_wp2_with fail
            go_roundg k1
            case measure => omega
            case rel => exact ⟨⟨sl, sd, sc + 1, sh, sn⟩, ⟨(HI.out.drewN nq).put hq 5 (sc + 1) rfl⟩, HS.out, HN.out, hsc2⟩
      · have heb : (tm == now) = false := by rw [beq_eq_false_iff_ne]; exact he
        rw [if_neg he] at hS
        have HS := Lib.hid hS
        clear hS hB HR2 he htm hx1 hstp
        go_wp2_with fail
        go_quiet (fail)
        go_wp2
        go_end0
        rw [HS.out]
        exact ⟨rfl, HI.out.drewN _⟩

set_option maxHeartbeats 4000000 in
set_option maxRecDepth 100000 in
theorem serve_calls (w00 : World) (q : Nat) (hq : w00.heap.size ≤ q) (b p : Int) (A : Option Addr) (c : Nat) (rs : List (S164)) (s : Sv) (w : World) (h : SvM w q b p (.slice A rs.length c) s) (hb : SvB b p rs s) (hr : Kd.C k164 w00 A rs.length rs) (hw : Below w00.heap.size w00 w) (hp : s.hd < s.came) :
    Calls Try.prog 85 #[.pointer (some ⟨q, 0, none⟩)] w fun e w' => e = .returned (.bool (srvF rs s)) ∧ SvM w' q b p (.slice A rs.length c) (srvS b p rs s) ∧ Kept w w' (fun k => k = q) ∧ Below w00.heap.size w00 w' := by
  have hu := Try.underlying118
  have huS := Try.underlying109
  have huA := Try.underlying164
  have HI : Aside0 (AdmI w00 w w q b p (.slice A rs.length c) s) := ⟨h, Kept.refl _ _, hw⟩
  have HR := Lib.hid hr
  obtain ⟨sl, sd, sc, sh, sn⟩ := s
  obtain ⟨a1, a2, a3, a4, a5, a6, a7, a8, a9, b1, b2, b3, b4, b5, b6⟩ := hb
  simp only at a6 a7 a8 a9 b1 b2 b3 b4 hp
  have b5 := b5 hp
  have hx := a5 sh b1 (by omega)
  simp only at b5
  have hres : srvS b p rs ⟨sl, sd, sc, sh, sn⟩ = if sn + 1 < (rd_T164 rs sh).f1 then ⟨if sl - 1 = 0 then b else sl - 1, if sl - 1 = 0 then sd + p else sd, sc, sh, sn + 1⟩ else ⟨if sl - 1 = 0 then b else sl - 1, if sl - 1 = 0 then sd + p else sd, sc, sh + 1, 0⟩ := rfl
  have hfin : srvF rs ⟨sl, sd, sc, sh, sn⟩ = !decide (sn + 1 < (rd_T164 rs sh).f1) := rfl
  have hra : ∀ W, Below w00.heap.size w00 W → ∃ ad, A = some ad ∧ W.cell? ⟨(ad.add (sh.toNat * 2)).block, (ad.add (sh.toNat * 2)).off + 1, none⟩ = some (.int .i64 (rd_T164 rs sh).f1) := fun W hW => by
    obtain ⟨ad, e0, _, h1⟩ := at_T164 (Kd.C_below HR.out hW) sh b1 (by omega)
    exact ⟨ad, e0, h1⟩
  obtain ⟨ad, e0, _⟩ := hra w hw
  subst e0
  have hra2 : ∀ W, Below w00.heap.size w00 W → W.cell? ⟨(ad.add (sh.toNat * 2)).block, (ad.add (sh.toNat * 2)).off + 1, none⟩ = some (.int .i64 (rd_T164 rs sh).f1) := fun W hW => by
    obtain ⟨ad', e0, h1⟩ := hra W hW
    cases e0
    exact h1
  generalize (rd_T164 rs sh).f1 = ex at hres hfin hra2 b5 hx
  have HRA := Lib.hid hra2
  have W1 := Lib.hid (show IntKind.i64.wrap (sl - 1) = sl - 1 from i64_sm (by omega) (by omega))
  have W2 := Lib.hid (show IntKind.i64.wrap (sd + p) = sd + p from i64_sm (by omega) (by omega))
  have W3 := Lib.hid (show IntKind.i64.wrap (sn + 1) = sn + 1 from i64_sm (by omega) (by omega))
  have W4 := Lib.hid (show IntKind.i64.wrap (sh + 1) = sh + 1 from i64_sm (by omega) (by omega))
  have q0 : 0 ≤ sh := by omega
  have q1 : sh < (rs.length : Int) := by omega
  have w2_ := W2.out
  have w3_ := W3.out
  have w4_ := W4.out
  clear h hw hr hra hra2 a1 a2 a3 a4 a5 a6 a7 a8 a9 b1 b2 b3 b4 b5 b6 hp hx
  obtain ⟨l1, hl1⟩ : ∃ l1, l1 = sl - 1 := ⟨_, rfl⟩
  rw [← hl1] at hres
  have w1_ : IntKind.i64.wrap (sl - 1) = l1 := W1.out.trans hl1.symm
  clear hl1
  by_cases c1 : l1 = 0
  · rw [if_pos c1, if_pos c1] at hres
    subst c1
    ((obtain ⟨z0, z1, z2, z3, z4, z5, z6, z7, zf2, zf3, zf5, zf6, zf7⟩ := HI.out.1.all; simp only at z2 z3 z5 z6 z7))
    go_enter Try.func85, Try.ntmps85
    go_upto_region 2 with (fail)
    ((have HIx := Aside0.mk (HI.out.put (s2 := ⟨0, sd, sc, sh, sn⟩) hq 2 0 rfl); clear z0 z1 z2 z3 z4 z5 z6 z7 zf2 zf3 zf5 zf6 zf7 HI; generalize World.setCell w _ _ = w3 at HIx ⊢; have HI := HIx; clear HIx; ((obtain ⟨z0, z1, z2, z3, z4, z5, z6, z7, zf2, zf3, zf5, zf6, zf7⟩ := HI.out.1.all; simp only at z2 z3 z5 z6 z7))))
    go_upto_region 4 with (fail)
    ((have HIx := Aside0.mk (HI.out.put (s2 := ⟨b, sd, sc, sh, sn⟩) hq 2 b rfl); clear z0 z1 z2 z3 z4 z5 z6 z7 zf2 zf3 zf5 zf6 zf7 HI; generalize World.setCell w3 _ _ = w3 at HIx ⊢; have HI := HIx; clear HIx; ((obtain ⟨z0, z1, z2, z3, z4, z5, z6, z7, zf2, zf3, zf5, zf6, zf7⟩ := HI.out.1.all; simp only at z2 z3 z5 z6 z7))))
    go_wp2_with fail
    go_region
    have hi2 := (HI.out.put (s2 := ⟨b, sd + p, sc, sh, sn⟩) hq 3 (sd + p) rfl).drew
    have HIx := Aside0.mk hi2
    clear hi2 z0 z1 z2 z3 z4 z5 z6 z7 zf2 zf3 zf5 zf6 zf7 HI
    generalize World.drew _ = w2 at HIx ⊢
    have HI := HIx
    clear HIx
    ((obtain ⟨z0, z1, z2, z3, z4, z5, z6, z7, zf2, zf3, zf5, zf6, zf7⟩ := HI.out.1.all; simp only at z2 z3 z5 z6 z7))
    go_upto_region 6 with (fail)
    ((have HIx := Aside0.mk (HI.out.put (s2 := ⟨b, (sd + p), sc, sh, (sn + 1)⟩) hq 7 (sn + 1) rfl); clear z0 z1 z2 z3 z4 z5 z6 z7 zf2 zf3 zf5 zf6 zf7 HI; generalize World.setCell w2 _ _ = w3 at HIx ⊢; have HI := HIx; clear HIx; ((obtain ⟨z0, z1, z2, z3, z4, z5, z6, z7, zf2, zf3, zf5, zf6, zf7⟩ := HI.out.1.all; simp only at z2 z3 z5 z6 z7))))
    have hra3 := HRA.out w3 HI.out.2.2
    by_cases c2 : sn + 1 < ex
    · have c2b : decide (sn + 1 < ex) = true := decide_eq_true c2
      rw [if_pos c2] at hres
      rw [c2b] at hfin
      have HRS := Lib.hid hres
      have HFN := Lib.hid hfin
      clear hres hfin c2
      go_wp2_with fail
      go_quiet (fail)
      go_wp2
      go_ret
      rw [HRS.out, HFN.out]
      exact ⟨rfl, HI.out.drewN _⟩
    · have c2b : decide (sn + 1 < ex) = false := decide_eq_false c2
      rw [if_neg c2] at hres
      rw [c2b] at hfin
      have HRS := Lib.hid hres
      have HFN := Lib.hid hfin
      clear hres hfin c2
      go_wp2_with fail
      go_quiet (fail)
      ((have HIx := Aside0.mk (HI.out.drewN nq); clear z0 z1 z2 z3 z4 z5 z6 z7 zf2 zf3 zf5 zf6 zf7 HI; generalize World.drewN w3 nq = w1 at HIx ⊢; have HI := HIx; clear HIx; ((obtain ⟨z0, z1, z2, z3, z4, z5, z6, z7, zf2, zf3, zf5, zf6, zf7⟩ := HI.out.1.all; simp only at z2 z3 z5 z6 z7))))
      go_wp2
      go_ret
      rw [HRS.out, HFN.out]
      exact ⟨rfl, (HI.out.put (s2 := ⟨b, sd + p, sc, sh + 1, sn + 1⟩) hq 6 (sh + 1) rfl).put hq 7 0 rfl⟩
  · have c1b : (l1 == 0) = false := by rw [beq_eq_false_iff_ne]; exact c1
    rw [if_neg c1, if_neg c1] at hres
    ((obtain ⟨z0, z1, z2, z3, z4, z5, z6, z7, zf2, zf3, zf5, zf6, zf7⟩ := HI.out.1.all; simp only at z2 z3 z5 z6 z7))
    go_enter Try.func85, Try.ntmps85
    go_upto_region 2 with (fail)
    clear c1
    ((have HIx := Aside0.mk (HI.out.put (s2 := ⟨l1, sd, sc, sh, sn⟩) hq 2 l1 rfl); clear z0 z1 z2 z3 z4 z5 z6 z7 zf2 zf3 zf5 zf6 zf7 HI; generalize World.setCell w _ _ = w3 at HIx ⊢; have HI := HIx; clear HIx; ((obtain ⟨z0, z1, z2, z3, z4, z5, z6, z7, zf2, zf3, zf5, zf6, zf7⟩ := HI.out.1.all; simp only at z2 z3 z5 z6 z7))))
    go_upto_region 6 with (fail)
    ((have HIx := Aside0.mk (HI.out.put (s2 := ⟨l1, sd, sc, sh, (sn + 1)⟩) hq 7 (sn + 1) rfl); clear z0 z1 z2 z3 z4 z5 z6 z7 zf2 zf3 zf5 zf6 zf7 HI; generalize World.setCell w3 _ _ = w3 at HIx ⊢; have HI := HIx; clear HIx; ((obtain ⟨z0, z1, z2, z3, z4, z5, z6, z7, zf2, zf3, zf5, zf6, zf7⟩ := HI.out.1.all; simp only at z2 z3 z5 z6 z7))))
    have hra3 := HRA.out w3 HI.out.2.2
    by_cases c2 : sn + 1 < ex
    · have c2b : decide (sn + 1 < ex) = true := decide_eq_true c2
      rw [if_pos c2] at hres
      rw [c2b] at hfin
      have HRS := Lib.hid hres
      have HFN := Lib.hid hfin
      clear hres hfin c2
      go_wp2_with fail
      go_quiet (fail)
      go_wp2
      go_ret
      rw [HRS.out, HFN.out]
      exact ⟨rfl, HI.out.drewN _⟩
    · have c2b : decide (sn + 1 < ex) = false := decide_eq_false c2
      rw [if_neg c2] at hres
      rw [c2b] at hfin
      have HRS := Lib.hid hres
      have HFN := Lib.hid hfin
      clear hres hfin c2
      go_wp2_with fail
      go_quiet (fail)
      ((have HIx := Aside0.mk (HI.out.drewN nq); clear z0 z1 z2 z3 z4 z5 z6 z7 zf2 zf3 zf5 zf6 zf7 HI; generalize World.drewN w3 nq = w1 at HIx ⊢; have HI := HIx; clear HIx; ((obtain ⟨z0, z1, z2, z3, z4, z5, z6, z7, zf2, zf3, zf5, zf6, zf7⟩ := HI.out.1.all; simp only at z2 z3 z5 z6 z7))))
      go_wp2
      go_ret
      rw [HRS.out, HFN.out]
      exact ⟨rfl, (HI.out.put (s2 := ⟨l1, sd, sc, sh + 1, sn + 1⟩) hq 6 (sh + 1) rfl).put hq 7 0 rfl⟩


/-- What a run with servers has made: the servers, the server chosen in each tick, when the requests were served. -/
structure SvSt where
  sv : List Sv
  ch : List Int
  sd : List (List Int)
def zSv : Sv := ⟨0, 0, 0, 0, 0⟩
def svA (rs : List (List (S164))) (i : Nat) : List (S164) := rs.getD i []
def svX (ss : List (S109)) (i : Nat) : S109 := ss.getD i z109
def svP (qs : List Nat) (i : Nat) : Value := .pointer (some ⟨qs.getD i 0, 0, none⟩)
/-- The servers once the first are admitted. -/
def admL (ss : List (S109)) (rs : List (List (S164))) (t : Int) (sv : List Sv) : Nat → List Sv
  | 0 => sv
  | i + 1 => (admL ss rs t sv i).set i (adm (svX ss i).f0 (svX ss i).f1 t (svA rs i) (sv.getD i zSv))
theorem getD_setS (l : List Sv) (i j : Nat) (x : Sv) : (l.set i x).getD j zSv = if i = j ∧ j < l.length then x else l.getD j zSv := by
  rw [List.getD_eq_getElem?_getD, List.getD_eq_getElem?_getD, List.getElem?_set]
  split
  · rename_i e
    split
    · rename_i h; rw [if_pos ⟨e, by omega⟩]; rfl
    · rename_i h; rw [if_neg (by omega), List.getElem?_eq_none (by omega)]
  · rename_i e; rw [if_neg (by omega)]
theorem admL_len (ss : List (S109)) (rs : List (List (S164))) (t : Int) (sv : List Sv) : ∀ i, (admL ss rs t sv i).length = sv.length
  | 0 => rfl
  | i + 1 => by unfold admL; rw [List.length_set, admL_len ss rs t sv i]
theorem admL_at (ss : List (S109)) (rs : List (List (S164))) (t : Int) (sv : List Sv) : ∀ i j, j < sv.length → (admL ss rs t sv i).getD j zSv = if j < i then adm (svX ss j).f0 (svX ss j).f1 t (svA rs j) (sv.getD j zSv) else sv.getD j zSv
  | 0, j, _ => by rw [if_neg (by omega)]; rfl
  | i + 1, j, h => by
    unfold admL
    rw [getD_setS, admL_len]
    by_cases e : i = j
    · subst e; rw [if_pos ⟨rfl, h⟩, if_pos (by omega)]
    · rw [if_neg (by omega), admL_at ss rs t sv i j h]
      by_cases e2 : j < i
      · rw [if_pos e2, if_pos (by omega)]
      · rw [if_neg e2, if_neg (by omega)]
section
variable {w00 w W W2 : World} {base gb wb gw go gr : Nat} {A : Option Addr} {c : Nat} {jobs : List (S67)} {qs : List Nat} {ss : List (S109)} {rs : List (List (S164))} {RV : List Value} {cv : Value} {us : List Value} {x : SvSt}
/-- What does not change while the servers run. -/
structure SrvD (w00 : World) (base : Nat) (qs : List Nat) (ss : List (S109)) (rs : List (List (S164))) (RV : List Value) (cv : Value) (us : List Value) : Prop where
  bs : w00.heap.size ≤ base
  lq : qs.length = ss.length
  lr : rs.length = ss.length
  l2 : ss.length ≤ 2
  qb : ∀ i, i < ss.length → base ≤ qs.getD i 0
  qn : ∀ i j, i < ss.length → j < ss.length → i ≠ j → qs.getD i 0 ≠ qs.getD j 0
  rv : ∀ i, i < ss.length → ∃ (B : Option Addr) (d : Nat), RV.getD i nilV = .slice B (svA rs i).length d ∧ Kd.C k164 w00 B (svA rs i).length (svA rs i)
  ap : ∀ i k, i < us.length → (us.getD i nilV).ownBlock = some k → cv.ownBlock ≠ some k
/-- What the servers hold in memory. -/
structure SrvI (W : World) (base gb wb gw go gr : Nat) (A : Option Addr) (c : Nat) (jobs : List (S67)) (qs : List Nat) (ss : List (S109)) (rs : List (List (S164))) (RV : List Value) (cv : Value) (us : List Value) (x : SvSt) : Prop where
  bj : W.heap[gb]? = some (.cells #[.slice A jobs.length c] 39 (0, 0))
  bw : W.heap[wb]? = some (.cells #[.slice (some ⟨gw, 0, none⟩) ss.length ss.length] 115 (0, 0))
  bp : ∃ cs : Array Value, W.heap[gw]? = some (.cells cs 116 (0, 0)) ∧ ∀ i, i < ss.length → cs[i]? = some (svP qs i)
  bo : W.heap[go]? = some (.cells #[.slice none 0 0, .slice none 0 0, cv, .slice (some ⟨gr, 0, none⟩) ss.length ss.length] 35 (0, 0))
  rows : Gr W base gr us x.sd
  chr : Kd.R (Kd.int .i64) 3 W base (fun _ => True) cv x.ch
  sv : ∀ i, i < ss.length → SvM W (qs.getD i 0) (svX ss i).f0 (svX ss i).f1 (RV.getD i nilV) (x.sv.getD i zSv)
  svb : ∀ i, i < ss.length → SvB (svX ss i).f0 (svX ss i).f1 (svA rs i) (x.sv.getD i zSv)
  ls : x.sv.length = ss.length
  lc : x.ch.length = 120
  ld : x.sd.length = ss.length
  le : ∀ i, i < ss.length → (x.sd.getD i []).length = (svA rs i).length
/-- A world where all these blocks are as they were. -/
theorem SrvI.same (h : SrvI W base gb wb gw go gr A c jobs qs ss rs RV cv us x) (hk : ∀ k, k < W.heap.size → W2.heap[k]? = W.heap[k]?) : SrvI W2 base gb wb gw go gr A c jobs qs ss rs RV cv us x where
  bj := (hk _ (blk_lt h.bj)).trans h.bj
  bw := (hk _ (blk_lt h.bw)).trans h.bw
  bp := by
    obtain ⟨cs, h1, h2⟩ := h.bp
    exact ⟨cs, (hk _ (blk_lt h1)).trans h1, h2⟩
  bo := (hk _ (blk_lt h.bo)).trans h.bo
  rows := h.rows.step (hk _ (blk_lt h.rows.blk)) (fun _ k _ _ hlt => hk k hlt)
  chr := row_stepG h.chr (fun k _ hlt => hk k hlt)
  sv := fun i hi => (hk _ (blk_lt (h.sv i hi))).trans (h.sv i hi)
  svb := h.svb
  ls := h.ls
  lc := h.lc
  ld := h.ld
  le := h.le
theorem SrvI.below (h : SrvI W base gb wb gw go gr A c jobs qs ss rs RV cv us x) (hb : Below W.heap.size W W2) : SrvI W2 base gb wb gw go gr A c jobs qs ss rs RV cv us x := h.same hb.block
theorem SrvI.drewN (h : SrvI W base gb wb gw go gr A c jobs qs ss rs RV cv us x) (n : Nat) : SrvI (W.drewN n) base gb wb gw go gr A c jobs qs ss rs RV cv us x := h.below (pw_below_drewN (Below.refl _ _) n)
theorem SrvI.drew (h : SrvI W base gb wb gw go gr A c jobs qs ss rs RV cv us x) : SrvI W.drew base gb wb gw go gr A c jobs qs ss rs RV cv us x := h.below (below_drew (Below.refl _ _))
/-- One server has moved. -/
theorem SrvI.step (h : SrvI W base gb wb gw go gr A c jobs qs ss rs RV cv us x) (hD : SrvD w00 base qs ss rs RV cv us) {i : Nat} (hi : i < ss.length) {s : Sv} (hk : Kept W W2 (fun k => k = qs.getD i 0)) (hs : SvM W2 (qs.getD i 0) (svX ss i).f0 (svX ss i).f1 (RV.getD i nilV) s) (hb : SvB (svX ss i).f0 (svX ss i).f1 (svA rs i) s) :
    SrvI W2 base gb wb gw go gr A c jobs qs ss rs RV cv us ⟨x.sv.set i s, x.ch, x.sd⟩ := by
  have hq := h.sv i hi
  have far : ∀ (a : Nat) (cs : Array Value) (t : TypeId), W.heap[a]? = some (.cells cs t (0, 0)) → t ≠ 118 → W2.heap[a]? = some (.cells cs t (0, 0)) := fun a cs t ha ht =>
    (hk.2 a (blk_lt ha) (ne_of_type ha hq ht)).trans ha
  refine ⟨far _ _ _ h.bj (by decide), far _ _ _ h.bw (by decide), ?_, far _ _ _ h.bo (by decide), ?_, ?_, ?_, ?_, by rw [List.length_set]; exact h.ls, h.lc, h.ld, h.le⟩
  · obtain ⟨cs, h1, h2⟩ := h.bp
    exact ⟨cs, far _ _ _ h1 (by decide), h2⟩
  · exact h.rows.step (hk.2 _ (blk_lt h.rows.blk) (ne_of_type h.rows.blk hq (by decide))) (fun j k hj e hlt => hk.2 k hlt (fun e2 => Kd.RR_ne (h.rows.row j (by rw [← h.rows.len]; exact hj)) hq (by decide) (by rw [e, e2])))
  · exact row_stepG h.chr (fun k e hlt => hk.2 k hlt (fun e2 => Kd.R_ne h.chr hq (by decide) (by rw [e, e2])))
  · intro j hj
    show SvM W2 _ _ _ _ ((x.sv.set i s).getD j zSv)
    rw [getD_setS]
    by_cases e : i = j
    · subst e; rw [if_pos ⟨rfl, by rw [h.ls]; exact hi⟩]; exact hs
    · rw [if_neg (by omega)]
      exact (hk.2 _ (blk_lt (h.sv j hj)) (fun e2 => hD.qn i j hi hj e e2.symm)).trans (h.sv j hj)
  · intro j hj
    show SvB _ _ _ ((x.sv.set i s).getD j zSv)
    rw [getD_setS]
    by_cases e : i = j
    · subst e; rw [if_pos ⟨rfl, by rw [h.ls]; exact hi⟩]; exact hb
    · rw [if_neg (by omega)]; exact h.svb j hj
/-- The chosen server is noted. -/
theorem SrvI.putCh {gc cc : Nat} (h : SrvI W base gb wb gw go gr A c jobs qs ss rs RV (.slice (some ⟨gc, 0, none⟩) 120 cc) us x) (hD : SrvD w00 base qs ss rs RV (.slice (some ⟨gc, 0, none⟩) 120 cc) us) (t : Int) (k : Int) :
    SrvI (W.setCell ⟨gc, t.toNat, none⟩ (.int .i64 k)) base gb wb gw go gr A c jobs qs ss rs RV (.slice (some ⟨gc, 0, none⟩) 120 cc) us ⟨x.sv, x.ch.set t.toNat k, x.sd⟩ := by
  obtain ⟨p1, p2⟩ := Kd.R_putg h.chr t k
  have far : ∀ (a : Nat) (cs : Array Value) (ty : TypeId), W.heap[a]? = some (.cells cs ty (0, 0)) → 3 ≠ ty → (W.setCell ⟨gc, t.toNat, none⟩ (.int .i64 k)).heap[a]? = some (.cells cs ty (0, 0)) := fun a cs ty ha ht =>
    blk_far ha (fun e => Kd.R_ne h.chr ha ht (by rw [e]; rfl)) _
  refine ⟨far _ _ _ h.bj (by decide), far _ _ _ h.bw (by decide), ?_, far _ _ _ h.bo (by decide), ?_, p1, ?_, h.svb, h.ls, by show (x.ch.set _ _).length = 120; rw [List.length_set]; exact h.lc, h.ld, h.le⟩
  · obtain ⟨cs, h1, h2⟩ := h.bp
    exact ⟨cs, far _ _ _ h1 (by decide), h2⟩
  · exact h.rows.step ((far _ _ _ h.rows.blk (by decide)).trans h.rows.blk.symm) (fun j k2 hj e _ => Below.heap_setCell _ _ _ k2 (fun e2 => hD.ap j k2 hj e (by rw [e2]; rfl)))
  · exact fun i hi => far _ _ _ (h.sv i hi) (by decide)
/-- A request is served. -/
theorem SrvI.putSd {i g n d : Nat} (h : SrvI W base gb wb gw go gr A c jobs qs ss rs RV cv us x) (hD : SrvD w00 base qs ss rs RV cv us) (hi : i < ss.length) (hu : us.getD i nilV = .slice (some ⟨g, 0, none⟩) n d) (t : Int) (k : Int) :
    SrvI (W.setCell ⟨g, t.toNat, none⟩ (.int .i64 k)) base gb wb gw go gr A c jobs qs ss rs RV cv us ⟨x.sv, x.ch, x.sd.set i ((x.sd.getD i []).set t.toNat k)⟩ := by
  have hrow := h.rows.row i (by rw [h.ld]; exact hi)
  have hob : (us.getD i nilV).ownBlock = some g := by rw [hu]; rfl
  have hil : i < us.length := by rw [h.rows.len, h.ld]; exact hi
  have hne : ∀ (a : Nat) (cs : Array Value) (ty : TypeId), W.heap[a]? = some (.cells cs ty (0, 0)) → 3 ≠ ty → a ≠ g := fun a cs ty ha ht e => Kd.RR_ne hrow ha ht (by rw [hob, e])
  have far : ∀ (a : Nat) (cs : Array Value) (ty : TypeId), W.heap[a]? = some (.cells cs ty (0, 0)) → 3 ≠ ty → (W.setCell ⟨g, t.toNat, none⟩ (.int .i64 k)).heap[a]? = some (.cells cs ty (0, 0)) := fun a cs ty ha ht => blk_far ha (hne a cs ty ha ht) _
  have hk : Kept W (W.setCell ⟨g, t.toNat, none⟩ (.int .i64 k)) (fun q => q = g) := (Kept.refl W (fun q => q = g)).setCell (p := ⟨g, t.toNat, none⟩) (.inl rfl) _
  have hgr := h.rows.mark (i := i) (g := g) (xs := (x.sd.getD i []).set t.toNat k) (by rw [h.ld]; exact hi) hob hk (by
    obtain ⟨B, m, c1, c2, e, hcc, hc, hR⟩ := hrow
    rw [hu] at e
    injection e with e1 e2 e3
    subst e1
    rw [hu]
    obtain ⟨p1, _⟩ := Kd.R_putg hR t k
    exact ⟨_, m, d, c2, by rw [e2], by omega, by omega, p1⟩)
  refine ⟨far _ _ _ h.bj (by decide), far _ _ _ h.bw (by decide), ?_, far _ _ _ h.bo (by decide), hgr, ?_, ?_, h.svb, h.ls, h.lc, by show (x.sd.set _ _).length = _; rw [List.length_set]; exact h.ld, ?_⟩
  · obtain ⟨cs, h1, h2⟩ := h.bp
    exact ⟨cs, far _ _ _ h1 (by decide), h2⟩
  · exact row_stepG h.chr (fun q e _ => Below.heap_setCell _ _ _ q (fun e2 => hD.ap i g hil hob (by rw [e, e2])))
  · exact fun j hj => far _ _ _ (h.sv j hj) (by decide)
  · intro j hj
    show ((x.sd.set i _).getD j []).length = _
    rw [getD_setR]
    by_cases e : i = j
    · subst e; rw [if_pos ⟨rfl, by rw [h.ld]; exact hi⟩, List.length_set]; exact h.le i hi
    · rw [if_neg (by omega)]; exact h.le j hj
end

end Go.Proofs.Ytonifhkplniblaa.Print

namespace Go.Proofs.Ytonifhkplniblaa.Print
open Go.RowKit Go.Proofs.YtonifhkplniblaaW.PrintWords Go.Proofs.YtonifhkplniblaaW.PrintLast Go.Proofs.YtonifhkplniblaaW.PrintMore
attribute [local go_sem] max2_int min2_int max_two min_two max_three min_three max_four min_four
set_option linter.unusedVariables false
set_option linter.unusedSimpArgs false
open Go.Proofs.Ytonifhkplniblaa.Walk
/-- The first of the waiting servers with the earliest deadline, among the first. -/
def chN (v : List Sv) : Nat → Int := bestN (fun i => pendS (v.getD i zSv)) (fun i => (v.getD i zSv).dl)
def edfJ (jobs : List (S67)) (done : List Int) (t : Nat) : Int := bestN (rdyB jobs done t) (fun i => (jobs.getD i z67).f2) jobs.length
/-- A tick with servers, once they are admitted. -/
def srvK (ss : List (S109)) (rs : List (List (S164))) (jobs : List (S67)) (v : List Sv) (ch : List Int) (sd : List (List Int)) (j k : Int) (t : Nat) : Int × SvSt :=
  if k < 0 then (j, ⟨v, ch, sd⟩)
  else if 0 ≤ j ∧ (jobs.getD j.toNat z67).f2 ≤ (v.getD k.toNat zSv).dl then (j, ⟨v, ch, sd⟩)
  else (-1, ⟨v.set k.toNat (srvS (svX ss k.toNat).f0 (svX ss k.toNat).f1 (svA rs k.toNat) (v.getD k.toNat zSv)), ch.set t k, if srvF (svA rs k.toNat) (v.getD k.toNat zSv) = true then sd.set k.toNat ((sd.getD k.toNat []).set (v.getD k.toNat zSv).hd.toNat ((t : Int) + 1)) else sd⟩)
def srvPick (ss : List (S109)) (rs : List (List (S164))) (jobs : List (S67)) (x : SvSt) (done : List Int) (t : Nat) : Int × SvSt :=
  srvK ss rs jobs (admL ss rs t x.sv ss.length) x.ch x.sd (edfJ jobs done t) (chN (admL ss rs t x.sv ss.length) ss.length) t
theorem edfJ_ok (jobs : List (S67)) (done : List Int) (t : Nat) (hl : done.length = jobs.length) : -1 ≤ edfJ jobs done t ∧ edfJ jobs done t < jobs.length ∧ (0 ≤ edfJ jobs done t → done.getD (edfJ jobs done t).toNat 0 < (jobs.getD (edfJ jobs done t).toNat z67).f3) := by
  have h1 := best_ok jobs (fun _ _ _ => true) (fun _ _ i => (jobs.getD i z67).f2) () done t hl
  simp only [Bool.and_true] at h1
  exact h1
theorem srvPick_ok (ss : List (S109)) (rs : List (List (S164))) (jobs : List (S67)) : PickOk jobs (srvPick ss rs jobs) := by
  intro s done t hl
  have h1 := edfJ_ok jobs done t hl
  unfold srvPick srvK
  split
  · exact h1
  · split
    · exact h1
    · exact ⟨by show (-1 : Int) ≤ -1; omega, by show (-1 : Int) < _; omega, fun h => by have h : (0 : Int) ≤ -1 := h; omega⟩
/-- The blocks that the servers write. -/
def SrvS (qs : List Nat) (n : Nat) (cv : Value) (us : List Value) (k : Nat) : Prop := (∃ i, i < n ∧ k = qs.getD i 0) ∨ cv.ownBlock = some k ∨ ∃ i, i < us.length ∧ (us.getD i nilV).ownBlock = some k
theorem below_two {B : Nat} {w00 W W2 : World} (h1 : Below B w00 W) (h2 : Below B w00 W2) (hs : W.heap.size ≤ W2.heap.size) : Below B W W2 :=
  ⟨h2.os.trans h1.os.symm, h2.tape.trans h1.tape.symm, h2.output.trans h1.output.symm, hs, fun k hk => (h2.block k hk).trans (h1.block k hk).symm⟩
theorem svP_eq (qs : List Nat) (i : Nat) : svP qs i = .pointer (some ⟨qs.getD i 0, 0, none⟩) := rfl
/-- What is kept while a tick is chosen. -/
def TickI (w00 w W : World) (base gb wb gw go gr g : Nat) (A : Option Addr) (c : Nat) (jobs : List (S67)) (qs : List Nat) (ss : List (S109)) (rs : List (List (S164))) (RV : List Value) (cv : Value) (us : List Value) (x : SvSt) (v0 v1 : Value) (t : Nat) : Prop :=
  SrvI W base gb wb gw go gr A c jobs qs ss rs RV cv us x ∧ W.heap[g]? = some (.cells #[v0, v1, .int .i64 (t : Int)] 124 (0, 0)) ∧ Kept w W (SrvS qs ss.length cv us) ∧ Below w00.heap.size w00 W
section
variable {w00 w W W2 : World} {base gb wb gw go gr g : Nat} {A : Option Addr} {c : Nat} {jobs : List (S67)} {qs : List Nat} {ss : List (S109)} {rs : List (List (S164))} {RV : List Value} {cv : Value} {us : List Value} {x : SvSt} {v0 v1 : Value} {t : Nat}
theorem TickI.drewN (h : TickI w00 w W base gb wb gw go gr g A c jobs qs ss rs RV cv us x v0 v1 t) (n : Nat) : TickI w00 w (W.drewN n) base gb wb gw go gr g A c jobs qs ss rs RV cv us x v0 v1 t :=
  ⟨h.1.drewN n, blk_drewN h.2.1 n, h.2.2.1.drewN n, pw_below_drewN h.2.2.2 n⟩
theorem TickI.step (h : TickI w00 w W base gb wb gw go gr g A c jobs qs ss rs RV cv us x v0 v1 t) (hD : SrvD w00 base qs ss rs RV cv us) {i : Nat} (hi : i < ss.length) {s : Sv} (hk : Kept W W2 (fun k => k = qs.getD i 0)) (hs : SvM W2 (qs.getD i 0) (svX ss i).f0 (svX ss i).f1 (RV.getD i nilV) s) (hb : SvB (svX ss i).f0 (svX ss i).f1 (svA rs i) s) (hB : Below w00.heap.size w00 W2) :
    TickI w00 w W2 base gb wb gw go gr g A c jobs qs ss rs RV cv us ⟨x.sv.set i s, x.ch, x.sd⟩ v0 v1 t :=
  ⟨h.1.step hD hi hk hs hb, (hk.2 g (blk_lt h.2.1) (ne_of_type h.2.1 (h.1.sv i hi) (by decide))).trans h.2.1, h.2.2.1.then_ hk (fun k e => .inl (.inl ⟨i, hi, e⟩)), hB⟩
theorem TickI.drew (h : TickI w00 w W base gb wb gw go gr g A c jobs qs ss rs RV cv us x v0 v1 t) : TickI w00 w W.drew base gb wb gw go gr g A c jobs qs ss rs RV cv us x v0 v1 t :=
  ⟨h.1.drew, blk_drew h.2.1, h.2.2.1.drew, below_drew h.2.2.2⟩
theorem TickI.putCh {gc cc : Nat} (h : TickI w00 w W base gb wb gw go gr g A c jobs qs ss rs RV (.slice (some ⟨gc, 0, none⟩) 120 cc) us x v0 v1 t) (hD : SrvD w00 base qs ss rs RV (.slice (some ⟨gc, 0, none⟩) 120 cc) us) (i k : Int) :
    TickI w00 w (W.setCell ⟨gc, i.toNat, none⟩ (.int .i64 k)) base gb wb gw go gr g A c jobs qs ss rs RV (.slice (some ⟨gc, 0, none⟩) 120 cc) us ⟨x.sv, x.ch.set i.toNat k, x.sd⟩ v0 v1 t :=
  ⟨h.1.putCh hD i k, blk_far h.2.1 (fun e => Kd.R_ne h.1.chr h.2.1 (by decide) (by rw [e]; rfl)) _, h.2.2.1.setCell (p := ⟨gc, i.toNat, none⟩) (.inl (.inr (.inl rfl))) _, h.2.2.2.setCell (by have := hD.bs; have := Kd.R_base h.1.chr gc rfl; show w00.heap.size ≤ gc; omega) _⟩
theorem TickI.putSd {i q n d : Nat} (h : TickI w00 w W base gb wb gw go gr g A c jobs qs ss rs RV cv us x v0 v1 t) (hD : SrvD w00 base qs ss rs RV cv us) (hi : i < ss.length) (hu : us.getD i nilV = .slice (some ⟨q, 0, none⟩) n d) (j k : Int) :
    TickI w00 w (W.setCell ⟨q, j.toNat, none⟩ (.int .i64 k)) base gb wb gw go gr g A c jobs qs ss rs RV cv us ⟨x.sv, x.ch, x.sd.set i ((x.sd.getD i []).set j.toNat k)⟩ v0 v1 t := by
  have hrow := h.1.rows.row i (by rw [h.1.ld]; exact hi)
  have hob : (us.getD i nilV).ownBlock = some q := by rw [hu]; rfl
  exact ⟨h.1.putSd hD hi hu j k, blk_far h.2.1 (fun e => Kd.RR_ne hrow h.2.1 (by decide) (by rw [hob, e])) _, h.2.2.1.setCell (.inl (.inr (.inr ⟨i, by rw [h.1.rows.len, h.1.ld]; exact hi, hob⟩))) _, h.2.2.2.setCell (by have := hD.bs; have := Kd.RR_base hrow q hob; show w00.heap.size ≤ q; omega) _⟩
/-- A served row, as a slice with a block of its own. -/
theorem SrvI.rowAt {i : Nat} (h : SrvI W base gb wb gw go gr A c jobs qs ss rs RV cv us x) (hi : i < ss.length) (hp : 0 < (svA rs i).length) : ∃ q d : Nat, us.getD i nilV = .slice (some ⟨q, 0, none⟩) (svA rs i).length d ∧ W.cell? ⟨gr, i, none⟩ = some (.slice (some ⟨q, 0, none⟩) (svA rs i).length d) ∧ (∀ a cs ty, W.heap[a]? = some (.cells cs ty (0, 0)) → 3 ≠ ty → q ≠ a) ∧ ∀ j : Int, 0 ≤ j → j < (svA rs i).length → W.frozen? ⟨q, j.toNat, none⟩ = false ∧ ∃ y : Int, W.cell? ⟨q, j.toNat, none⟩ = some (.int .i64 y) := by
  have hrow := h.rows.row i (by rw [h.ld]; exact hi)
  have hlen := h.le i hi
  have hcell : W.cell? ⟨gr, i, none⟩ = some (us.getD i nilV) := by
    rw [blk_cell h.rows.blk i, List.getElem?_toArray, List.getD_eq_getElem?_getD, List.getElem?_eq_getElem (by rw [h.rows.len, h.ld]; exact hi)]
    rfl
  have hne := fun (a : Nat) (cs : Array Value) (ty : TypeId) (ha : W.heap[a]? = some (.cells cs ty (0, 0))) (ht : 3 ≠ ty) => Kd.RR_ne hrow ha ht
  obtain ⟨B, m, c1, c2, e, hcc, hc, hR⟩ := hrow
  obtain ⟨q, cap, e2, _⟩ := Kd.R_form hR (by omega)
  injection e2 with e3 e4 e5
  rw [hlen] at e4
  subst e3 e4
  rw [e] at hcell hne ⊢
  refine ⟨q, c1, rfl, hcell, fun a cs ty ha ht e => hne a cs ty ha ht (by rw [← e]; rfl), fun j h0 h1 => ?_⟩
  obtain ⟨y0, y1⟩ := Kd.R_celln 0 hR j h0 (by omega)
  exact ⟨y1, _, y0⟩
/-- What a tick reads. -/
theorem TickI.reads (h : TickI w00 w W base gb wb gw go gr g A c jobs qs ss rs RV cv us x v0 v1 t) : W.cell? ⟨wb, 0, none⟩ = some (.slice (some ⟨gw, 0, none⟩) ss.length ss.length) ∧ W.cell? ⟨gb, 0, none⟩ = some (.slice A jobs.length c) ∧ W.cell? ⟨g, 2, none⟩ = some (.int .i64 (t : Int)) ∧ W.cell? ⟨go, 2, none⟩ = some cv ∧ W.cell? ⟨go, 3, none⟩ = some (.slice (some ⟨gr, 0, none⟩) ss.length ss.length) ∧ ∀ i, i < ss.length → W.cell? ⟨gw, i, none⟩ = some (.pointer (some ⟨qs.getD i 0, 0, none⟩)) :=
  ⟨(blk_cell h.1.bw 0).trans rfl, (blk_cell h.1.bj 0).trans rfl, (blk_cell h.2.1 2).trans rfl, (blk_cell h.1.bo 2).trans rfl, (blk_cell h.1.bo 3).trans rfl, fun i hi => by
    obtain ⟨cs, h1, h2⟩ := h.1.bp
    exact (blk_cell h1 i).trans (h2 i hi)⟩
end
set_option maxHeartbeats 4000000 in
set_option maxRecDepth 100000 in
theorem srvPick_calls (w00 : World) (base gb wb gw go gr g : Nat) (A : Option Addr) (c : Nat) (jobs : List (S67)) (qs : List Nat) (ss : List (S109)) (rs : List (List (S164))) (RV : List Value) (cv : Value) (us : List Value) (x : SvSt) (D : Option Addr) (cd : Nat) (done : List Int) (t : Nat) (w : World)
    (hD : SrvD w00 base qs ss rs RV cv us) (hM : MachR w g A c jobs D cd done t) (hI : SrvI w base gb wb gw go gr A c jobs qs ss rs RV cv us x) (hw : Below w00.heap.size w00 w) (ht : t < 120) (hj : Kd.C k67 w00 A jobs.length jobs) :
    Calls Try.prog 81 #[.pointer (some ⟨g, 0, none⟩), .pointer (some ⟨wb, 0, none⟩), .pointer (some ⟨gb, 0, none⟩), .pointer (some ⟨go, 0, none⟩)] w fun e w' => e = .returned (.int .i64 (srvPick ss rs jobs x done t).1) ∧ SrvI w' base gb wb gw go gr A c jobs qs ss rs RV cv us (srvPick ss rs jobs x done t).2 ∧ Kept w w' (SrvS qs ss.length cv us) ∧ Below w00.heap.size w w' := by
  have hu := Try.underlying118
  have huM := Try.underlying124
  have huJ := Try.underlying67
  have huO := Try.underlying35
  have HEDF := Lib.hid (edf_calls g A c jobs D cd done t w hM)
  obtain ⟨gc, cc, ec, _⟩ := Kd.R_form hI.chr (by rw [hI.lc]; omega)
  rw [hI.lc] at ec
  subst ec
  have hjo := edfJ_ok jobs done t hM.2.2.2
  have hdef : srvPick ss rs jobs x done t = srvK ss rs jobs (admL ss rs t x.sv ss.length) x.ch x.sd (edfJ jobs done t) (chN (admL ss rs t x.sv ss.length) ss.length) t := rfl
  have hedf : bestN (rdyB jobs done t) (fun i => (jobs.getD i z67).f2) jobs.length = edfJ jobs done t := rfl
  rw [hedf] at HEDF
  have HI0 : Aside0 (TickI w00 w w base gb wb gw go gr g A c jobs qs ss rs RV (.slice (some ⟨gc, 0, none⟩) 120 cc) us ⟨admL ss rs t x.sv 0, x.ch, x.sd⟩ (.slice A jobs.length c) (.slice D done.length cd) t) := ⟨hI, hM.1, Kept.refl _ _, hw⟩
  have hls := hI.ls
  have HLS := Lib.hid hls
  have HJ := Lib.hid hj
  have HW := Lib.hid hw
  have HD := Lib.hid hD
  have h2 := hD.l2
  generalize srvPick ss rs jobs x done t = R at hdef ⊢
  obtain ⟨j, hj0⟩ : ∃ j, j = edfJ jobs done t := ⟨_, rfl⟩
  rw [← hj0] at HEDF hdef hjo
  have HDEF := Lib.hid hdef
  have HJO := Lib.hid hjo
  generalize Value.slice D done.length cd = vd at HI0
  clear hM hI hw hj hj0 hedf hdef hls hjo hD
  go_enter Try.func81, Try.ntmps81
  go_upto_region 2 with (go_at_call 82; refine HEDF.out.mono ?_; rintro e w2 ⟨rfl, md, rfl⟩)
  have HI := Aside0.mk (HI0.out.drewN md)
  clear HI0 HEDF
  generalize World.drewN w md = w1 at HI ⊢
  ((obtain ⟨y0, y1, y2, y3, y4, y5⟩ := HI.out.reads))
  go_wp2_with fail
  clear y0 y1 y2 y3 y4 y5
  go_loopw [7, 15] (fun v7 v15 w' => ∃ i : Nat, v15 = .int .i64 (i : Int) ∧ i ≤ ss.length ∧ v7 = .int .i64 (chN (admL ss rs t x.sv ss.length) i) ∧ Aside0 (TickI w00 w w' base gb wb gw go gr g A c jobs qs ss rs RV (.slice (some ⟨gc, 0, none⟩) 120 cc) us ⟨admL ss rs t x.sv i, x.ch, x.sd⟩ (.slice A jobs.length c) vd t)) (fun _ v15 _ => ss.length - (intOf v15).toNat)
  case atStart => exact ⟨0, rfl, Nat.zero_le _, rfl, HI⟩
  case round =>
    clear HI
    obtain ⟨i, rfl, hi, rfl, HI⟩ := hrel
    by_cases hlt : i < ss.length
    · have b1 : decide ((i : Int) < (ss.length : Int)) = true := decide_eq_true (by omega)
      ((obtain ⟨y0, y1, y2, y3, y4, y5⟩ := HI.out.reads))
      have y5i := y5 i hlt
      clear y5
      obtain ⟨B, d, hrv, hrc⟩ := HD.out.rv i hlt
      have hsm := HI.out.1.sv i hlt
      have hsb := HI.out.1.svb i hlt
      have hat := admL_at ss rs t x.sv i i (by rw [HLS.out]; exact hlt)
      rw [if_neg (by omega)] at hat
      simp only at hsm hsb
      rw [hat] at hsm hsb
      rw [hrv] at hsm
      have hqb := HD.out.qb i hlt
      have hbs := HD.out.bs
      have hadm := admit_calls w00 (qs.getD i 0) (by omega) (svX ss i).f0 (svX ss i).f1 t B d (svA rs i) (x.sv.getD i zSv) wr hsm hsb hrc HI.out.2.2.2 (by omega) (by omega)
      have hsb2 := hsb.adm (now := t) (by omega) (by omega)
      obtain ⟨s2, hs2⟩ : ∃ s2, s2 = adm (svX ss i).f0 (svX ss i).f1 t (svA rs i) (x.sv.getD i zSv) := ⟨_, rfl⟩
      rw [← hs2] at hadm hsb2
      have hvi : (admL ss rs t x.sv ss.length).getD i zSv = s2 := by rw [admL_at ss rs t x.sv ss.length i (by rw [HLS.out]; exact hlt), if_pos hlt, hs2]
      have hnx : admL ss rs t x.sv (i + 1) = (admL ss rs t x.sv i).set i s2 := by rw [hs2]; rfl
      have hst : chN (admL ss rs t x.sv ss.length) (i + 1) = if pendS ((admL ss rs t x.sv ss.length).getD i zSv) && (decide (chN (admL ss rs t x.sv ss.length) i < 0) || decide (((admL ss rs t x.sv ss.length).getD i zSv).dl < ((admL ss rs t x.sv ss.length).getD (chN (admL ss rs t x.sv ss.length) i).toNat zSv).dl)) then (i : Int) else chN (admL ss rs t x.sv ss.length) i := rfl
      have hkr := bestN_in (fun i => pendS ((admL ss rs t x.sv ss.length).getD i zSv)) (fun i => ((admL ss rs t x.sv ss.length).getD i zSv).dl) i
      have hkr : -1 ≤ chN (admL ss rs t x.sv ss.length) i ∧ chN (admL ss rs t x.sv ss.length) i < i := hkr
      rw [hvi] at hst
      obtain ⟨qi, hqi⟩ : ∃ qi, qi = qs.getD i 0 := ⟨_, rfl⟩
      rw [← hqi] at hadm y5i
      have HQI := Lib.hid hqi
      have HADM := Lib.hid hadm
      have HSB := Lib.hid hsb2
      have HRV := Lib.hid hrv
      have HNX := Lib.hid hnx
      have HHI := Lib.hid hi
      obtain ⟨k, hk0⟩ : ∃ k, k = chN (admL ss rs t x.sv ss.length) i := ⟨_, rfl⟩
      rw [← hk0] at hst hkr ⊢
      have p0 : 0 ≤ (i : Int) := by omega
      have p1 : (i : Int) < (ss.length : Int) := by omega
      -- the key of the server chosen so far
      have hkey : 0 ≤ k → (admL ss rs t x.sv (i + 1)).getD k.toNat zSv = (admL ss rs t x.sv ss.length).getD k.toNat zSv := fun h0 => by
        rw [admL_at ss rs t x.sv (i + 1) k.toNat (by rw [HLS.out]; omega), admL_at ss rs t x.sv ss.length k.toNat (by rw [HLS.out]; omega), if_pos (by omega), if_pos (by omega)]
      have HKEY := Lib.hid hkey
      have hchk : chN (admL ss rs t x.sv ss.length) i = k := hk0.symm
      have HCHK := Lib.hid hchk
      obtain ⟨dk, hdk⟩ : ∃ dk, dk = ((admL ss rs t x.sv ss.length).getD k.toNat zSv).dl := ⟨_, rfl⟩
      rw [← hdk] at hst
      have HDK := Lib.hid hdk
      have HST := Lib.hid hst
      have HKR := Lib.hid hkr
      clear hqi hadm hsb2 hrv hnx hsm hsb hat hs2 hvi hrc hqb hbs hi hk0 hkey hchk hdk hst hkr
      go_upto_region 6 with (go_at_call 83; refine HADM.out.mono ?_; rintro e w3 ⟨rfl, hm3, hk3, hb3⟩; have HM3 := Lib.hid hm3; have HK3 := Lib.hid hk3; have HB3 := Lib.hid hb3; clear hm3 hk3 hb3)
      have hi3 := HI.out.step HD.out hlt (by rw [← HQI.out]; exact HK3.out) (by rw [HRV.out, ← HQI.out]; exact HM3.out) HSB.out HB3.out
      simp only at hi3
      rw [← HNX.out] at hi3
      have HI3 := Aside0.mk hi3
      clear hi3 HI y0 y1 y2 y3 y4 y5i HADM
      obtain ⟨y0, y1, y2, y3, y4, y5⟩ := HI3.out.reads
      have y5i := y5 i hlt
      rw [← HQI.out] at y5i
      have zi : w3.cell? ⟨qi, 3, none⟩ = some (.int .i64 s2.dl) := (blk_cell HM3.out 3).trans rfl
      have hpd := fun n => pending_calls qi _ _ _ s2 (w3.drewN n) (HM3.out.drewN n)
      have HY5 := Lib.hid y5
      clear y5
      cases hp : pendS s2 with
      | false =>
        rw [hp] at hpd
        have HPD := Lib.hid hpd
        have HC : Hid (chN (admL ss rs t x.sv ss.length) (i + 1) = k) := Lib.hid (by rw [HST.out, hp]; rfl)
        clear hpd hp
        go_wp2_with fail
        ((go_quiet ((go_at_call 84; with_reducible exact Calls.quiet_of (HPD.out _)))))
        go_wp2_with fail
        ((go_roundw; (case rel => exact ⟨i + 1, by go_num, by omega, by rw [HC.out], ⟨HI3.out.drewN nq⟩⟩); (case measure => simp [intOf]; omega)))
      | true =>
        rw [hp] at hpd
        have HPD := Lib.hid hpd
        have hst := HST.out
        rw [hp, Bool.true_and] at hst
        clear hpd hp
        by_cases h0 : k < 0
        · have h0b : decide (k < 0) = true := decide_eq_true h0
          have HC : Hid (chN (admL ss rs t x.sv ss.length) (i + 1) = (i : Int)) := Lib.hid (by rw [hst, h0b]; rfl)
          clear hst h0
          go_wp2_with fail
          ((go_quiet ((go_at_call 84; with_reducible exact Calls.quiet_of (HPD.out _)))))
          go_wp2_with fail
          ((go_roundw; (case rel => exact ⟨i + 1, by go_num, by omega, by rw [HC.out], ⟨HI3.out.drewN nq⟩⟩); (case measure => simp [intOf]; omega)))
        · have h0b : decide (k < 0) = false := decide_eq_false h0
          rw [h0b, Bool.false_or] at hst
          obtain ⟨kk, rfl⟩ : ∃ n : Nat, k = (n : Int) := ⟨k.toNat, by omega⟩
          have hkr := HKR.out
          have hkl : kk < ss.length := by omega
          have yk := HY5.out kk hkl
          have zk : w3.cell? ⟨qs.getD kk 0, 3, none⟩ = some (.int .i64 dk) := by
            have h1 := (blk_cell (HI3.out.1.sv kk hkl) 3).trans rfl
            have h2 := HKEY.out (by omega)
            rw [Int.toNat_natCast] at h2
            have h3 := HDK.out
            rw [Int.toNat_natCast, ← h2] at h3
            rw [h3]
            exact h1
          obtain ⟨qk, hqk⟩ : ∃ qk, qk = qs.getD kk 0 := ⟨_, rfl⟩
          rw [← hqk] at yk zk
          clear hqk
          have p2 : 0 ≤ (kk : Int) := by omega
          have p3 : (kk : Int) < (ss.length : Int) := by omega
          by_cases hd : s2.dl < dk
          · have hdb : decide (s2.dl < dk) = true := decide_eq_true hd
            have HC : Hid (chN (admL ss rs t x.sv ss.length) (i + 1) = (i : Int)) := Lib.hid (by rw [hst, hdb]; rfl)
            clear hst hd h0 hkr
            go_wp2_with fail
            ((go_quiet ((go_at_call 84; with_reducible exact Calls.quiet_of (HPD.out _)))))
            go_wp2_with fail
            ((go_roundw; (case rel => exact ⟨i + 1, by go_num, by omega, by rw [HC.out], ⟨HI3.out.drewN nq⟩⟩); (case measure => simp [intOf]; omega)))
          · have hdb : decide (s2.dl < dk) = false := decide_eq_false hd
            have HC : Hid (chN (admL ss rs t x.sv ss.length) (i + 1) = (kk : Int)) := Lib.hid (by rw [hst, hdb]; rfl)
            clear hst hd h0 hkr
            go_wp2_with fail
            ((go_quiet ((go_at_call 84; with_reducible exact Calls.quiet_of (HPD.out _)))))
            go_wp2_with fail
            ((go_roundw; (case rel => exact ⟨i + 1, by go_num, by omega, by rw [HC.out], ⟨HI3.out.drewN nq⟩⟩); (case measure => simp [intOf]; omega)))
    · have b1 : decide ((i : Int) < (ss.length : Int)) = false := decide_eq_false (by omega)
      obtain rfl : i = ss.length := by omega
      have hlv : (admL ss rs t x.sv ss.length).length = ss.length := by rw [admL_len, HLS.out]
      have hkr := bestN_in (fun i => pendS ((admL ss rs t x.sv ss.length).getD i zSv)) (fun i => ((admL ss rs t x.sv ss.length).getD i zSv).dl) ss.length
      have hkr : -1 ≤ chN (admL ss rs t x.sv ss.length) ss.length ∧ chN (admL ss rs t x.sv ss.length) ss.length < ss.length := hkr
      have hkp := bestN_ok (fun i => pendS ((admL ss rs t x.sv ss.length).getD i zSv)) (fun i => ((admL ss rs t x.sv ss.length).getD i zSv).dl) ss.length
      have hkp : 0 ≤ chN (admL ss rs t x.sv ss.length) ss.length → pendS ((admL ss rs t x.sv ss.length).getD (chN (admL ss rs t x.sv ss.length) ss.length).toNat zSv) = true := hkp
      obtain ⟨k, hk0⟩ : ∃ k, k = chN (admL ss rs t x.sv ss.length) ss.length := ⟨_, rfl⟩
      have hdef := HDEF.out
      rw [← hk0] at hkr hkp hdef
      rw [← hk0]
      generalize admL ss rs t x.sv ss.length = v at hkp hdef HI hlv
      have hjo := HJO.out
      clear hk0
      ((obtain ⟨y0, y1, y2, y3, y4, y5⟩ := HI.out.reads))
      by_cases h0 : k < 0
      · have h0b : decide (k < 0) = true := decide_eq_true h0
        have hr : R = (j, ⟨v, x.ch, x.sd⟩) := by rw [hdef]; unfold srvK; rw [if_pos h0]
        have HR := Lib.hid hr
        clear hr hdef h0 hkp hkr hjo
        go_wp2_with fail
        go_quiet (fail)
        go_wp2
        go_ret
        rw [HR.out]
        exact ⟨rfl, (HI.out.drewN nq).1, (HI.out.drewN nq).2.2.1, below_two HW.out (HI.out.drewN nq).2.2.2 (HI.out.drewN nq).2.2.1.1⟩
      · have h0b : decide (k < 0) = false := decide_eq_false h0
        obtain ⟨kk, rfl⟩ : ∃ n : Nat, k = (n : Int) := ⟨k.toNat, by omega⟩
        have hkl : kk < ss.length := by omega
        have hkp := hkp (by omega)
        rw [Int.toNat_natCast] at hkp
        unfold srvK at hdef
        rw [if_neg h0, Int.toNat_natCast] at hdef
        have hsm := HI.out.1.sv kk hkl
        have hsb := HI.out.1.svb kk hkl
        obtain ⟨B, d, hrv, hrc⟩ := HD.out.rv kk hkl
        have hqb := HD.out.qb kk hkl
        have hbs := HD.out.bs
        have yk := y5 kk hkl
        obtain ⟨qk, hqk⟩ : ∃ qk, qk = qs.getD kk 0 := ⟨_, rfl⟩
        rw [← hqk] at yk hsm hqb
        obtain ⟨s, hs⟩ : ∃ s, s = v.getD kk zSv := ⟨_, rfl⟩
        simp only at hsm hsb
        rw [← hs] at hsm hsb hdef hkp
        have zk : wr.cell? ⟨qk, 3, none⟩ = some (.int .i64 s.dl) := (blk_cell hsm 3).trans rfl
        have p2 : 0 ≤ (kk : Int) := by omega
        have p3 : (kk : Int) < (ss.length : Int) := by omega
        clear y5 h0 hkr
        -- the job that would run
        have hway : (decide (j ≥ 0) = false ∧ R = (-1, ⟨v.set kk (srvS (svX ss kk).f0 (svX ss kk).f1 (svA rs kk) s), x.ch.set t (kk : Int), if srvF (svA rs kk) s = true then x.sd.set kk ((x.sd.getD kk []).set s.hd.toNat ((t : Int) + 1)) else x.sd⟩)) ∨
            (decide (j ≥ 0) = true ∧ 0 ≤ j ∧ j < (jobs.length : Int) ∧ ∃ (ad : Addr) (y : Int), A = some ad ∧ wr.cell? ⟨(ad.add (j.toNat * 4)).block, (ad.add (j.toNat * 4)).off + 2, none⟩ = some (.int .i64 y) ∧
              ((decide (y ≤ s.dl) = true ∧ R = (j, ⟨v, x.ch, x.sd⟩)) ∨ (decide (y ≤ s.dl) = false ∧ R = (-1, ⟨v.set kk (srvS (svX ss kk).f0 (svX ss kk).f1 (svA rs kk) s), x.ch.set t (kk : Int), if srvF (svA rs kk) s = true then x.sd.set kk ((x.sd.getD kk []).set s.hd.toNat ((t : Int) + 1)) else x.sd⟩)))) := by
          by_cases h1 : 0 ≤ j
          · obtain ⟨ad, e0, _, _, hy2, _⟩ := at_T67 (Kd.C_below HJ.out HI.out.2.2.2) j h1 hjo.2.1
            refine .inr ⟨decide_eq_true h1, h1, hjo.2.1, ad, _, e0, hy2, ?_⟩
            by_cases h2 : (rd_T67 jobs j).f2 ≤ s.dl
            · exact .inl ⟨decide_eq_true h2, by rw [hdef]; exact if_pos ⟨h1, h2⟩⟩
            · exact .inr ⟨decide_eq_false h2, by rw [hdef]; exact if_neg (fun h => h2 h.2)⟩
          · exact .inl ⟨decide_eq_false h1, by rw [hdef]; exact if_neg (fun h => h1 h.1)⟩
        have HKP := Lib.hid hkp
        have HQK := Lib.hid hqk
        have HSV := Lib.hid hs
        have HRV := Lib.hid hrv
        have HRC := Lib.hid hrc
        have HSB := Lib.hid hsb
        have HQB := Lib.hid (Nat.le_trans hbs hqb)
        have HLV := Lib.hid hlv
        clear hdef hkp hqk hs hrv hrc hsb hsm hqb hbs hjo hlv
        rcases hway with ⟨g1, gR⟩ | ⟨g1, g2, g3, ad, y, rfl, g4, ⟨g5, gR⟩ | ⟨g5, gR⟩⟩
        rotate_left
        · have HR := Lib.hid gR
          clear gR
          go_wp2_with fail
          go_quiet (fail)
          go_wp2
          go_ret
          rw [HR.out]
          exact ⟨rfl, (HI.out.drewN nq).1, (HI.out.drewN nq).2.2.1, below_two HW.out (HI.out.drewN nq).2.2.2 (HI.out.drewN nq).2.2.1.1⟩
        all_goals
          have HR := Lib.hid gR
          clear gR
          go_wp2_with fail
          go_quiet (fail)
          have HI2 := Aside0.mk (HI.out.drewN nq)
          (try clear g4)
          clear HI y0 y1 y2 y3 y4 yk zk
          generalize World.drewN wr nq = w4 at HI2 ⊢
          obtain ⟨y0, y1, y2, y3, y4, y5⟩ := HI2.out.reads
          obtain ⟨hx0, hxf0⟩ := Kd.R_celln 0 HI2.out.1.chr (t : Int) (by omega) (by omega)
          simp only [Int.toNat_natCast] at hx0 hxf0
          have ne1 : gc ≠ g := fun e => Kd.R_ne HI2.out.1.chr HI2.out.2.1 (by decide) (by rw [← e]; rfl)
          have ne2 : gc ≠ go := fun e => Kd.R_ne HI2.out.1.chr HI2.out.1.bo (by decide) (by rw [← e]; rfl)
          have p4 : 0 ≤ (t : Int) := by omega
          have p5 : (t : Int) < 120 := by omega
          clear y0 y1 y4 y5
          go_wp2_with fail
          go_region_held3 (fun w' => w'.cell? ⟨go, 2, none⟩ = some (.slice (some ⟨gc, 0, none⟩) 120 cc) ∧ w'.cell? ⟨g, 2, none⟩ = some (.int .i64 (t : Int))) (go_keep) (fail)
          have hi5 := (HI2.out.putCh HD.out (t : Int) (kk : Int)).drew
          simp only [Int.toNat_natCast] at hi5
          have HI5 := Aside0.mk hi5
          clear hi5 HI2 hx0 hxf0 y2 y3 ne1 ne2
          generalize World.drew _ = w5 at HI5 ⊢
          obtain ⟨y0, y1, y2, y3, y4, y5⟩ := HI5.out.reads
          have yk := y5 kk hkl
          rw [← HQK.out] at yk
          have hsm := HI5.out.1.sv kk hkl
          simp only at hsm
          rw [← HQK.out, ← HSV.out, HRV.out] at hsm
          have hq6 : w5.cell? ⟨qk, 6, none⟩ = some (.int .i64 s.hd) := (blk_cell hsm 6).trans rfl
          have hser := serve_calls w00 qk HQB.out (svX ss kk).f0 (svX ss kk).f1 B d (svA rs kk) s w5 hsm HSB.out HRC.out HI5.out.2.2.2 (of_decide_eq_true HKP.out)
          have HSER := Lib.hid hser
          clear y5 hsm hser
          cases hf : srvF (svA rs kk) s with
          | false =>
            have hr2 : R = (-1, ⟨v.set kk (srvS (svX ss kk).f0 (svX ss kk).f1 (svA rs kk) s), x.ch.set t (kk : Int), x.sd⟩) := by rw [HR.out, hf]; rfl
            have hs2 := HSER.out
            rw [hf] at hs2
            have HR2 := Lib.hid hr2
            have HS2 := Lib.hid hs2
            clear hr2 hs2 HR HSER hf
            go_wp2_with (go_at_call 85; refine HS2.out.mono ?_; rintro e w6 ⟨rfl, hm6, hk6, hb6⟩; have HM6 := Lib.hid hm6; have HK6 := Lib.hid hk6; have HB6 := Lib.hid hb6; clear hm6 hk6 hb6)
            go_ret
            have hi6 := HI5.out.step HD.out hkl (by rw [← HQK.out]; exact HK6.out) (by rw [HRV.out, ← HQK.out]; exact HM6.out) (HSB.out.srv (of_decide_eq_true HKP.out)) HB6.out
            rw [HR2.out]
            exact ⟨rfl, hi6.1, hi6.2.2.1, below_two HW.out hi6.2.2.2 hi6.2.2.1.1⟩
          | true =>
            have hr2 : R = (-1, ⟨v.set kk (srvS (svX ss kk).f0 (svX ss kk).f1 (svA rs kk) s), x.ch.set t (kk : Int), x.sd.set kk ((x.sd.getD kk []).set s.hd.toNat ((t : Int) + 1))⟩) := by rw [HR.out, hf]; rfl
            have hs2 := HSER.out
            rw [hf] at hs2
            have HR2 := Lib.hid hr2
            have HS2 := Lib.hid hs2
            clear hr2 hs2 HR HSER hf
            go_upto_region 14 with (go_at_call 85; refine HS2.out.mono ?_; rintro e w6 ⟨rfl, hm6, hk6, hb6⟩; have HM6 := Lib.hid hm6; have HK6 := Lib.hid hk6; have HB6 := Lib.hid hb6; clear hm6 hk6 hb6)
            have hi6 := HI5.out.step HD.out hkl (by rw [← HQK.out]; exact HK6.out) (by rw [HRV.out, ← HQK.out]; exact HM6.out) (HSB.out.srv (of_decide_eq_true HKP.out)) HB6.out
            simp only at hi6
            have HI6 := Aside0.mk hi6
            clear hi6 y0 y1 y2 y3 y4 yk hq6 HI5
            obtain ⟨y0, y1, y2, y3, y4, y5⟩ := HI6.out.reads
            have hhd : 0 ≤ s.hd ∧ s.hd < ((svA rs kk).length : Int) := by
              have h1 := HSB.out.h0
              have h2 := HSB.out.c1
              have h3 : s.hd < s.came := of_decide_eq_true HKP.out
              omega
            obtain ⟨q, d2, hu1, hu2, hu3, hu4⟩ := HI6.out.1.rowAt hkl (by omega)
            obtain ⟨hu5, yv, hu6⟩ := hu4 s.hd hhd.1 hhd.2
            have ne1 : q ≠ g := hu3 _ _ _ HI6.out.2.1 (by decide)
            have ne2 : q ≠ go := hu3 _ _ _ HI6.out.1.bo (by decide)
            have ne3 : q ≠ gr := hu3 _ _ _ HI6.out.1.rows.blk (by decide)
            have hhd1 := hhd.1
            have hhd2 := hhd.2
            have w1_ : IntKind.i64.wrap ((t : Int) + 1) = (t : Int) + 1 := i64_sm (by omega) (by omega)
            have HU1 := Lib.hid hu1
            have hi7 := (HI6.out.putSd HD.out hkl hu1 s.hd ((t : Int) + 1)).drew
            simp only at hi7
            have HI7 := Aside0.mk hi7
            clear hu1 hu3 hu4 hi7 hhd y0 y1 y3 y5
            go_wp2_with fail
            go_region_held3 (fun w' => w'.cell? ⟨go, 3, none⟩ = some (.slice (some ⟨gr, 0, none⟩) ss.length ss.length) ∧ w'.cell? ⟨gr, kk, none⟩ = some (.slice (some ⟨q, 0, none⟩) (svA rs kk).length d2) ∧ w'.cell? ⟨g, 2, none⟩ = some (.int .i64 (t : Int))) (go_keep) (fail)
            go_wp2
            go_ret
            rw [HR2.out]
            exact ⟨rfl, HI7.out.1, HI7.out.2.2.1, below_two HW.out HI7.out.2.2.2 HI7.out.2.2.1.1⟩

end Go.Proofs.Ytonifhkplniblaa.Print

namespace Go.Proofs.Ytonifhkplniblaa.Print
open Go.RowKit Go.Proofs.YtonifhkplniblaaW.PrintWords Go.Proofs.YtonifhkplniblaaW.PrintLast Go.Proofs.YtonifhkplniblaaW.PrintMore
attribute [local go_sem] max2_int min2_int max_two min_two max_three min_three max_four min_four
set_option linter.unusedVariables false
set_option linter.unusedSimpArgs false
open Go.Proofs.Ytonifhkplniblaa.Walk
def rowI (rs : List (List (S164))) (n i : Nat) : List (List Int) := (List.range n).map (fun j => if j < i then List.replicate (svA rs j).length (-1) else [])
theorem rowI_len (rs : List (List (S164))) (n i : Nat) : (rowI rs n i).length = n := by simp [rowI]
theorem rowI_at (rs : List (List (S164))) (n i j : Nat) (h : j < n) : (rowI rs n i).getD j [] = if j < i then List.replicate (svA rs j).length (-1) else [] := by
  unfold rowI
  rw [List.getD_eq_getElem?_getD, List.getElem?_map, List.getElem?_range h]
  rfl
theorem rowI_set (rs : List (List (S164))) (n i : Nat) (h : i < n) : (rowI rs n i).set i (List.replicate (svA rs i).length (-1)) = rowI rs n (i + 1) := by
  apply List.ext_getElem?
  intro j
  by_cases hj : j < n
  · have e1 : ((rowI rs n i).set i (List.replicate (svA rs i).length (-1))).getD j [] = (rowI rs n (i + 1)).getD j [] := by
      rw [getD_setR, rowI_len, rowI_at _ _ _ _ hj, rowI_at _ _ _ _ hj]
      by_cases e : i = j
      · subst e; rw [if_pos ⟨rfl, h⟩, if_pos (by omega)]
      · rw [if_neg (by omega)]
        by_cases e2 : j < i
        · rw [if_pos e2, if_pos (by omega)]
        · rw [if_neg e2, if_neg (by omega)]
    have h1 : j < ((rowI rs n i).set i (List.replicate (svA rs i).length (-1))).length := by rw [List.length_set, rowI_len]; exact hj
    have h2 : j < (rowI rs n (i + 1)).length := by rw [rowI_len]; exact hj
    rw [List.getD_eq_getElem?_getD, List.getD_eq_getElem?_getD, List.getElem?_eq_getElem h1, List.getElem?_eq_getElem h2] at e1
    simp only [Option.getD_some] at e1
    rw [List.getElem?_eq_getElem h1, List.getElem?_eq_getElem h2, e1]
  · rw [List.getElem?_eq_none (by rw [List.length_set, rowI_len]; omega), List.getElem?_eq_none (by rw [rowI_len]; omega)]
def sv0 (ss : List (S109)) (i : Nat) : Sv := ⟨(svX ss i).f0, 0, 0, 0, 0⟩
theorem made_n {x : Value} {n : Nat} (h : n ≤ 2) : madeCells #[x] n = (List.replicate n x).toArray := by
  rcases n with _ | _ | _ | n
  · kernel_rfl
  · kernel_rfl
  · kernel_rfl
  · omega
theorem repl_getD2 {α : Type} (n : Nat) (x : α) (i : Nat) : (List.replicate n x).getD i x = x := by
  rw [List.getD_eq_getElem?_getD, List.getElem?_replicate]
  split <;> rfl
section
variable {w0 W W2 : World} {base gb g4 wb gw go gr : Nat} {A : Option Addr} {c : Nat} {qs : List Nat} {ss : List (S109)} {rs : List (List (S164))} {RV : List Value} {cv : Value} {us : List Value} {nj m i : Nat}
theorem gr_made_n {n : Nat} (hn : n ≤ 2) (h : W.heap[gr]? = some (.cells (madeCells #[.slice none 0 0] n) 30 (0, 0))) : Gr W base gr (List.replicate n nilV) (rowI rs n 0) where
  blk := by rw [h, made_n hn]; rfl
  len := by rw [rowI_len, List.length_replicate]
  row := fun i hi => by
    rw [rowI_len] at hi
    have e1 : (List.replicate n nilV).getD i nilV = nilV := repl_getD2 _ _ _
    rw [e1, rowI_at _ _ _ _ hi, if_neg (by omega)]
    exact Kd.RR_nil _ _ _ _ _
  apart := fun i j k hi hj hij he => by
    have e1 : (List.replicate n nilV).getD i nilV = nilV := repl_getD2 _ _ _
    rw [e1] at he
    cases he
/-- What is in memory while the servers are made: the out box alone. -/
structure SrvO (w0 W : World) (base gb g4 go gr : Nat) (A : Option Addr) (nj c : Nat) (rs : List (List (S164))) (n : Nat) (cv : Value) (us : List Value) (i : Nat) : Prop where
  bj : W.heap[gb]? = some (.cells #[.slice A nj c] 39 (0, 0))
  b4 : W.heap[g4]? = some (.cells #[.slice none 0 0, .slice none 0 0, .slice none 0 0, .slice none 0 0] 35 (0, 0))
  bo : W.heap[go]? = some (.cells #[.slice none 0 0, .slice none 0 0, cv, .slice (some ⟨gr, 0, none⟩) n n] 35 (0, 0))
  n4 : g4 ≠ go
  rows : Gr W base gr us (rowI rs n i)
  chr : Kd.R (Kd.int .i64) 3 W base (fun _ => True) cv (List.replicate 120 (-1))
  ap : ∀ i k, i < us.length → (us.getD i nilV).ownBlock = some k → cv.ownBlock ≠ some k
  bb : base ≤ gb ∧ base ≤ g4 ∧ base ≤ go ∧ base ≤ gr
  bw0 : Below base w0 W
theorem SrvO.same (h : SrvO w0 W base gb g4 go gr A nj c rs m cv us i) (hb : Below base w0 W2) (hk : ∀ k, k < W.heap.size → W2.heap[k]? = W.heap[k]?) : SrvO w0 W2 base gb g4 go gr A nj c rs m cv us i where
  bj := (hk _ (blk_lt h.bj)).trans h.bj
  b4 := (hk _ (blk_lt h.b4)).trans h.b4
  bo := (hk _ (blk_lt h.bo)).trans h.bo
  n4 := h.n4
  rows := h.rows.step (hk _ (blk_lt h.rows.blk)) (fun _ k _ _ hlt => hk k hlt)
  chr := row_stepG h.chr (fun k _ hlt => hk k hlt)
  ap := h.ap
  bb := h.bb
  bw0 := hb
/-- A store into a block of another type. -/
theorem SrvO.far (h : SrvO w0 W base gb g4 go gr A nj c rs m cv us i) {q : Nat} {cs : Array Value} {t : TypeId} (hq : W.heap[q]? = some (.cells cs t (0, 0))) (h1 : 3 ≠ t) (h2 : 30 ≠ t) (h3 : 35 ≠ t) (h4 : 39 ≠ t) (hb : base ≤ q) (j : Nat) (u : Value) : SrvO w0 (W.setCell ⟨q, j, none⟩ u) base gb g4 go gr A nj c rs m cv us i where
  bj := blk_far h.bj (ne_of_type h.bj hq h4) _
  b4 := blk_far h.b4 (ne_of_type h.b4 hq h3) _
  bo := blk_far h.bo (ne_of_type h.bo hq h3) _
  n4 := h.n4
  rows := h.rows.far hq h1 h2 j u
  chr := row_stepG h.chr (fun k e _ => Below.heap_setCell _ _ _ k (fun e2 => Kd.R_ne h.chr hq h1 (by rw [e, e2])))
  ap := h.ap
  bb := h.bb
  bw0 := h.bw0.setCell hb _
/-- A served row is laid. -/
theorem SrvO.put (h : SrvO w0 W base gb g4 go gr A nj c rs m cv us i) (hi : i < m) {u : Value} (hu : Kd.RR (Kd.int .i64) 3 W base (fun _ => True) u (List.replicate (svA rs i).length (-1))) (hap : ∀ k, u.ownBlock = some k → cv.ownBlock ≠ some k ∧ ∀ j, j < us.length → (us.getD j nilV).ownBlock ≠ some k) :
    SrvO w0 (W.setCell ⟨gr, i, none⟩ u) base gb g4 go gr A nj c rs m cv (us.set i u) (i + 1) where
  bj := blk_far h.bj (ne_of_type h.bj h.rows.blk (by decide)) _
  b4 := blk_far h.b4 (ne_of_type h.b4 h.rows.blk (by decide)) _
  bo := blk_far h.bo (ne_of_type h.bo h.rows.blk (by decide)) _
  n4 := h.n4
  rows := by
    rw [← rowI_set rs m i hi]
    exact h.rows.put (by rw [rowI_len]; exact hi) hu (fun j k hj e e2 => (hap k e2).2 j hj e)
  chr := row_stepG h.chr (fun k e _ => Below.heap_setCell _ _ _ k (fun e2 => Kd.R_ne h.chr h.rows.blk (by decide) (by rw [e, e2])))
  ap := fun j k hj e => by
    rw [List.length_set] at hj
    rw [getD_setV] at e
    split at e
    · exact (hap k e).1
    · exact h.ap j k hj e
  bb := h.bb
  bw0 := h.bw0.setCell h.bb.2.2.2 _
/-- What is in memory while the servers are made: those that are. -/
structure SrvW (W : World) (base wb gw : Nat) (qs : List Nat) (ss : List (S109)) (RV : List Value) (i : Nat) : Prop where
  bw : W.heap[wb]? = some (.cells #[.slice (some ⟨gw, 0, none⟩) ss.length ss.length] 115 (0, 0))
  bp : ∃ cs : Array Value, W.heap[gw]? = some (.cells cs 116 (0, 0)) ∧ (∀ j, j < i → cs[j]? = some (svP qs j)) ∧ cs.size = ss.length
  sv : ∀ j, j < i → SvM W (qs.getD j 0) (svX ss j).f0 (svX ss j).f1 (RV.getD j nilV) (sv0 ss j)
  lq : qs.length = i
  qb : ∀ j, j < i → base ≤ qs.getD j 0
  qn : ∀ j k, j < i → k < i → j ≠ k → qs.getD j 0 ≠ qs.getD k 0
  bb : base ≤ wb ∧ base ≤ gw
theorem SrvW.same (h : SrvW W base wb gw qs ss RV i) (hk : ∀ k, k < W.heap.size → W2.heap[k]? = W.heap[k]?) : SrvW W2 base wb gw qs ss RV i where
  bw := (hk _ (blk_lt h.bw)).trans h.bw
  bp := by
    obtain ⟨cs, h1, h2⟩ := h.bp
    exact ⟨cs, (hk _ (blk_lt h1)).trans h1, h2⟩
  sv := fun j hj => (hk _ (blk_lt (h.sv j hj))).trans (h.sv j hj)
  lq := h.lq
  qb := h.qb
  qn := h.qn
  bb := h.bb
theorem SrvW.far (h : SrvW W base wb gw qs ss RV i) {q : Nat} {cs : Array Value} {t : TypeId} (hq : W.heap[q]? = some (.cells cs t (0, 0))) (h1 : 115 ≠ t) (h2 : 116 ≠ t) (h3 : 118 ≠ t) (j : Nat) (u : Value) : SrvW (W.setCell ⟨q, j, none⟩ u) base wb gw qs ss RV i where
  bw := blk_far h.bw (ne_of_type h.bw hq h1) _
  bp := by
    obtain ⟨cs, k1, k2⟩ := h.bp
    exact ⟨cs, blk_far k1 (ne_of_type k1 hq h2) _, k2⟩
  sv := fun j hj => blk_far (h.sv j hj) (ne_of_type (h.sv j hj) hq h3) _
  lq := h.lq
  qb := h.qb
  qn := h.qn
  bb := h.bb
/-- A server is made and laid. -/
theorem SrvW.put (h : SrvW W base wb gw qs ss RV i) (hi : i < ss.length) (hb : base ≤ W.heap.size) :
    SrvW ((W.alloc (.cells #[.int .i64 (svX ss i).f0, .int .i64 (svX ss i).f1, .int .i64 (svX ss i).f0, .int .i64 0, RV.getD i nilV, .int .i64 0, .int .i64 0, .int .i64 0] 118)).setCell ⟨gw, i, none⟩ (.pointer (some ⟨W.heap.size, 0, none⟩))) base wb gw (qs ++ [W.heap.size]) ss RV (i + 1) := by
  have hk : ∀ k, k < W.heap.size → (W.alloc (.cells #[.int .i64 (svX ss i).f0, .int .i64 (svX ss i).f1, .int .i64 (svX ss i).f0, .int .i64 0, RV.getD i nilV, .int .i64 0, .int .i64 0, .int .i64 0] 118)).heap[k]? = W.heap[k]? := fun k hk => Below.heap_alloc _ _ _ hk
  have hn := blk_new W (.cells #[.int .i64 (svX ss i).f0, .int .i64 (svX ss i).f1, .int .i64 (svX ss i).f0, .int .i64 0, RV.getD i nilV, .int .i64 0, .int .i64 0, .int .i64 0] 118)
  have h1 := h.same hk
  have hq1 : ∀ j, j < i → (qs ++ [W.heap.size]).getD j 0 = qs.getD j 0 := fun j hj => by
    simp only [List.getD_eq_getElem?_getD]
    rw [List.getElem?_append_left (by rw [h.lq]; exact hj)]
  have hq2 : (qs ++ [W.heap.size]).getD i 0 = W.heap.size := by
    simp only [List.getD_eq_getElem?_getD]
    rw [List.getElem?_append_right (by rw [h.lq]; omega), h.lq]
    simp
  have hlt : ∀ j, j < i → qs.getD j 0 < W.heap.size := fun j hj => blk_lt (h.sv j hj)
  generalize W.alloc _ = V at hn h1 ⊢
  generalize W.heap.size = q at hn hq1 hq2 hlt hb ⊢
  obtain ⟨cs, k1, k2, k3⟩ := h1.bp
  refine ⟨blk_far h1.bw (ne_of_type h1.bw k1 (by decide)) _, ⟨cs.setIfInBounds i (.pointer (some ⟨q, 0, none⟩)), blk_set k1 i _, fun j hj => ?_, by rw [Array.size_setIfInBounds]; exact k3⟩, fun j hj => ?_, by rw [List.length_append, h1.lq]; rfl, fun j hj => ?_, fun j k hj hk hjk => ?_, h1.bb⟩
  · rw [Array.getElem?_setIfInBounds]
    by_cases e : i = j
    · subst e
      rw [if_pos rfl, if_pos (by rw [k3]; exact hi), svP_eq, hq2]
    · rw [if_neg e, k2 j (by omega), svP_eq, svP_eq, hq1 j (by omega)]
  · by_cases e : j = i
    · subst e
      rw [hq2]
      exact blk_far hn (ne_of_type hn k1 (by decide)) _
    · rw [hq1 j (by omega)]
      exact blk_far (h1.sv j (by omega)) (ne_of_type (h1.sv j (by omega)) k1 (by decide)) _
  · by_cases e : j = i
    · subst e; rw [hq2]; exact hb
    · rw [hq1 j (by omega)]; exact h1.qb j (by omega)
  · by_cases e : j = i
    · subst e
      rw [hq2, hq1 k (by omega)]
      have := hlt k (by omega)
      omega
    · by_cases e2 : k = i
      · subst e2
        rw [hq2, hq1 j (by omega)]
        have := hlt j (by omega)
        omega
      · rw [hq1 j (by omega), hq1 k (by omega)]
        exact h1.qn j k (by omega) (by omega) hjk
theorem SrvW.drew (h : SrvW W base wb gw qs ss RV i) : SrvW W.drew base wb gw qs ss RV i := h.same (fun _ _ => rfl)
theorem SrvO.drew (h : SrvO w0 W base gb g4 go gr A nj c rs m cv us i) : SrvO w0 W.drew base gb g4 go gr A nj c rs m cv us i := h.same (below_drew h.bw0) (fun _ _ => rfl)
/-- All that the servers hold lies below N. -/
def SrvNb (N gb wb gw go gr : Nat) (qs : List Nat) (n : Nat) (cv : Value) (us : List Value) : Prop := (gb < N ∧ wb < N ∧ gw < N ∧ go < N ∧ gr < N) ∧ (∀ i, i < n → qs.getD i 0 < N) ∧ (∀ k, cv.ownBlock = some k → k < N) ∧ ∀ i k, i < us.length → (us.getD i nilV).ownBlock = some k → k < N
end
theorem SrvI.nb {W : World} {base gb wb gw go gr : Nat} {A : Option Addr} {c : Nat} {jobs : List (S67)} {qs : List Nat} {ss : List (S109)} {rs : List (List (S164))} {RV : List Value} {cv : Value} {us : List Value} {x : SvSt} (h : SrvI W base gb wb gw go gr A c jobs qs ss rs RV cv us x) : SrvNb W.heap.size gb wb gw go gr qs ss.length cv us := by
  obtain ⟨cs, h1, _⟩ := h.bp
  exact ⟨⟨blk_lt h.bj, blk_lt h.bw, blk_lt h1, blk_lt h.bo, blk_lt h.rows.blk⟩, fun i hi => blk_lt (h.sv i hi), fun k e => Kd.R_lt h.chr k e, fun i k hi e => Kd.RR_lt (h.rows.row i (by rw [← h.rows.len]; exact hi)) k e⟩
theorem SrvI.sameN {W W2 : World} {N base gb wb gw go gr : Nat} {A : Option Addr} {c : Nat} {jobs : List (S67)} {qs : List Nat} {ss : List (S109)} {rs : List (List (S164))} {RV : List Value} {cv : Value} {us : List Value} {x : SvSt} (h : SrvI W base gb wb gw go gr A c jobs qs ss rs RV cv us x) (hn : SrvNb N gb wb gw go gr qs ss.length cv us) (hk : ∀ k, k < N → W2.heap[k]? = W.heap[k]?) : SrvI W2 base gb wb gw go gr A c jobs qs ss rs RV cv us x where
  bj := (hk _ hn.1.1).trans h.bj
  bw := (hk _ hn.1.2.1).trans h.bw
  bp := by
    obtain ⟨cs, h1, h2⟩ := h.bp
    exact ⟨cs, (hk _ hn.1.2.2.1).trans h1, h2⟩
  bo := (hk _ hn.1.2.2.2.1).trans h.bo
  rows := h.rows.step (hk _ hn.1.2.2.2.2) (fun i k hi e _ => hk k (hn.2.2.2 i k hi e))
  chr := row_stepG h.chr (fun k e _ => hk k (hn.2.2.1 k e))
  sv := fun i hi => (hk _ (hn.2.1 i hi)).trans (h.sv i hi)
  svb := h.svb
  ls := h.ls
  lc := h.lc
  ld := h.ld
  le := h.le
theorem SrvNb.ofS {N gb wb gw go gr : Nat} {qs : List Nat} {n : Nat} {cv : Value} {us : List Value} (h : SrvNb N gb wb gw go gr qs n cv us) : ∀ k, SrvS qs n cv us k → k < N := by
  intro k hk
  rcases hk with ⟨i, hi, rfl⟩ | hk | ⟨i, hi, hk⟩
  · exact h.2.1 i hi
  · exact h.2.2.1 k hk
  · exact h.2.2.2 i k hi hk

end Go.Proofs.Ytonifhkplniblaa.Print

namespace Go.Proofs.Ytonifhkplniblaa.Print
open Go.RowKit Go.Proofs.YtonifhkplniblaaW.PrintWords Go.Proofs.Ytonifhkplniblaa.Evs Go.Proofs.Ytonifhkplniblaa.Opens
set_option linter.unusedSimpArgs false
set_option linter.unusedVariables false
def arr (l : List Arrival) (j : Nat) : Arrival := l.getD j z164
theorem rd_arr (l : List Arrival) (j : Nat) : rd_T164 l (j : Int) = arr l j := rfl
def okArr (l : List Arrival) (j : Nat) : Bool := decide (0 ≤ (arr l j).f0 ∧ (arr l j).f0 ≤ 119 ∧ 1 ≤ (arr l j).f1 ∧ (arr l j).f1 ≤ 20 ∧ (0 < j → (arr l (j - 1)).f0 ≤ (arr l j).f0))
def okArrs (l : List Arrival) : Bool := (List.range l.length).all (okArr l) && decide (l.length ≤ 20)
theorem impl_ArrivalsLegal_ev (l : List Arrival) (hl : l.length ≤ 1048576) : Tl (fun k => impl_ArrivalsLegal.f k l) (okArrs l) := by
  refine Tl.all (F := fun k i => impl_ArrivalsLegal.l0 k l l (l.length : Int) i) ?_ ?_ ?_
  · intro j hj hp r h
    unfold okArr at hp
    have hp := of_decide_eq_true hp
    refine Tl.step ?_
    simp only [impl_ArrivalsLegal.l0, rd_arr, impl_in_f, Option.bind_some]
    refine Tl.iteT (by omega) (Tl.iteT (by omega) (Tl.iteT (by omega) (Tl.iteT (by rw [decide_eq_true_eq]; omega) (Tl.iteT (by rw [decide_eq_true_eq]; omega) ?_))))
    by_cases h0 : 0 < j
    · rw [wrap_pred hj h0 (by omega), wrap_succ hj (by omega)]
      simp only [rd_arr]
      exact Tl.iteT (by omega) (Tl.iteT (by omega) (Tl.iteT (by omega) (Tl.iteF (by have := hp.2.2.2.2 h0; omega) h)))
    · rw [wrap_succ hj (by omega)]
      exact Tl.iteF (by omega) h
  · intro j hj hp
    unfold okArr at hp
    have hp := of_decide_eq_false hp
    refine Tl.step ?_
    simp only [impl_ArrivalsLegal.l0, rd_arr, impl_in_f, Option.bind_some]
    refine Tl.iteT (by omega) (Tl.iteT (by omega) (Tl.iteT (by omega) ?_))
    by_cases h1 : 0 ≤ (arr l j).f0 ∧ (arr l j).f0 ≤ 119
    · refine Tl.iteT (by rw [decide_eq_true_eq]; exact h1) ?_
      by_cases h2 : 1 ≤ (arr l j).f1 ∧ (arr l j).f1 ≤ 20
      · refine Tl.iteT (by rw [decide_eq_true_eq]; exact h2) ?_
        have h0 : 0 < j := by omega
        rw [wrap_pred hj h0 (by omega)]
        simp only [rd_arr]
        exact Tl.iteT (by omega) (Tl.iteT (by omega) (Tl.iteT (by omega) (Tl.iteT (by omega) (Tl.ret _))))
      · exact Tl.iteF (by rw [decide_eq_true_eq]; exact h2) (Tl.ret _)
    · exact Tl.iteF (by rw [decide_eq_true_eq]; exact h1) (Tl.ret _)
  · refine Tl.step ?_
    simp only [impl_ArrivalsLegal.l0]
    refine Tl.iteF (by omega) ?_
    have : decide ((l.length : Int) ≤ 20) = decide (l.length ≤ 20) := by rw [decide_eq_decide]; omega
    rw [this]
    exact Tl.ret _
end Go.Proofs.Ytonifhkplniblaa.Print

namespace Go.Proofs.Ytonifhkplniblaa.Print
open Go.RowKit Go.Proofs.YtonifhkplniblaaW.PrintWords Go.Proofs.YtonifhkplniblaaW.PrintLast Go.Proofs.YtonifhkplniblaaW.PrintMore
attribute [local go_sem] max2_int min2_int max_two min_two max_three min_three max_four min_four
set_option linter.unusedVariables false
set_option linter.unusedSimpArgs false
open Go.Proofs.Ytonifhkplniblaa.Walk Go.Proofs.Ytonifhkplniblaa.Evs
theorem rowA_at {w : World} {A : Option Addr} {n : Nat} {xs : List (List (S164))} (h : Kd.C (Kd.slice 164 k164) w A n xs) (i : Nat) (h1 : i < n) : ∃ ad A0 c0, A = some ad ∧ w.cell? (ad.add i) = some (.slice A0 (xs.getD i []).length c0) ∧ (xs.getD i []).length ≤ c0 ∧ Kd.C k164 w A0 (xs.getD i []).length (xs.getD i []) := by
  obtain ⟨ad, c, e, _, hK, hc0⟩ := Kd.C_get h ([] : List (S164)) (i : Int) (by omega) (by omega)
  have hc : ∀ j u, c[j]? = some u → w.cell? (ad.add (i * 1 + j)) = some u := hc0
  obtain ⟨A0, c0, rfl, l0, g0⟩ := hK
  exact ⟨ad, A0, c0, e, by have hq := hc 0 _ rfl; rwa [Nat.mul_one, Nat.add_zero] at hq, l0, g0⟩
set_option maxHeartbeats 1000000 in
set_option maxRecDepth 100000 in
theorem IndexFunc_Arrs (p : List (S164) → Bool) (f : FuncId) (w : World) (A0 : Option Addr) (c0 : Nat) (l0 : List (List (S164))) (hr0 : Kd.C (Kd.slice 164 k164) w A0 l0.length l0) (hc0 : l0.length ≤ c0)
    (hcl : ∀ (x : List (S164)) (B : Option Addr) (d : Nat) (W : World), x ∈ l0 → Below w.heap.size w W → Kd.C k164 W B x.length x → x.length ≤ d → Calls Try.prog f #[.slice B x.length d] W fun e w' => e = .returned (.bool (p x)) ∧ Below W.heap.size W w')
    {fn : Func} (hf : Try.prog.funcs[f]? = some fn) (hname : (fn.name == "runtime.NumGoroutine") = false) (hb : fn.body.isSome = true) :
    Calls Try.prog 146 #[.slice A0 l0.length c0, .func (.func f) #[] #[]] w fun e w' => e = .returned (.int .i64 (idxOf p l0)) ∧ Below w.heap.size w w' := by
  have HR := Aside0.mk hr0
  have HC := Aside0.mk hc0
  have HCL := Aside0.mk hcl
  have HF := Aside0.mk hf
  have HB := Aside0.mk (Below.refl w.heap.size w)
  have hmx : l0.length ≤ 9223372036854775807 := hr0.2.1
  clear hr0 hc0 hcl hf
  go_enter Try.func146, Try.ntmps146
  go_wp2
  go_loopw [8] (fun v8 w' => ∃ j : Nat, v8 = .int .i64 j ∧ Aside0 (j ≤ l0.length ∧ ∀ i, i < j → p (l0.getD i []) = false) ∧ Aside0 (Below w.heap.size w w')) (fun v8 _ => l0.length - (intOf v8).toNat)
  case atStart => exact ⟨0, rfl, ⟨by omega, fun i hi => absurd hi (by omega)⟩, HB⟩
  case round =>
    clear HB
    obtain ⟨j, rfl, ⟨HJ⟩, HB⟩ := hrel
    by_cases hlt : j < l0.length
    · have b1 : decide ((j : Int) < (l0.length : Int)) = true := decide_eq_true (by omega)
      obtain ⟨ad, B, d, e1, hx0, hd, hK⟩ := rowA_at (Kd.C_below HR.out HB.out) j hlt
      cases e1
      have hm : l0.getD j [] ∈ l0 := by
        rw [List.getD_eq_getElem?_getD, List.getElem?_eq_getElem hlt]
        exact List.getElem_mem hlt
      obtain ⟨x, hx⟩ : ∃ x, x = l0.getD j [] := ⟨_, rfl⟩
      rw [← hx] at hx0 hd hK hm
      have q0 : 0 ≤ (j : Int) := by omega
      have q1 : (j : Int) < (l0.length : Int) := by omega
      have HX := Aside0.mk hx
      have HJA := Aside0.mk HJ
      have HCX := Aside0.mk (HCL.out x B d wr hm HB.out hK hd)
      clear HJ hx hK hd hm
      obtain ⟨b, hpb⟩ : ∃ b, b = p x := ⟨_, rfl⟩
      have HP := Aside0.mk hpb
      clear hpb
      cases b with
      | true =>
        go_wp2_with (with_reducible refine gate_value (n := 11) rfl ?_; go_must (refine goesF_ (some 16) rfl rfl rfl rfl HF.out hname hb (#[.slice B x.length d]) (by simp [Act.eval]) ?_; refine HCX.out.mono ?_; rw [← HP.out]; rintro e w2 ⟨rfl, hb2⟩; refine ⟨_, rfl, ?_⟩; have HB1 := Aside0.mk (below_step HB.out hb2); clear HB HCX hb2; have HB := HB1; clear HB1))
        go_ret
        exact ⟨by rw [idxOf_at [] hlt HJA.out.2 (by rw [← HX.out]; exact HP.out.symm)]; rfl, HB.out⟩
      | false =>
        go_wp2_with (with_reducible refine gate_value (n := 11) rfl ?_; go_must (refine goesF_ (some 16) rfl rfl rfl rfl HF.out hname hb (#[.slice B x.length d]) (by simp [Act.eval]) ?_; refine HCX.out.mono ?_; rw [← HP.out]; rintro e w2 ⟨rfl, hb2⟩; refine ⟨_, rfl, ?_⟩; have HB1 := Aside0.mk (below_step HB.out hb2); clear HB HCX hb2; have HB := HB1; clear HB1))
        go_roundw
        case rel =>
          refine ⟨j + 1, by go_num, ⟨by omega, fun i hi => ?_⟩, HB⟩
          by_cases hij : i = j
          · rw [hij, ← HX.out]; exact HP.out.symm
          · exact HJA.out.2 i (by omega)
        case measure => simp [intOf]; omega
    · have b1 : decide ((j : Int) < (l0.length : Int)) = false := decide_eq_false (by omega)
      have HJA := Aside0.mk HJ
      clear HJ
      go_wp2
      go_ret
      exact ⟨by rw [idxOf_none [] (fun i hi => HJA.out.2 i (by omega))]; rfl, HB.out⟩
set_option maxHeartbeats 1000000 in
set_option maxRecDepth 100000 in
/-- Whether a request pattern is not legal. -/
theorem arr1_calls (x : List (S164)) (B : Option Addr) (d : Nat) (W : World) (hl : x.length ≤ 1048576) (hr : Kd.C k164 W B x.length x) (hd : x.length ≤ d) :
    Calls Try.prog 77 #[.slice B x.length d] W fun e w' => e = .returned (.bool (!okArrs x)) ∧ Below W.heap.size W w' := by
  obtain ⟨k0, hk⟩ := impl_ArrivalsLegal_ev x hl
  have HC := Lib.hid (impl_ArrivalsLegal.calls k0 B d x (okArrs x) W hr hd (hk k0 (Nat.le_refl _)))
  clear hr hd hk
  go_enter Try.func77, Try.ntmps77
  go_wp2_with (go_at_call 78; refine HC.out.mono ?_; rintro e w2 ⟨rfl, hb2⟩)
  go_ret
  exact ⟨rfl, hb2⟩
set_option maxHeartbeats 1000000 in
set_option maxRecDepth 100000 in
theorem contArr_calls (w : World) (A0 : Option Addr) (c0 : Nat) (l0 : List (List (S164))) (hr0 : Kd.C (Kd.slice 164 k164) w A0 l0.length l0) (hc0 : l0.length ≤ c0) (hl : ∀ x ∈ l0, x.length ≤ 1048576) :
    Calls Try.prog 76 #[.slice A0 l0.length c0, .func (.func 77) #[] #[]] w fun e w' => e = .returned (.bool (!l0.all okArrs)) ∧ Below w.heap.size w w' := by
  have H := Lib.hid (IndexFunc_Arrs (fun x => !okArrs x) 77 w A0 c0 l0 hr0 hc0 (fun x B d W hm hb hr hd => arr1_calls x B d W (hl x hm) hr hd) Try.func77 (by kernel_rfl) rfl)
  have hany : l0.any (fun x => !okArrs x) = !l0.all okArrs := by rw [List.all_eq_not_any_not, Bool.not_not]
  have HA := Lib.hid hany
  clear hr0 hc0 hl hany
  go_enter Try.func76, Try.ntmps76
  go_wp2_with (go_at_call 146; refine H.out.mono ?_; rintro e w2 ⟨rfl, hb2⟩)
  go_ret
  exact ⟨by rw [← HA.out, ← idxOf_neg]; rfl, hb2⟩


theorem exists_list (P : Nat → Value → Prop) : ∀ n, (∀ i, i < n → ∃ v, P i v) → ∃ l : List Value, l.length = n ∧ ∀ i, i < n → P i (l.getD i nilV)
  | 0, _ => ⟨[], rfl, fun i hi => absurd hi (by omega)⟩
  | n + 1, h => by
    obtain ⟨l, hl, hp⟩ := exists_list P n (fun i hi => h i (by omega))
    obtain ⟨v, hv⟩ := h n (by omega)
    refine ⟨l ++ [v], by simp [hl], fun i hi => ?_⟩
    by_cases e : i = n
    · subst e
      rw [List.getD_eq_getElem?_getD, List.getElem?_append_right (by omega), hl]
      simpa using hv
    · rw [List.getD_eq_getElem?_getD, List.getElem?_append_left (by omega), ← List.getD_eq_getElem?_getD]
      exact hp i (by omega)
def svL0 (ss : List (S109)) : List Sv := (List.range ss.length).map (sv0 ss)
theorem svL0_at (ss : List (S109)) (i : Nat) (h : i < ss.length) : (svL0 ss).getD i zSv = sv0 ss i := by
  unfold svL0
  rw [List.getD_eq_getElem?_getD, List.getElem?_map, List.getElem?_range h]
  rfl
/-- Where a run with servers begins. -/
def srv00 (ss : List (S109)) (rs : List (List (S164))) : SvSt := ⟨svL0 ss, List.replicate 120 (-1), rowI rs ss.length ss.length⟩
theorem nil4 {W : World} {g : Nat} {t : TypeId} (h : W.heap[g]? = some (.cells #[.slice none 0 0, .slice none 0 0, .slice none 0 0, .slice none 0 0] t (0, 0))) :
    (W.cell? ⟨g, 0, none⟩ = some (.slice none 0 0) ∧ W.cell? ⟨g, 1, none⟩ = some (.slice none 0 0) ∧ W.cell? ⟨g, 2, none⟩ = some (.slice none 0 0) ∧ W.cell? ⟨g, 3, none⟩ = some (.slice none 0 0)) ∧ (W.frozen? ⟨g, 0, none⟩ = false ∧ W.frozen? ⟨g, 1, none⟩ = false ∧ W.frozen? ⟨g, 2, none⟩ = false ∧ W.frozen? ⟨g, 3, none⟩ = false) :=
  ⟨⟨(blk_cell h 0).trans rfl, (blk_cell h 1).trans rfl, (blk_cell h 2).trans rfl, (blk_cell h 3).trans rfl⟩, blk_frozen h 0, blk_frozen h 1, blk_frozen h 2, blk_frozen h 3⟩
/-- Valid servers and legal patterns. -/
theorem sv0_ok {ss : List (S109)} {rs : List (List (S164))} (hsv : impl_ServersValid.f ss = some true) (hlen : rs.length = ss.length) (hok : rs.all okArrs = true) : ss.length ≤ 2 ∧ ∀ i, i < ss.length → SvB (svX ss i).f0 (svX ss i).f1 (svA rs i) (sv0 ss i) := by
  unfold impl_ServersValid.f at hsv
  have hsv := Option.some.inj hsv
  rw [Bool.and_eq_true, List.all_eq_true] at hsv
  rw [List.all_eq_true] at hok
  refine ⟨of_decide_eq_true hsv.1, fun i hi => ?_⟩
  have h1 : svX ss i ∈ ss := by
    unfold svX
    rw [List.getD_eq_getElem?_getD, List.getElem?_eq_getElem hi]
    exact List.getElem_mem hi
  have h2 : svA rs i ∈ rs := by
    unfold svA
    rw [List.getD_eq_getElem?_getD, List.getElem?_eq_getElem (by omega)]
    exact List.getElem_mem _
  have h3 := hsv.2 _ h1
  have h4 := hok _ h2
  unfold okServer at h3
  have h3 := of_decide_eq_true h3
  unfold okArrs at h4
  rw [Bool.and_eq_true, List.all_eq_true] at h4
  have h5 := of_decide_eq_true h4.2
  refine ⟨h3.1, h3.2.1, h3.2.2, h5, fun j h0 h1 => ?_, h3.1, Int.le_refl _, Int.le_refl _, by show (0 : Int) ≤ 1000 + 100 * (20 * 0 + 0); omega, Int.le_refl _, Int.le_refl _, by show (0 : Int) ≤ _; omega, Int.le_refl _, fun h => by have h : (0 : Int) < 0 := h; omega, fun _ => rfl⟩
  have h6 := h4.1 j.toNat (List.mem_range.2 (by omega))
  unfold okArr at h6
  have h6 := of_decide_eq_true h6
  have e : rd_T164 (svA rs i) j = arr (svA rs i) j.toNat := rfl
  rw [e]
  omega
section
variable {w0 W W2 : World} {base gb g4 wb gw go gr : Nat} {A : Option Addr} {c : Nat} {jobs : List (S67)} {qs : List Nat} {ss : List (S109)} {rs : List (List (S164))} {RV : List Value} {cv : Value} {us : List Value}
/-- All servers are made: the simulation may begin. -/
theorem SrvI.start (hO : SrvO w0 W base gb g4 go gr A jobs.length c rs ss.length cv us ss.length) (hW : SrvW W base wb gw qs ss RV ss.length) (hb : ∀ i, i < ss.length → SvB (svX ss i).f0 (svX ss i).f1 (svA rs i) (sv0 ss i)) : SrvI W base gb wb gw go gr A c jobs qs ss rs RV cv us (srv00 ss rs) where
  bj := hO.bj
  bw := hW.bw
  bp := by
    obtain ⟨cs, h1, h2, _⟩ := hW.bp
    exact ⟨cs, h1, h2⟩
  bo := hO.bo
  rows := hO.rows
  chr := hO.chr
  sv := fun i hi => by
    show SvM W _ _ _ _ ((svL0 ss).getD i zSv)
    rw [svL0_at ss i hi]
    exact hW.sv i hi
  svb := fun i hi => by
    show SvB _ _ _ ((svL0 ss).getD i zSv)
    rw [svL0_at ss i hi]
    exact hb i hi
  ls := by show (svL0 ss).length = _; unfold svL0; simp
  lc := by show (List.replicate 120 (-1 : Int)).length = 120; simp
  ld := by show (rowI rs ss.length ss.length).length = _; rw [rowI_len]
  le := fun i hi => by
    show ((rowI rs ss.length ss.length).getD i []).length = _
    rw [rowI_at _ _ _ _ hi, if_pos hi, List.length_replicate]
end

end Go.Proofs.Ytonifhkplniblaa.Print
