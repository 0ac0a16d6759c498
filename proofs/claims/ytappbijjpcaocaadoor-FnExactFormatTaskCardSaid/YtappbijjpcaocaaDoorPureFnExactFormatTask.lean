/- FnExactFormatTask: the program and the reference write the same text, for all tasks. No condition. -/
import Derived.Test.YtappbijjpcaocaaDoorPSFnExactFormatTask
import Derived.Test.YtappbijjpcaocaaDoorPStrconvItoa10
namespace Go.Proofs.YtappbijjpcaocaaDoor.Print
open Go.RowKit Go.Proofs.YtappbijjpcaocaaDoorW.PrintWords Go.Proofs.YtappbijjpcaocaaDoor.Opens
set_option linter.unusedSimpArgs false
set_option linter.unusedVariables false
theorem itv (a b c : Int) : impl_TaskValid.f a b c = some (decide (1 ≤ a ∧ a ≤ 8 ∧ a ≤ b ∧ b ≤ c ∧ c ≤ 12)) := by
  have h : ∀ x y z : Int, impl_in.f x y z = some (decide (y ≤ x ∧ x ≤ z)) := by
    intro x y z
    unfold impl_in.f
    by_cases h1 : y ≤ x
    · by_cases h2 : x ≤ z <;> simp [h1, h2]
    · simp [h1]
  unfold impl_TaskValid.f
  rw [h, h, Option.bind_some, Option.bind_some]
  by_cases h1 : 1 ≤ a ∧ a ≤ 8
  · rw [decide_eq_true h1, if_pos rfl]
    by_cases h2 : a ≤ b ∧ b ≤ c
    · rw [decide_eq_true h2, if_pos rfl]
      congr 1
      exact decide_eq_decide.2 ⟨fun g => ⟨h1.1, h1.2, h2.1, h2.2, g⟩, fun g => g.2.2.2.2⟩
    · rw [decide_eq_false h2, if_neg (by simp), decide_eq_false (fun g => h2 ⟨g.2.2.1, g.2.2.2.1⟩)]
  · rw [decide_eq_false h1, if_neg (by simp), decide_eq_false (fun g => h1 ⟨g.1, g.2.1⟩)]
theorem stv (a b c : Int) : spec_TaskValid.f a b c = some (decide (1 ≤ a ∧ a ≤ 8 ∧ a ≤ b ∧ b ≤ c ∧ c ≤ 12)) := by
  have h : ∀ x y z : Int, spec_l1In.f x y z = some (decide (y ≤ x ∧ x ≤ z)) := by
    intro x y z
    unfold spec_l1In.f
    by_cases h1 : y ≤ x
    · by_cases h2 : x ≤ z <;> simp [h1, h2]
    · simp [h1]
  unfold spec_TaskValid.f
  rw [h, h, h, Option.bind_some, Option.bind_some, Option.bind_some]
  by_cases h1 : 1 ≤ a ∧ a ≤ 8
  · rw [decide_eq_true h1, if_pos rfl]
    by_cases h2 : a ≤ b ∧ b ≤ c
    · rw [decide_eq_true h2, if_pos rfl]
      congr 1
      exact decide_eq_decide.2 ⟨fun g => ⟨h1.1, h1.2, h2.1, h2.2, g.2⟩, fun g => ⟨by omega, g.2.2.2.2⟩⟩
    · rw [decide_eq_false h2, if_neg (by simp), decide_eq_false (fun g => h2 ⟨g.2.2.1, g.2.2.2.1⟩)]
  · rw [decide_eq_false h1, if_neg (by simp), decide_eq_false (fun g => h1 ⟨g.1, g.2.1⟩)]
theorem plain_small (n : Nat) (h : n ≤ 12) : spec_l10Plain.f 3 (n : Int) = some ⟨(Lib.decDigits n).toArray⟩ ∧ (⟨(Lib.decDigits n).toArray⟩ : ByteArray).size ≤ 100 := by
  have hc : n = 0 ∨ n = 1 ∨ n = 2 ∨ n = 3 ∨ n = 4 ∨ n = 5 ∨ n = 6 ∨ n = 7 ∨ n = 8 ∨ n = 9 ∨ n = 10 ∨ n = 11 ∨ n = 12 := by omega
  rcases hc with rfl | rfl | rfl | rfl | rfl | rfl | rfl | rfl | rfl | rfl | rfl | rfl | rfl
  all_goals exact ⟨by decide +kernel, by decide +kernel⟩
theorem itoa_small (n : Nat) (h : n ≤ 12) : strconv_Itoa_10.f (n : Int) = some ⟨(Lib.decDigits n).toArray⟩ := by
  unfold strconv_Itoa_10.f
  rw [if_pos (by omega), Int.toNat_natCast]
theorem FnExactFormatTask_pure : PureFnExactFormatTask := by
  intro x0 _
  refine ⟨3, ?_⟩
  obtain ⟨a, b, c⟩ := x0
  show laws_FnExactFormatTask.f 3 a b c = some true
  unfold laws_FnExactFormatTask.f laws_toTask.f spec_FormatTask.f impl_FormatTask.f
  simp only [Option.bind_some]
  rw [itv, stv]
  simp only [Option.bind_some]
  by_cases h : 1 ≤ a ∧ a ≤ 8 ∧ a ≤ b ∧ b ≤ c ∧ c ≤ 12
  · rw [decide_eq_true h]
    obtain ⟨m, rfl⟩ : ∃ m : Nat, a = (m : Int) := ⟨a.toNat, by omega⟩
    obtain ⟨p, rfl⟩ : ∃ p : Nat, b = (p : Int) := ⟨b.toNat, by omega⟩
    obtain ⟨q, rfl⟩ : ∃ q : Nat, c = (q : Int) := ⟨c.toNat, by omega⟩
    obtain ⟨e1, s1⟩ := plain_small m (by omega)
    obtain ⟨e2, s2⟩ := plain_small p (by omega)
    obtain ⟨e3, s3⟩ := plain_small q (by omega)
    rw [e1, e2, e3, itoa_small m (by omega), itoa_small p (by omega), itoa_small q (by omega)]
    generalize (⟨(Lib.decDigits m).toArray⟩ : ByteArray) = x at s1 ⊢
    generalize (⟨(Lib.decDigits p).toArray⟩ : ByteArray) = y at s2 ⊢
    generalize (⟨(Lib.decDigits q).toArray⟩ : ByteArray) = z at s3 ⊢
    have l1 : (⟨#[116, 97, 115, 107, 32]⟩ : ByteArray).size = 5 := rfl
    have l2 : (⟨#[32]⟩ : ByteArray).size = 1 := rfl
    simp only [Option.bind_some, ByteArray.size_append, l1, l2, if_true]
    rw [if_pos (by omega), if_pos (by omega), if_pos (by omega), if_pos (by omega), if_pos (by omega)]
    try simp only [Option.bind_some, if_true]
    try rw [if_pos (by omega), if_pos (by omega), if_pos (by omega), if_pos (by omega), if_pos (by omega)]
    try simp only [Option.bind_some, if_true]
  · rw [decide_eq_false h]
    simp
end Go.Proofs.YtappbijjpcaocaaDoor.Print
