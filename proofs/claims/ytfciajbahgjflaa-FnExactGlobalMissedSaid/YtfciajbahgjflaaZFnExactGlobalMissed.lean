/- The row: for every input the law returns true. No condition. -/
import Derived.Test.YtfciajbahgjflaaRows
import Derived.Test.YtfciajbahgjflaaGEnter
import Derived.Test.YtfciajbahgjflaaGLifts
import Derived.Test.YtfciajbahgjflaaGMake
import Derived.Test.YtfciajbahgjflaaZFnExactGlobalMissedX0
import Derived.WalkKit
import Derived.ProofKit
import Derived.OpenShut
import Derived.ShutString
import Derived.ChangeOld
import Derived.Below
import Derived.SizedLaws
import Derived.Lib.SmallJoins
namespace Go.Proofs.Ytfciajbahgjflaa.fnExactGlobalMissed
open Go.ChangeShapes Go.WideShapes Go.ChangeAt Go.RowKit
open Go.ChangeMaps (open_string shut_string)
open Go.Proofs.Ytfciajbahgjflaa.Print Go.Proofs.Ytfciajbahgjflaa.Opens Go.Proofs.YtfciajbahgjflaaW.PrintWords Go.Proofs.YtfciajbahgjflaaW.PrintLast
set_option linter.unusedVariables false
set_option linter.unusedSimpArgs false
theorem pureHolds : PureFnExactGlobalMissed := FnExactGlobalMissed_pure
theorem own : ownKnob Try.prog.godebug = none := by kernel_rfl
theorem laidOut : laidOutB Try.prog = true := by kernel_rfl
set_option maxRecDepth 100000 in
set_option maxHeartbeats 1000000 in
theorem lifted (os : Os) (started : os.Started) (H : Type) (enc : TypeId × Value → H) :
    ReturnsInHanded {} Try.checked os 8 .any (Rows.fnExactGlobalMissedSpec.pre6 enc Try.prog Try.f8 Rows.fnExactGlobalMissedRow.domain false) (Rows.fnExactGlobalMissedSpec.post enc Try.prog Try.f8 false true false false) := by
  refine returnsInHanded_of_change_sized (C := Try.checked) own started (by kernel_rfl) Try.func8
    (ChangeSpec.witness6 (enc := enc) (C := Try.checked) false ⟨#[], #[.slice none 0 0, .agg #[.slice none 0 0, .slice none 0 0]], []⟩ 8 (by kernel_rfl) (by kernel_rfl) (by kernel_rfl) (by kernel_rfl)) ?_
  intro W base args ds gs before hval0 hW hcnd hsz0 _
  have hval : ∀ (j : Nat) t v, Try.f8.params[j]? = some t → args[j]? = some v → Value.okWide Try.prog W .any base t v := hval0
  have hW' := hW
  obtain ⟨p, q, hA0, hV, rfl, hfz, hnd⟩ := hW
  have hA : DataW.TrodAll enc Try.prog W 0 (fun _ => true) true Try.f8.params.toList args.toList ds p := hA0
  rw [Try.params8] at hA hval
  obtain ⟨v0, vs0, d0, ds0, p0, q0, hargs, rfl, rfl, h0, r0⟩ := trodAll_cons hA
  obtain ⟨v1, vs1, d1, ds1, p1, q1, rfl, rfl, rfl, h1, r1⟩ := trodAll_cons r0
  obtain ⟨rfl, rfl, rfl⟩ := trodAll_nil r1
  obtain rfl : args = #[v0, v1] := by cases args; simp_all
  obtain ⟨rfl, rfl⟩ := trodVars_none hV
  have g0 := h0
  have lt0 : ∀ x ∈ p0, x.block < W.heap.size := by obtain ⟨m, hm⟩ := g0; exact DataW.trod_lt m _ _ _ hm
  obtain ⟨b0, len0, cap0, rfl⟩ := okWide_slice Try.underlying22 (hval 0 22 v0 rfl rfl)
  obtain ⟨fu0, hf0⟩ := h0
  obtain ⟨x0, ⟨A0, c0, e0, hc0, hr0⟩, w0⟩ := (Opens.slice 79 Try.underlying22 (by kernel_rfl) (o79 W) : Opens Try.prog W 22 (Kd.slice 79 k79) (wfL wf79)) H enc fu0 _ _ hf0
  simp only [Value.cells, List.cons.injEq, and_true] at e0
  injection e0 with ea0 en0 ec0
  subst ea0 en0 ec0
  have g1 := h1
  have lt1 : ∀ x ∈ p1, x.block < W.heap.size := by obtain ⟨m, hm⟩ := g1; exact DataW.trod_lt m _ _ _ hm
  obtain ⟨cs1, rfl, hs1⟩ := okWide_struct Try.underlying62 (hval 1 62 v1 rfl rfl)
  obtain ⟨fu1, hf1⟩ := h1
  obtain ⟨x1, hk1, w1⟩ := o62 W H enc fu1 _ _ hf1
  obtain ⟨A1_0, c1_0, A1_1, c1_1, ek1, hc1_0, hr1_0, hc1_1, hr1_1⟩ := k62_open hk1
  obtain ⟨l1⟩ := cs1
  simp only [Value.cells] at ek1
  subst ek1
  clear hA0 hval0 hsz0
  obtain ⟨k, hp⟩ := pureHolds x0 x1 w0 w1
  refine (laws_FnExactGlobalMissed.calls k _ _ x0 _ _ x1.f0 _ _ x1.f1 true W hr0 hc0 hr1_0 hc1_0 hr1_1 hc1_1 hp).mono fun e W' ⟨he, bel0⟩ => ?_
  have bel := bel0
  subst he
  exact ⟨_, rfl, _, _, _, [], _, [], hW', trodAll_mk1 (shut_bool Try.underlying4 _), (trodAll_cons_mk (Below.trod laidOut (by kernel_rfl) (of_decide_eq_true (by kernel_rfl)) g0 bel lt0) (trodAll_cons_mk (Below.trod laidOut (by kernel_rfl) (of_decide_eq_true (by kernel_rfl)) g1 bel lt1) trodAll_mk0)), rfl, bel.frame _, fun h => by cases h⟩
set_option maxRecDepth 100000 in
theorem closed : joinedFacts Try.prog 8 Try.f8 Rows.fnExactGlobalMissedSpec Rows.fnExactGlobalMissedRow = true := by
  have e1 := Go.Proofs.Ytfciajbahgjflaa.gLifts Rows.fnExactGlobalMissedRow rfl
  have e2 := Go.Proofs.Ytfciajbahgjflaa.gMake Rows.fnExactGlobalMissedRow rfl
  unfold joinedFacts
  repeat (first | with_reducible refine Go.Proofs.Ytfciajbahgjflaa.band ?_ ?_ | with_reducible exact Go.Proofs.Ytfciajbahgjflaa.gEnter | with_reducible exact e1 | with_reducible exact e2 | kernel_rfl)
theorem over : Rows.fnExactGlobalMissedRow.holds Try.pinned (OpenSpec.ofChange Rows.fnExactGlobalMissedSpec) :=
  OpenClaim.holds_of_wide 8 Try.f8 rfl rfl rfl rfl rfl rfl rfl ⟨rfl, rfl, rfl, rfl, rfl⟩ rfl rfl rfl rfl rfl (by kernel_rfl) Try.func8 closed
    (of_decide_eq_true (by kernel_rfl)) (by unfold Func.isWrapper; first | (rw [if_pos (by decide +kernel)]; kernel_rfl) | (rw [if_neg (by decide +kernel)]; exact ⟨rfl, rfl⟩))
    (fun os started H enc _ => lifted os started H enc)
theorem proved : Rows.FnExactGlobalMissedSaid := over
end Go.Proofs.Ytfciajbahgjflaa.fnExactGlobalMissed
namespace Go.Proofs.Ytfciajbahgjflaa
/-- The row, under a short name, for the claim. -/
theorem fnExactGlobalMissed_holds : Rows.FnExactGlobalMissedSaid := fnExactGlobalMissed.proved
end Go.Proofs.Ytfciajbahgjflaa
