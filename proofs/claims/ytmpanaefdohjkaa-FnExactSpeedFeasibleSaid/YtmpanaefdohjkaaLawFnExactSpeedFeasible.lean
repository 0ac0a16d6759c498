/- The row of FnExactSpeedFeasible: for every input the law returns true, and each argument reads behind the call as it read before. No condition. -/
import Derived.Test.YtmpanaefdohjkaaRows
import Derived.Test.YtmpanaefdohjkaaGEnter
import Derived.Test.YtmpanaefdohjkaaGLifts
import Derived.Test.YtmpanaefdohjkaaGMake
import Derived.Test.YtmpanaefdohjkaaPSFnExactSpeedFeasible
import Derived.Test.YtmpanaefdohjkaaPureFnExactSpeedFeasible
import Derived.WalkKit
import Derived.ProofKit
import Derived.OpenShut
import Derived.ShutString
import Derived.ChangeOld
import Derived.Below
import Derived.SizedLaws
import Derived.Lib.SmallJoins
namespace Go.Proofs.Ytmpanaefdohjkaa.fnExactSpeedFeasible
open Go.ChangeShapes Go.WideShapes Go.ChangeAt Go.RowKit
open Go.ChangeMaps (open_string shut_string)
open Go.Proofs.Ytmpanaefdohjkaa.Print Go.Proofs.Ytmpanaefdohjkaa.Opens Go.Proofs.YtmpanaefdohjkaaW.PrintWords Go.Proofs.YtmpanaefdohjkaaW.PrintLast
set_option linter.unusedVariables false
set_option linter.unusedSimpArgs false
theorem pureHolds : PureFnExactSpeedFeasible := FnExactSpeedFeasible_pure
theorem own : ownKnob Try.prog.godebug = none := by kernel_rfl
theorem laidOut : laidOutB Try.prog = true := by kernel_rfl
set_option maxRecDepth 100000 in
set_option maxHeartbeats 1000000 in
theorem lifted (os : Os) (started : os.Started) (H : Type) (enc : TypeId × Value → H) :
    ReturnsInHanded {} Try.checked os 10 .any (Rows.fnExactSpeedFeasibleSpec.pre6 enc Try.prog Try.f10 Rows.fnExactSpeedFeasibleRow.domain false) (Rows.fnExactSpeedFeasibleSpec.post enc Try.prog Try.f10 false true false false) := by
  refine returnsInHanded_of_change_sized (C := Try.checked) own started (by kernel_rfl) Try.func10
    (ChangeSpec.witness6 (enc := enc) (C := Try.checked) false ⟨#[], #[.slice none 0 0, .int .i64 0, .int .i64 0], []⟩ 8 (by kernel_rfl) (by kernel_rfl) (by kernel_rfl) (by kernel_rfl)) ?_
  intro W base args ds gs before hval0 hW hcnd hsz0 _
  have hval : ∀ (j : Nat) t v, Try.f10.params[j]? = some t → args[j]? = some v → Value.okWide Try.prog W .any base t v := hval0
  have hW' := hW
  obtain ⟨p, q, hA0, hV, rfl, hfz, hnd⟩ := hW
  have hA : DataW.TrodAll enc Try.prog W 0 (fun _ => true) true Try.f10.params.toList args.toList ds p := hA0
  rw [Try.params10] at hA hval
  obtain ⟨v0, vs0, d0, ds0, p0, q0, hargs, rfl, rfl, h0, r0⟩ := trodAll_cons hA
  obtain ⟨v1, vs1, d1, ds1, p1, q1, rfl, rfl, rfl, h1, r1⟩ := trodAll_cons r0
  obtain ⟨v2, vs2, d2, ds2, p2, q2, rfl, rfl, rfl, h2, r2⟩ := trodAll_cons r1
  obtain ⟨rfl, rfl, rfl⟩ := trodAll_nil r2
  obtain rfl : args = #[v0, v1, v2] := by cases args; simp_all
  obtain ⟨rfl, rfl⟩ := trodVars_none hV
  have g0 := h0
  have lt0 : ∀ x ∈ p0, x.block < W.heap.size := by obtain ⟨m, hm⟩ := g0; exact DataW.trod_lt m _ _ _ hm
  obtain ⟨b0, len0, cap0, rfl⟩ := okWide_slice Try.underlying29 (hval 0 29 v0 rfl rfl)
  obtain ⟨fu0, hf0⟩ := h0
  obtain ⟨x0, ⟨A0, c0, e0, hc0, hr0⟩, w0⟩ := (Opens.slice 24 Try.underlying29 (by kernel_rfl) (o24 W) : Opens Try.prog W 29 (Kd.slice 24 k24) (wfL wf24)) H enc fu0 _ _ hf0
  simp only [Value.cells, List.cons.injEq, and_true] at e0
  injection e0 with ea0 en0 ec0
  subst ea0 en0 ec0
  have g1 := h1
  have lt1 : ∀ x ∈ p1, x.block < W.heap.size := by obtain ⟨m, hm⟩ := g1; exact DataW.trod_lt m _ _ _ hm
  obtain ⟨x1, rfl, rfl, rfl, y1⟩ := open_int Try.underlying3 (hval 1 3 v1 rfl rfl) h1
  have w1 : wfI x1 := by simp [Lit.wf, IntKind.min, IntKind.max, IntKind.signed, IntKind.bits] at y1; unfold wfI; omega
  have g2 := h2
  have lt2 : ∀ x ∈ p2, x.block < W.heap.size := by obtain ⟨m, hm⟩ := g2; exact DataW.trod_lt m _ _ _ hm
  obtain ⟨x2, rfl, rfl, rfl, y2⟩ := open_int Try.underlying3 (hval 2 3 v2 rfl rfl) h2
  have w2 : wfI x2 := by simp [Lit.wf, IntKind.min, IntKind.max, IntKind.signed, IntKind.bits] at y2; unfold wfI; omega
  clear hA0 hval0 hsz0
  obtain ⟨k, hp⟩ := pureHolds x0 x1 x2 w0 w1 w2
  refine (laws_FnExactSpeedFeasible.calls k _ _ x0 x1 x2 true W hr0 hc0 hp).mono fun e W' ⟨he, bel0⟩ => ?_
  have bel := bel0
  subst he
  exact ⟨_, rfl, _, _, _, [], _, [], hW', trodAll_mk1 (shut_bool Try.underlying4 _), (trodAll_cons_mk (Below.trod laidOut (by kernel_rfl) (of_decide_eq_true (by kernel_rfl)) g0 bel lt0) (trodAll_cons_mk (Below.trod laidOut (by kernel_rfl) (of_decide_eq_true (by kernel_rfl)) g1 bel lt1) (trodAll_cons_mk (Below.trod laidOut (by kernel_rfl) (of_decide_eq_true (by kernel_rfl)) g2 bel lt2) trodAll_mk0))), rfl, bel.frame _, fun h => by cases h⟩
set_option maxRecDepth 100000 in
theorem closed : joinedFacts Try.prog 10 Try.f10 Rows.fnExactSpeedFeasibleSpec Rows.fnExactSpeedFeasibleRow = true := by
  have e1 := Go.Proofs.Ytmpanaefdohjkaa.gLifts Rows.fnExactSpeedFeasibleRow rfl
  have e2 := Go.Proofs.Ytmpanaefdohjkaa.gMake Rows.fnExactSpeedFeasibleRow rfl
  unfold joinedFacts
  repeat (first | with_reducible refine Go.Proofs.Ytmpanaefdohjkaa.band ?_ ?_ | with_reducible exact Go.Proofs.Ytmpanaefdohjkaa.gEnter | with_reducible exact e1 | with_reducible exact e2 | kernel_rfl)
theorem over : Rows.fnExactSpeedFeasibleRow.holds Try.pinned (OpenSpec.ofChange Rows.fnExactSpeedFeasibleSpec) :=
  OpenClaim.holds_of_wide 10 Try.f10 rfl rfl rfl rfl rfl rfl rfl ⟨rfl, rfl, rfl, rfl, rfl⟩ rfl rfl rfl rfl rfl (by kernel_rfl) Try.func10 closed
    (of_decide_eq_true (by kernel_rfl)) (by unfold Func.isWrapper; first | (rw [if_pos (by decide +kernel)]; kernel_rfl) | (rw [if_neg (by decide +kernel)]; exact ⟨rfl, rfl⟩))
    (fun os started H enc _ => lifted os started H enc)
theorem proved : Rows.FnExactSpeedFeasibleSaid := over
end Go.Proofs.Ytmpanaefdohjkaa.fnExactSpeedFeasible
namespace Go.Proofs.Ytmpanaefdohjkaa
/-- The row, under a short name, for the claim. -/
theorem fnExactSpeedFeasible_holds : Rows.FnExactSpeedFeasibleSaid := fnExactSpeedFeasible.proved
end Go.Proofs.Ytmpanaefdohjkaa
