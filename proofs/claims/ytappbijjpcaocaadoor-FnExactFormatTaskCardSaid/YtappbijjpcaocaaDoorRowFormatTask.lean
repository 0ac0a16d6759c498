/- FnExactFormatTask: for every task the law returns true, and the task reads behind the call as it read before: the row, and its tied card. Condition: the three listed tables of Go's library are as the program's text lays them (tied by the given tie). -/
import Derived.Test.YtappbijjpcaocaaDoorCards
import Derived.Test.YtappbijjpcaocaaDoorTie
import Derived.Test.YtappbijjpcaocaaDoorGEnter
import Derived.Test.YtappbijjpcaocaaDoorGLifts
import Derived.Test.YtappbijjpcaocaaDoorGMake
import Derived.Test.YtappbijjpcaocaaDoorPSFnExactFormatTask
import Derived.Test.YtappbijjpcaocaaDoorPureFnExactFormatTask
import Derived.WalkKit
import Derived.ProofKit
import Derived.OpenShut
import Derived.ShutString
import Derived.ChangeOld
import Derived.Below
import Derived.SizedLaws
import Derived.Lib.SmallJoins
import Derived.LaidMore
import Derived.Stop.Joined
import Derived.SevenTiedAt
namespace Go.Proofs.YtappbijjpcaocaaDoor.fnExactFormatTask
open Go.ChangeShapes Go.WideShapes Go.ChangeAt Go.RowKit
open Go.ChangeMaps (open_string shut_string)
open Go.Proofs.YtappbijjpcaocaaDoor.Print Go.Proofs.YtappbijjpcaocaaDoor.Opens Go.Proofs.YtappbijjpcaocaaDoorW.PrintWords Go.Proofs.YtappbijjpcaocaaDoorW.PrintLast
set_option linter.unusedVariables false
set_option linter.unusedSimpArgs false
theorem pureHolds : PureFnExactFormatTask := FnExactFormatTask_pure
theorem own : ownKnob Tryd.prog.godebug = none := by kernel_rfl
theorem laidOut : laidOutB Tryd.prog = true := by kernel_rfl
/-- The door's own heap meets the condition. -/
theorem door_met (os : Os) (args : Array Value) : laidMetH Tryd.prog Rows.fnExactFormatTaskRow.laid ((World.doorLaid Tryd.prog 24 os).forCall (fun _ _ => 0) ⟨#[], args, []⟩).memory :=
  laidMetH_of_parts3 (fuel := 8) (laidMet_of_run' 8 (by kernel_rfl) (by kernel_rfl)) (by kernel_rfl) (by kernel_rfl)
set_option maxRecDepth 100000 in
set_option maxHeartbeats 1000000 in
theorem lifted (os : Os) (started : os.Started) (H : Type) (enc : TypeId × Value → H) :
    ReturnsInHanded {} Tryd.checked os 3 .any (fun w args => (Rows.fnExactFormatTaskSpec.pre enc Tryd.prog Tryd.f3 [] false w args ∧ laidMetH Tryd.prog Rows.fnExactFormatTaskRow.laid w) ∧ sizedMet enc Tryd.prog Tryd.f3 (OpenSpec.ofChange Rows.fnExactFormatTaskSpec) false w args)
      (Rows.fnExactFormatTaskSpec.post enc Tryd.prog Tryd.f3 false true false false) := by
  refine returnsInHanded_of_change_and (C := Tryd.checked) (X := fun w _ => laidMetH Tryd.prog Rows.fnExactFormatTaskRow.laid w) (fun _ _ _ hh h => h.of_heap hh) own started (by kernel_rfl) Tryd.func3
    (ChangeSpec.witness_shaped (enc := enc) (C := Tryd.checked) (os := os) (X := fun w _ => laidMetH Tryd.prog Rows.fnExactFormatTaskRow.laid w) false (World.doorLaid Tryd.prog 24 os) #[.agg #[.int .i64 0, .int .i64 0, .int .i64 0]] 8 rfl (World.shaped_of_RefB (by kernel_rfl) (by kernel_rfl)) (by kernel_rfl) (by kernel_rfl) (by kernel_rfl) (door_met os _)) ?_
  intro W base args ds gs before hval0 hW _ _ hL _
  have hval : ∀ (j : Nat) t v, Tryd.f3.params[j]? = some t → args[j]? = some v → Value.okWide Tryd.prog W .any base t v := hval0
  have hW' := hW
  obtain ⟨p, q, hA0, hV, rfl, hfz, hnd⟩ := hW
  have hA : DataW.TrodAll enc Tryd.prog W 0 (fun _ => true) true Tryd.f3.params.toList args.toList ds p := hA0
  rw [Tryd.params3] at hA hval
  obtain ⟨v0, vs0, d0, ds0, p0, q0, hargs, rfl, rfl, h0, r0⟩ := trodAll_cons hA
  obtain ⟨rfl, rfl, rfl⟩ := trodAll_nil r0
  obtain rfl : args = #[v0] := by cases args; simp_all
  obtain ⟨rfl, rfl⟩ := trodVars_none hV
  have g0 := h0
  have lt0 : ∀ x ∈ p0, x.block < W.heap.size := by obtain ⟨m, hm⟩ := g0; exact DataW.trod_lt m _ _ _ hm
  obtain ⟨cs0, rfl, hs0⟩ := okWide_struct Tryd.underlying23 (hval 0 23 v0 rfl rfl)
  obtain ⟨fu0, hf0⟩ := h0
  obtain ⟨x0, hk0, w0⟩ := o23 W H enc fu0 _ _ hf0
  have ek0 := k23_open hk0
  obtain ⟨l0⟩ := cs0
  simp only [Value.cells] at ek0
  subst ek0
  clear hA0 hval0
  obtain ⟨k, hp⟩ := pureHolds x0 w0
  refine (laws_FnExactFormatTask.calls k x0.f0 x0.f1 x0.f2 true W  hp).mono fun e W' ⟨he, bel0⟩ => ?_
  have bel := bel0
  subst he
  exact ⟨_, rfl, _, _, _, [], _, [], hW', trodAll_mk1 (shut_bool Tryd.underlying4 _), (trodAll_cons_mk (Below.trod laidOut (by kernel_rfl) (of_decide_eq_true (by kernel_rfl)) g0 bel lt0) trodAll_mk0), rfl, bel.frame _, fun h => by cases h⟩
set_option maxRecDepth 100000 in
theorem closed : joinedFacts Tryd.prog 3 Tryd.f3 Rows.fnExactFormatTaskSpec Rows.fnExactFormatTaskRow = true := by
  have e1 := Go.Proofs.YtappbijjpcaocaaDoor.gLifts Rows.fnExactFormatTaskRow rfl
  have e2 := Go.Proofs.YtappbijjpcaocaaDoor.gMake Rows.fnExactFormatTaskRow rfl
  unfold joinedFacts
  repeat (first | with_reducible refine Go.Proofs.YtappbijjpcaocaaDoor.band ?_ ?_ | with_reducible exact Go.Proofs.YtappbijjpcaocaaDoor.gEnter | with_reducible exact e1 | with_reducible exact e2 | kernel_rfl)
theorem over : Rows.FnExactFormatTaskSaid :=
  OpenClaim.holds_of_wide 3 Tryd.f3 rfl rfl rfl rfl rfl rfl rfl ⟨rfl, rfl, rfl, rfl, rfl⟩ rfl rfl rfl rfl rfl (by kernel_rfl) Tryd.func3 closed
    (of_decide_eq_true (by kernel_rfl)) (by unfold Func.isWrapper; first | (rw [if_pos (by decide +kernel)]; kernel_rfl) | (rw [if_neg (by decide +kernel)]; exact ⟨rfl, rfl⟩))
    (fun os started H enc _ => lifted os started H enc)
end Go.Proofs.YtappbijjpcaocaaDoor.fnExactFormatTask
namespace Go.Proofs.YtappbijjpcaocaaDoor
open Go
/-- The tied card. -/
theorem fnExactFormatTask_holds : Rows.FnExactFormatTaskCardSaid :=
  Claim7.holds_tied_plain_at .later [] [.data, .data, .data] true (true, "82af8f4c1cca5caa425f1448403cc27490912d31185f529bc9190b80c290eab1") false
    fnExactFormatTask.over (fun _ h => by cases h) (by kernel_rfl) (fun _ h => by cases h) fnExactFormatTask_row_tie rfl ⟨rfl, rfl⟩ (by kernel_rfl) rfl
    (fun f fn hf hfn => by
      obtain rfl : f = 3 := Option.some.inj ((show Tryd.prog.funcNamed "loop.example/deadlinescheduler/laws.FnExactFormatTask" = some 3 by kernel_rfl).symm.trans hf) |>.symm
      obtain rfl : fn = Tryd.f3 := (Option.some.inj (Tryd.func3.symm.trans hfn)).symm
      exact ⟨by kernel_rfl, fun j t ht => by
        rw [Tryd.params3] at ht
        have hm : t ∈ [23] := by simpa using Array.mem_of_getElem? ht
        have hall : ([23].all fun u => !Tryd.prog.wantsStandIn u) = true := by kernel_rfl
        exact (show Tryd.prog.wantsStandIn t = false by simpa using List.all_eq_true.1 hall t hm)⟩)
    (by kernel_rfl)
end Go.Proofs.YtappbijjpcaocaaDoor
