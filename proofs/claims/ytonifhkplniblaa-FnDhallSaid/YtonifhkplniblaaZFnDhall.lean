/- The row: for every input the law returns true. No condition. -/
import Derived.Test.YtonifhkplniblaaRows
import Derived.Test.YtonifhkplniblaaGEnter
import Derived.Test.YtonifhkplniblaaGLifts
import Derived.Test.YtonifhkplniblaaGMake
import Derived.Test.YtonifhkplniblaaOpens
import Derived.Test.YtonifhkplniblaaZFnDhallX0
import Derived.WalkKit
import Derived.ProofKit
import Derived.OpenShut
import Derived.ShutString
import Derived.ChangeOld
import Derived.Below
import Derived.SizedLaws
import Derived.Lib.SmallJoins
namespace Go.Proofs.Ytonifhkplniblaa.fnDhall
open Go.ChangeShapes Go.WideShapes Go.ChangeAt Go.RowKit
open Go.ChangeMaps (open_string shut_string)
open Go.Proofs.Ytonifhkplniblaa.Print Go.Proofs.Ytonifhkplniblaa.Opens Go.Proofs.YtonifhkplniblaaW.PrintWords Go.Proofs.YtonifhkplniblaaW.PrintLast
set_option linter.unusedVariables false
set_option linter.unusedSimpArgs false
theorem own : ownKnob Try.prog.godebug = none := by kernel_rfl
theorem laidOut : laidOutB Try.prog = true := by kernel_rfl
set_option maxRecDepth 100000 in
set_option maxHeartbeats 1000000 in
theorem lifted (os : Os) (started : os.Started) (H : Type) (enc : TypeId × Value → H) :
    ReturnsInHanded {} Try.checked os 9 .any (Rows.fnDhallSpec.pre6 enc Try.prog Try.f9 Rows.fnDhallRow.domain false) (Rows.fnDhallSpec.post enc Try.prog Try.f9 false true false false) := by
  refine returnsInHanded_of_change_sized (C := Try.checked) own started (by kernel_rfl) Try.func9
    (ChangeSpec.witness6 (enc := enc) (C := Try.checked) false ⟨#[], #[.slice none 0 0], []⟩ 8 (by kernel_rfl) (by kernel_rfl) (by kernel_rfl) (by kernel_rfl)) ?_
  intro W base args ds gs before hval0 hW hcnd hsz0 _
  have hval : ∀ (j : Nat) t v, Try.f9.params[j]? = some t → args[j]? = some v → Value.okWide Try.prog W .any base t v := hval0
  have hW' := hW
  obtain ⟨p, q, hA0, hV, rfl, hfz, hnd⟩ := hW
  have hA : DataW.TrodAll enc Try.prog W 0 (fun _ => true) true Try.f9.params.toList args.toList ds p := hA0
  rw [Try.params9] at hA hval
  obtain ⟨v0, vs0, d0, ds0, p0, q0, hargs, rfl, rfl, h0, r0⟩ := trodAll_cons hA
  obtain ⟨rfl, rfl, rfl⟩ := trodAll_nil r0
  obtain rfl : args = #[v0] := by cases args; simp_all
  obtain ⟨rfl, rfl⟩ := trodVars_none hV
  have g0 := h0
  have lt0 : ∀ x ∈ p0, x.block < W.heap.size := by obtain ⟨m, hm⟩ := g0; exact DataW.trod_lt m _ _ _ hm
  obtain ⟨b0, len0, cap0, rfl⟩ := okWide_slice Try.underlying60 (hval 0 60 v0 rfl rfl)
  obtain ⟨fu0, hf0⟩ := h0
  obtain ⟨x0, ⟨A0, c0, e0, hc0, hr0⟩, w0⟩ := (Opens.slice 5 Try.underlying60 (by kernel_rfl) (Opens.byte Try.underlying5) : Opens Try.prog W 60 (Kd.slice 5 (Kd.int .u8)) (wfL wfI)) H enc fu0 _ _ hf0
  simp only [Value.cells, List.cons.injEq, and_true] at e0
  injection e0 with ea0 en0 ec0
  subst ea0 en0 ec0
  clear hA0 hval0 hsz0
  refine (laws_FnDhall.calls _ _ x0 W hr0 hc0).mono fun e W' ⟨he, bel0⟩ => ?_
  have bel := bel0
  subst he
  exact ⟨_, rfl, _, _, _, [], _, [], hW', trodAll_mk1 (shut_bool Try.underlying4 _), (trodAll_cons_mk (Below.trod laidOut (by kernel_rfl) (of_decide_eq_true (by kernel_rfl)) g0 bel lt0) trodAll_mk0), rfl, bel.frame _, fun h => by cases h⟩
set_option maxRecDepth 100000 in
theorem closed : joinedFacts Try.prog 9 Try.f9 Rows.fnDhallSpec Rows.fnDhallRow = true := by
  have e1 := Go.Proofs.Ytonifhkplniblaa.gLifts Rows.fnDhallRow rfl
  have e2 := Go.Proofs.Ytonifhkplniblaa.gMake Rows.fnDhallRow rfl
  unfold joinedFacts
  repeat (first | with_reducible refine Go.Proofs.Ytonifhkplniblaa.band ?_ ?_ | with_reducible exact Go.Proofs.Ytonifhkplniblaa.gEnter | with_reducible exact e1 | with_reducible exact e2 | kernel_rfl)
theorem over : Rows.fnDhallRow.holds Try.pinned (OpenSpec.ofChange Rows.fnDhallSpec) :=
  OpenClaim.holds_of_wide 9 Try.f9 rfl rfl rfl rfl rfl rfl rfl ⟨rfl, rfl, rfl, rfl, rfl⟩ rfl rfl rfl rfl rfl (by kernel_rfl) Try.func9 closed
    (of_decide_eq_true (by kernel_rfl)) (by unfold Func.isWrapper; first | (rw [if_pos (by decide +kernel)]; kernel_rfl) | (rw [if_neg (by decide +kernel)]; exact ⟨rfl, rfl⟩))
    (fun os started H enc _ => lifted os started H enc)
theorem proved : Rows.FnDhallSaid := over
end Go.Proofs.Ytonifhkplniblaa.fnDhall
namespace Go.Proofs.Ytonifhkplniblaa
/-- The row, under a short name, for the claim. -/
theorem fnDhall_holds : Rows.FnDhallSaid := fnDhall.proved
end Go.Proofs.Ytonifhkplniblaa
