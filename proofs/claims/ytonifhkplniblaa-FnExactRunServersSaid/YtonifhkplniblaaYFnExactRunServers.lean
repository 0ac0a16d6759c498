/- The row: for every input the law returns true. No condition. -/
import Derived.Test.YtonifhkplniblaaRows
import Derived.Test.YtonifhkplniblaaYFnExactRunServersGEnter
import Derived.Test.YtonifhkplniblaaYFnExactRunServersGLifts
import Derived.Test.YtonifhkplniblaaYFnExactRunServersGMake
import Derived.Test.YtonifhkplniblaaYFnExactRunServersOpens
import Derived.Test.YtonifhkplniblaaYFnExactRunServersX2
import Derived.WalkKit
import Derived.ProofKit
import Derived.OpenShut
import Derived.ShutString
import Derived.ChangeOld
import Derived.Below
import Derived.SizedLaws
import Derived.Lib.SmallJoins
namespace Go.Proofs.Ytonifhkplniblaa.fnExactRunServers
open Go.ChangeShapes Go.WideShapes Go.ChangeAt Go.RowKit
open Go.ChangeMaps (open_string shut_string)
open Go.Proofs.Ytonifhkplniblaa.Print Go.Proofs.Ytonifhkplniblaa.Opens Go.Proofs.YtonifhkplniblaaW.PrintWords Go.Proofs.YtonifhkplniblaaW.PrintLast
set_option linter.unusedVariables false
set_option linter.unusedSimpArgs false
def wf105 (x : S105) : Prop := wfI x.f0 ∧ wfI x.f1 ∧ wfI x.f2
set_option maxRecDepth 100000 in
theorem o105 (w : World) : Opens Try.prog w 105 k105 wf105 :=
  Opens.iso (fun x : S105 => (x.f0, x.f1, x.f2)) (fun a => ⟨a.1, a.2.1, a.2.2⟩) (fun _ => rfl) (fun a h => h) (Opens.struct (tot := 3) Try.underlying105 (by kernel_rfl) (OpensFs.cons (off' := 1) rfl (by kernel_rfl) (Opens.int Try.underlying3) (OpensFs.cons (off' := 2) rfl (by kernel_rfl) (Opens.int Try.underlying3) (OpensFs.last rfl (by kernel_rfl) (Opens.int Try.underlying3)))))
def wf107 (x : S107) : Prop := wfI x.f0 ∧ wfI x.f1 ∧ wfI x.f2 ∧ wfI x.f3
set_option maxRecDepth 100000 in
theorem o107 (w : World) : Opens Try.prog w 107 k107 wf107 :=
  Opens.iso (fun x : S107 => (x.f0, x.f1, x.f2, x.f3)) (fun a => ⟨a.1, a.2.1, a.2.2.1, a.2.2.2⟩) (fun _ => rfl) (fun a h => h) (Opens.struct (tot := 4) Try.underlying107 (by kernel_rfl) (OpensFs.cons (off' := 1) rfl (by kernel_rfl) (Opens.int Try.underlying3) (OpensFs.cons (off' := 2) rfl (by kernel_rfl) (Opens.int Try.underlying3) (OpensFs.cons (off' := 3) rfl (by kernel_rfl) (Opens.int Try.underlying3) (OpensFs.last rfl (by kernel_rfl) (Opens.int Try.underlying3))))))
def wf111 (x : S111) : Prop := wfI x.f0 ∧ wfI x.f1
set_option maxRecDepth 100000 in
theorem o111 (w : World) : Opens Try.prog w 111 k111 wf111 :=
  Opens.iso (fun x : S111 => (x.f0, x.f1)) (fun a => ⟨a.1, a.2⟩) (fun _ => rfl) (fun a h => h) (Opens.struct (tot := 2) Try.underlying111 (by kernel_rfl) (OpensFs.cons (off' := 1) rfl (by kernel_rfl) (Opens.int Try.underlying3) (OpensFs.last rfl (by kernel_rfl) (Opens.int Try.underlying3))))
def wf173 (x : S173) : Prop := wfI x.f0 ∧ wfI x.f1
set_option maxRecDepth 100000 in
theorem o173 (w : World) : Opens Try.prog w 173 k173 wf173 :=
  Opens.iso (fun x : S173 => (x.f0, x.f1)) (fun a => ⟨a.1, a.2⟩) (fun _ => rfl) (fun a h => h) (Opens.struct (tot := 2) Try.underlying173 (by kernel_rfl) (OpensFs.cons (off' := 1) rfl (by kernel_rfl) (Opens.int Try.underlying3) (OpensFs.last rfl (by kernel_rfl) (Opens.int Try.underlying3))))
theorem own : ownKnob Try.prog.godebug = none := by kernel_rfl
theorem laidOut : laidOutB Try.prog = true := by kernel_rfl
set_option maxRecDepth 100000 in
set_option maxHeartbeats 1000000 in
theorem lifted (os : Os) (started : os.Started) (H : Type) (enc : TypeId × Value → H) :
    ReturnsInHanded {} Try.checked os 3 .any (Rows.fnExactRunServersSpec.pre6 enc Try.prog Try.f3 Rows.fnExactRunServersRow.domain false) (Rows.fnExactRunServersSpec.post enc Try.prog Try.f3 false true false false) := by
  refine returnsInHanded_of_change_sized (C := Try.checked) own started (by kernel_rfl) Try.func3
    (ChangeSpec.witness6 (enc := enc) (C := Try.checked) false ⟨#[], #[.slice none 0 0, .slice none 0 0, .slice none 0 0, .slice none 0 0], []⟩ 8 (by kernel_rfl) (by kernel_rfl) (by kernel_rfl) (by kernel_rfl)) ?_
  intro W base args ds gs before hval0 hW hcnd hsz0 _
  have hval : ∀ (j : Nat) t v, Try.f3.params[j]? = some t → args[j]? = some v → Value.okWide Try.prog W .any base t v := hval0
  have hW' := hW
  obtain ⟨p, q, hA0, hV, rfl, hfz, hnd⟩ := hW
  have hA : DataW.TrodAll enc Try.prog W 0 (fun _ => true) true Try.f3.params.toList args.toList ds p := hA0
  rw [Try.params3] at hA hval
  obtain ⟨v0, vs0, d0, ds0, p0, q0, hargs, rfl, rfl, h0, r0⟩ := trodAll_cons hA
  obtain ⟨v1, vs1, d1, ds1, p1, q1, rfl, rfl, rfl, h1, r1⟩ := trodAll_cons r0
  obtain ⟨v2, vs2, d2, ds2, p2, q2, rfl, rfl, rfl, h2, r2⟩ := trodAll_cons r1
  obtain ⟨v3, vs3, d3, ds3, p3, q3, rfl, rfl, rfl, h3, r3⟩ := trodAll_cons r2
  obtain ⟨rfl, rfl, rfl⟩ := trodAll_nil r3
  obtain rfl : args = #[v0, v1, v2, v3] := by cases args; simp_all
  obtain ⟨rfl, rfl⟩ := trodVars_none hV
  have g0 := h0
  have lt0 : ∀ x ∈ p0, x.block < W.heap.size := by obtain ⟨m, hm⟩ := g0; exact DataW.trod_lt m _ _ _ hm
  obtain ⟨b0, len0, cap0, rfl⟩ := okWide_slice Try.underlying22 (hval 0 22 v0 rfl rfl)
  obtain ⟨fu0, hf0⟩ := h0
  obtain ⟨x0, ⟨A0, c0, e0, hc0, hr0⟩, w0⟩ := (Opens.slice 105 Try.underlying22 (by kernel_rfl) (o105 W) : Opens Try.prog W 22 (Kd.slice 105 k105) (wfL wf105)) H enc fu0 _ _ hf0
  simp only [Value.cells, List.cons.injEq, and_true] at e0
  injection e0 with ea0 en0 ec0
  subst ea0 en0 ec0
  have g1 := h1
  have lt1 : ∀ x ∈ p1, x.block < W.heap.size := by obtain ⟨m, hm⟩ := g1; exact DataW.trod_lt m _ _ _ hm
  obtain ⟨b1, len1, cap1, rfl⟩ := okWide_slice Try.underlying23 (hval 1 23 v1 rfl rfl)
  obtain ⟨fu1, hf1⟩ := h1
  obtain ⟨x1, ⟨A1, c1, e1, hc1, hr1⟩, w1⟩ := (Opens.slice 107 Try.underlying23 (by kernel_rfl) (o107 W) : Opens Try.prog W 23 (Kd.slice 107 k107) (wfL wf107)) H enc fu1 _ _ hf1
  simp only [Value.cells, List.cons.injEq, and_true] at e1
  injection e1 with ea1 en1 ec1
  subst ea1 en1 ec1
  have g2 := h2
  have lt2 : ∀ x ∈ p2, x.block < W.heap.size := by obtain ⟨m, hm⟩ := g2; exact DataW.trod_lt m _ _ _ hm
  obtain ⟨b2, len2, cap2, rfl⟩ := okWide_slice Try.underlying24 (hval 2 24 v2 rfl rfl)
  obtain ⟨fu2, hf2⟩ := h2
  obtain ⟨x2, ⟨A2, c2, e2, hc2, hr2⟩, w2⟩ := (Opens.slice 111 Try.underlying24 (by kernel_rfl) (o111 W) : Opens Try.prog W 24 (Kd.slice 111 k111) (wfL wf111)) H enc fu2 _ _ hf2
  simp only [Value.cells, List.cons.injEq, and_true] at e2
  injection e2 with ea2 en2 ec2
  subst ea2 en2 ec2
  have g3 := h3
  have lt3 : ∀ x ∈ p3, x.block < W.heap.size := by obtain ⟨m, hm⟩ := g3; exact DataW.trod_lt m _ _ _ hm
  obtain ⟨b3, len3, cap3, rfl⟩ := okWide_slice Try.underlying25 (hval 3 25 v3 rfl rfl)
  obtain ⟨fu3, hf3⟩ := h3
  obtain ⟨x3, ⟨A3, c3, e3, hc3, hr3⟩, w3⟩ := (Opens.slice 99 Try.underlying25 (by kernel_rfl) (Opens.slice 173 Try.underlying99 (by kernel_rfl) (o173 W)) : Opens Try.prog W 25 (Kd.slice 99 (Kd.slice 173 k173)) (wfL (wfL wf173))) H enc fu3 _ _ hf3
  simp only [Value.cells, List.cons.injEq, and_true] at e3
  injection e3 with ea3 en3 ec3
  subst ea3 en3 ec3
  clear hA0 hval0 hsz0
  refine (slaw_all _ _ x0 _ _ x1 _ _ x2 _ _ x3 W hr0 hc0 hr1 hc1 hr2 hc2 hr3 hc3 w0.1 w1.1 w2.1 w3.1 (fun x hx => (w3.2 x hx).1)).mono fun e W' ⟨he, bel0⟩ => ?_
  have bel := bel0
  subst he
  exact ⟨_, rfl, _, _, _, [], _, [], hW', trodAll_mk1 (shut_bool Try.underlying4 _), (trodAll_cons_mk (Below.trod laidOut (by kernel_rfl) (of_decide_eq_true (by kernel_rfl)) g0 bel lt0) (trodAll_cons_mk (Below.trod laidOut (by kernel_rfl) (of_decide_eq_true (by kernel_rfl)) g1 bel lt1) (trodAll_cons_mk (Below.trod laidOut (by kernel_rfl) (of_decide_eq_true (by kernel_rfl)) g2 bel lt2) (trodAll_cons_mk (Below.trod laidOut (by kernel_rfl) (of_decide_eq_true (by kernel_rfl)) g3 bel lt3) trodAll_mk0)))), rfl, bel.frame _, fun h => by cases h⟩
set_option maxRecDepth 100000 in
theorem closed : joinedFacts Try.prog 3 Try.f3 Rows.fnExactRunServersSpec Rows.fnExactRunServersRow = true := by
  have e1 := Go.Proofs.Ytonifhkplniblaa.gLifts Rows.fnExactRunServersRow rfl
  have e2 := Go.Proofs.Ytonifhkplniblaa.gMake Rows.fnExactRunServersRow rfl
  unfold joinedFacts
  repeat (first | with_reducible refine Go.Proofs.Ytonifhkplniblaa.band ?_ ?_ | with_reducible exact Go.Proofs.Ytonifhkplniblaa.gEnter | with_reducible exact e1 | with_reducible exact e2 | kernel_rfl)
theorem over : Rows.fnExactRunServersRow.holds Try.pinned (OpenSpec.ofChange Rows.fnExactRunServersSpec) :=
  OpenClaim.holds_of_wide 3 Try.f3 rfl rfl rfl rfl rfl rfl rfl ⟨rfl, rfl, rfl, rfl, rfl⟩ rfl rfl rfl rfl rfl (by kernel_rfl) Try.func3 closed
    (of_decide_eq_true (by kernel_rfl)) (by unfold Func.isWrapper; first | (rw [if_pos (by decide +kernel)]; kernel_rfl) | (rw [if_neg (by decide +kernel)]; exact ⟨rfl, rfl⟩))
    (fun os started H enc _ => lifted os started H enc)
theorem proved : Rows.FnExactRunServersSaid := over
end Go.Proofs.Ytonifhkplniblaa.fnExactRunServers
namespace Go.Proofs.Ytonifhkplniblaa
/-- The row, under a short name, for the claim. -/
theorem fnExactRunServers_holds : Rows.FnExactRunServersSaid := fnExactRunServers.proved
end Go.Proofs.Ytonifhkplniblaa
