/- The row: for every input the law returns true. No condition. -/
import Derived.Test.YtkgloicnfphmoaaGreatDoorCards
import Derived.Test.YtkgloicnfphmoaaGreatDoorTie
import Derived.Test.YtkgloicnfphmoaaGreatDoorYFnExactReportGEnter
import Derived.Test.YtkgloicnfphmoaaGreatDoorYFnExactReportGLifts
import Derived.Test.YtkgloicnfphmoaaGreatDoorYFnExactReportGMake
import Derived.Test.YtkgloicnfphmoaaGreatDoorYFnExactReportOpens
import Derived.Test.YtkgloicnfphmoaaGreatDoorYFnExactReportP6
import Derived.Test.YtkgloicnfphmoaaGreatDoorYFnExactReportX0
import Derived.WalkKit
import Derived.ProofKit
import Derived.OpenShut
import Derived.ShutString
import Derived.ChangeOld
import Derived.Below
import Derived.SizedLaws
import Derived.Lib.SmallJoins
import Derived.Lib.LaidTab
import Derived.LaidMore
import Derived.Lay
import Derived.Shelf.Vars
import Derived.Stop.LaidErr
import Derived.Stop.Joined
import Derived.SevenTiedAt
namespace Go.Proofs.YtkgloicnfphmoaaGreatDoor.fnExactReport
open Go.ChangeShapes Go.WideShapes Go.ChangeAt Go.RowKit
open Go.ChangeMaps (open_string shut_string)
open Go.Proofs.YtkgloicnfphmoaaGreatDoor.Print Go.Proofs.YtkgloicnfphmoaaGreatDoor.Opens Go.Proofs.YtkgloicnfphmoaaGreatDoor.Evs Go.Proofs.YtkgloicnfphmoaaGreatDoorW.PrintWords
set_option linter.unusedVariables false
set_option linter.unusedSimpArgs false
/-- The kit's wrap with a condition on the world, which keeps the world's shape as well. -/
theorem returns_shaped {H : Type} {enc : TypeId × Value → H} {a : Assume} {C : Checked} {os : Os} {f : FuncId} {fn : Func} {s : ChangeSpec} {conds : List PathCond} {apart fresh handsOn again : Bool} {X : World → Array Value → Prop}
    (hX : ∀ (w w' : World) (args : Array Value), w.heap = w'.heap → X w args → X w' args)
    (own : ownKnob C.prog.godebug = none) (started : os.Started) (noInit : C.prog.inits.idxOf? f = none) (hfn : C.prog.funcs[f]? = some fn)
    (witness : ∃ (w : World) (tape : Tape) (i : Input), w.os = os ∧ (w.forCall tape i).Shaped C.prog ∧ i.vars = [] ∧ Input.okWide C.prog (w.forCall tape i) .any w.heap.size f i ∧
      ((s.pre enc C.prog fn conds apart (w.forCall tape i).memory i.args ∧ X (w.forCall tape i).memory i.args) ∧ sizedMet enc C.prog fn (OpenSpec.ofChange s) apart (w.forCall tape i).memory i.args) ∧ a.holds C.prog (lone (Frame.enter C.prog f i.args .normal) [] (w.forCall tape i)))
    (contract : ∀ (W : World) (base : Nat) (args : Array Value) (ds gs : List (DataW H)) (before : List MemPlace),
      (∀ (j : Nat) t v, fn.params[j]? = some t → args[j]? = some v → Value.okWide C.prog W .any base t v) →
      DataW.Whole enc C.prog fn.params.toList s.vars apart W args.toList ds gs before →
      X W args → W.ShapedOpen C.prog →
      Calls C.prog f args W fun e W' => ∃ v, e = .returned v ∧ s.post enc C.prog fn apart fresh handsOn again W args v W') :
    ReturnsInHanded a C os f .any (fun w args => (s.pre enc C.prog fn conds apart w args ∧ X w args) ∧ sizedMet enc C.prog fn (OpenSpec.ofChange s) apart w args) (s.post enc C.prog fn apart fresh handsOn again) := by
  refine returnsInHanded_of_calls own started noInit witness ?_
  intro w tape i _ hsh _ hok hpre _
  obtain ⟨_, _, _, fn', hfn', _, _, _, _, hval⟩ := hok
  have e : fn' = fn := Option.some.inj (hfn'.symm.trans hfn)
  subst e
  obtain ⟨⟨⟨ds, gs, before, hw, _⟩, hx⟩, _⟩ := hpre
  have hw' := DataW.Whole.of_heap (w' := w.forCall tape i) (by rfl) hw
  refine (contract (w.forCall tape i) w.heap.size i.args ds gs before hval hw' (hX _ _ _ (by rfl) hx) hsh).mono fun e W' ⟨v, he, hp⟩ => ?_
  subst he
  exact ChangeSpec.post_blind hp
theorem own : ownKnob Tryz.prog.godebug = none := by kernel_rfl
theorem laidOut : laidOutB Tryz.prog = true := by kernel_rfl
theorem gES : Tryz.prog.globalNamed "strconv.ErrSyntax" = some 0 := by kernel_rfl
theorem gER : Tryz.prog.globalNamed "strconv.ErrRange" = some 1 := by kernel_rfl
theorem tES : (Tryz.prog.globals[0]?).map (·.type) = some 54 := by kernel_rfl
theorem tER : (Tryz.prog.globals[1]?).map (·.type) = some 54 := by kernel_rfl
theorem plainRow : (Rows.fnExactReportRow.laid.all fun x => x.2.handleName?.isNone) = true := by kernel_rfl
theorem star : "*" ++ "errors.errorString" = "*errors.errorString" := by decide
theorem rowES (u : TypeId) (h : Tryz.prog.typeName? 3 u = some "*errors.errorString") : u = 114 :=
  typeName_ptr_named (nm := "errors.errorString") (by rw [star]; kernel_rfl) (by kernel_rfl) (by decide) u (by rw [star]; exact h)
theorem cellsE : Tryz.prog.cellsOf 116 = 1 := by kernel_rfl
theorem cellsS : Tryz.prog.cellsOf 9 = 1 := by kernel_rfl
/-- What the condition and the world's shape give the walk. -/
theorem met {W : World} (hL : laidMetH Tryz.prog Rows.fnExactReportRow.laid W) (hsh : W.ShapedOpen Tryz.prog) : Go.Proofs.YtkgloicnfphmoaaGreatDoor.Print.Met W := by
  rw [MakeChecks.laidMetH_plain _ _ _ plainRow] at hL
  have h2 := hL.tail.tail
  have h4 := h2.tail.tail
  obtain ⟨a1, s1, hv1, -, -, -⟩ := laid_sentinel h4 gER tER Tryz.underlying54 rowES Tryz.underlying114 Tryz.underlying116 rfl rfl Tryz.underlying9 cellsE cellsS
  obtain ⟨a0, s0, hv0, -, -, -⟩ := laid_sentinel h4.tail gES tES Tryz.underlying54 rowES Tryz.underlying114 Tryz.underlying116 rfl rfl Tryz.underlying9 cellsE cellsS
  exact ⟨⟨_, by have h0 := World.var?_cell gES hv0 0; simpa using h0, Or.inr ⟨_, _, rfl⟩⟩, ⟨_, by have h0 := World.var?_cell gER hv1 0; simpa using h0, Or.inr ⟨_, _, rfl⟩⟩,
    cell_of_shapedOpen_int (P := Tryz.prog) (g := 3) (t := 3) (zero := #[.int .i64 0]) hsh (of_decide_eq_true (by kernel_rfl)) (by kernel_rfl) rfl (by kernel_rfl) (by kernel_rfl) Tryz.underlying3, Lib.tabIs_of_head (t := 104) (e := 84) (n := 20) tabAt (by kernel_rfl) Tryz.underlying104 Tryz.underlying84 (by kernel_rfl) (by kernel_rfl) (show laidMet Tryz.prog (("internal/strconv.uint64pow10", Lib.tabData .u64 Lib.pow10Tab) :: _) W from h2)⟩
/-- A start that meets the condition. -/
theorem start_met (os : Os) (args : Array Value) : laidMetH Tryz.prog Rows.fnExactReportRow.laid ((World.laidAll Tryz.prog os Rows.fnExactReportRow.laid).forCall (fun _ _ => 0) ⟨#[], args, []⟩).memory := by
  rw [MakeChecks.laidMetH_plain _ _ _ plainRow]
  exact laidMet_laidAll _ (by kernel_rfl) (by kernel_rfl)
theorem law_ev (l : List ByteArray) (hw : l.length ≤ 9223372036854775807) (hs : ∀ x ∈ l, x.size ≤ 9223372036854775807) : ∃ k, laws_FnExactReport.f k l = some true := by
  apply Tl.once
  unfold laws_FnExactReport.f
  obtain ⟨v, hv, hor⟩ := szStringS_ev l hw hs
  refine Tl.bind hv ?_
  by_cases hn : v < 0
  · exact Tl.iteT hn (Tl.ret _)
  obtain ⟨hl, hz⟩ := hor.resolve_left hn
  refine Tl.iteF hn ?_
  have h4 : (repS l).length ≤ 4 := goS_len l l.length 0 []
  have hM : Tl (fun k => laws_markStringS.f k l 1) (((1 + l.length : Nat) : Int), mkS 1 l.length) := markStringS_ev l 1 (by omega) (by omega) hl
  have hG : Tl (fun k => laws_markStringS.f k (repS l) 1) (((1 + (repS l).length : Nat) : Int), mkS 1 (repS l).length) := markStringS_ev (repS l) 1 (by omega) (by omega) (by omega)
  have hH : Tl (fun k => laws_heldStringS.f k (mkS 1 (repS l).length) 1) ((1 + (repS l).length : Nat) : Int) := heldStringS_ev 1 (repS l).length (by omega) (by omega) (by omega)
  have hS := spec_Report_ev l hl hz
  have hI := impl_Report_ev l hl hz
  have hT := toStringS_ev l hl
  have hE := eqStringS_ev l hl
  have hQ := eqStringS_ev (repS l) (by omega)
  refine Tl.bind hT (Tl.bind hS (Tl.bind hT (Tl.bind hI (Tl.bind hQ (Tl.iteT rfl (Tl.bind hT (Tl.bind hE (Tl.iteT rfl (Tl.bind hM ?_)))))))))
  refine Tl.iteF (by simp only; omega) (Tl.bind hQ (Tl.step ?_))
  simp only [laws_FnExactReport.j0]
  refine Tl.iteF (by simp) (Tl.bind hG (Tl.bind hH ?_))
  refine Tl.iteF (by omega) (Tl.iteT rfl (Tl.bind hT (Tl.bind hI (Tl.bind hQ (Tl.iteT rfl (Tl.bind hH (Tl.iteF (by omega) (Tl.iteT rfl (Tl.ret _)))))))))
set_option maxRecDepth 100000 in
set_option maxHeartbeats 1000000 in
theorem lifted (os : Os) (started : os.Started) (H : Type) (enc : TypeId × Value → H) :
    ReturnsInHanded {} Tryz.checked os 3 .any (fun w args => (Rows.fnExactReportSpec.pre enc Tryz.prog Tryz.f3 [] false w args ∧ laidMetH Tryz.prog Rows.fnExactReportRow.laid w) ∧ sizedMet enc Tryz.prog Tryz.f3 (OpenSpec.ofChange Rows.fnExactReportSpec) false w args)
      (Rows.fnExactReportSpec.post enc Tryz.prog Tryz.f3 false true false false) := by
  refine returns_shaped (C := Tryz.checked) (X := fun w _ => laidMetH Tryz.prog Rows.fnExactReportRow.laid w) (fun _ _ _ hh h => h.of_heap hh) own started (by kernel_rfl) Tryz.func3
    (ChangeSpec.witness_shaped (enc := enc) (C := Tryz.checked) (os := os) (X := fun w _ => laidMetH Tryz.prog Rows.fnExactReportRow.laid w) false (World.laidAll Tryz.prog os Rows.fnExactReportRow.laid) #[.slice none 0 0] 8 (World.laidAll_os _ _ _) (World.shaped_of_ZipB (by kernel_rfl) (by kernel_rfl)) (by kernel_rfl) (by kernel_rfl) (by kernel_rfl) (start_met os _)) ?_
  intro W base args ds gs before hval0 hW hL hsh
  have hval : ∀ (j : Nat) t v, Tryz.f3.params[j]? = some t → args[j]? = some v → Value.okWide Tryz.prog W .any base t v := hval0
  have hW' := hW
  obtain ⟨p, q, hA0, hV, rfl, hfz, hnd⟩ := hW
  have hA : DataW.TrodAll enc Tryz.prog W 0 (fun _ => true) true Tryz.f3.params.toList args.toList ds p := hA0
  rw [Tryz.params3] at hA hval
  obtain ⟨v0, vs0, d0, ds0, p0, q0, hargs, rfl, rfl, h0, r0⟩ := trodAll_cons hA
  obtain ⟨rfl, rfl, rfl⟩ := trodAll_nil r0
  obtain rfl : args = #[v0] := by cases args; simp_all
  obtain ⟨rfl, rfl⟩ := trodVars_none hV
  have g0 := h0
  have lt0 : ∀ x ∈ p0, x.block < W.heap.size := by obtain ⟨m, hm⟩ := g0; exact DataW.trod_lt m _ _ _ hm
  obtain ⟨b0, len0, cap0, rfl⟩ := okWide_slice Tryz.underlying22 (hval 0 22 v0 rfl rfl)
  obtain ⟨fu0, hf0⟩ := h0
  obtain ⟨x0, ⟨A0, c0, e0, hc0, hr0⟩, w0⟩ := (Opens.slice 9 Tryz.underlying22 (by kernel_rfl) (Opens.string Tryz.underlying9) : Opens Tryz.prog W 22 (Kd.slice 9 Kd.string) (wfL wfS)) H enc fu0 _ _ hf0
  simp only [Value.cells, List.cons.injEq, and_true] at e0
  injection e0 with ea0 en0 ec0
  subst ea0 en0 ec0
  obtain ⟨k, hp⟩ := law_ev x0 w0.1 w0.2
  refine (laws_FnExactReport.calls k _ _ x0 true W hr0 hc0 hp (met hL hsh)).mono fun e W' ⟨he, bel⟩ => ?_
  subst he
  exact ⟨_, rfl, _, _, _, [], _, [], hW', trodAll_mk1 (shut_bool Tryz.underlying4 _), (trodAll_cons_mk (Below.trod laidOut (by kernel_rfl) (of_decide_eq_true (by kernel_rfl)) g0 bel lt0) trodAll_mk0), rfl, bel.frame _, fun h => by cases h⟩
set_option maxRecDepth 100000 in
theorem closed : joinedFacts Tryz.prog 3 Tryz.f3 Rows.fnExactReportSpec Rows.fnExactReportRow = true := by
  have e1 := Go.Proofs.YtkgloicnfphmoaaGreatDoor.gLifts Rows.fnExactReportRow rfl
  have e2 := Go.Proofs.YtkgloicnfphmoaaGreatDoor.gMake Rows.fnExactReportRow rfl
  unfold joinedFacts
  repeat (first | with_reducible refine Go.Proofs.YtkgloicnfphmoaaGreatDoor.band ?_ ?_ | with_reducible exact Go.Proofs.YtkgloicnfphmoaaGreatDoor.gEnter | with_reducible exact e1 | with_reducible exact e2 | kernel_rfl)
theorem over : Rows.FnExactReportSaid :=
  OpenClaim.holds_of_wide 3 Tryz.f3 rfl rfl rfl rfl rfl rfl rfl ⟨rfl, rfl, rfl, rfl, rfl⟩ rfl rfl rfl rfl rfl (by kernel_rfl) Tryz.func3 closed
    (of_decide_eq_true (by kernel_rfl)) (by unfold Func.isWrapper; first | (rw [if_pos (by decide +kernel)]; kernel_rfl) | (rw [if_neg (by decide +kernel)]; exact ⟨rfl, rfl⟩))
    (fun os started H enc _ => lifted os started H enc)
end Go.Proofs.YtkgloicnfphmoaaGreatDoor.fnExactReport
namespace Go.Proofs.YtkgloicnfphmoaaGreatDoor
open Go
/-- The tied card. -/
theorem fnExactReport_holds : Rows.FnExactReportCardSaid :=
  Claim7.holds_tied_plain_at .later [] [.data, .data, .data, .data, .sentinel, .sentinel, .pinned] true (true, "d0c69bcdb95d37a636c64f0dc3e1550fa872f42a8a9b376ea41eb651a92fa5cf") true
    fnExactReport.over (fun _ h => by cases h) (by kernel_rfl) (fun _ h => by cases h) fnExactReport_row_tie rfl ⟨rfl, rfl⟩ (by kernel_rfl) rfl
    (fun f fn hf hfn => by
      obtain rfl : f = 3 := Option.some.inj ((show Tryz.prog.funcNamed "loop.example/deadlinescheduler/laws.FnExactReport" = some 3 by kernel_rfl).symm.trans hf) |>.symm
      obtain rfl : fn = Tryz.f3 := (Option.some.inj (Tryz.func3.symm.trans hfn)).symm
      exact ⟨by kernel_rfl, fun j t ht => by
        rw [Tryz.params3] at ht
        have hm : t ∈ [22] := by simpa using Array.mem_of_getElem? ht
        have hall : ([22].all fun u => !Tryz.prog.wantsStandIn u) = true := by kernel_rfl
        exact (show Tryz.prog.wantsStandIn t = false by simpa using List.all_eq_true.1 hall t hm)⟩)
    (by kernel_rfl)
end Go.Proofs.YtkgloicnfphmoaaGreatDoor
