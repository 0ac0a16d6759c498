/- Functions of the translation as plain Lean functions, and their contracts. No condition. -/
import Derived.Test.YtkgloicnfphmoaaGreatDoorYFnExactReportPB
import Derived.Test.YtkgloicnfphmoaaGreatDoorYFnExactReportP2
import Derived.Test.YtkgloicnfphmoaaGreatDoorYFnExactReportP5
namespace Go.Proofs.YtkgloicnfphmoaaGreatDoor.Print
open Go.RowKit Go.Proofs.YtkgloicnfphmoaaGreatDoorW.PrintWords Go.Proofs.YtkgloicnfphmoaaGreatDoorW.PrintLast Go.Proofs.YtkgloicnfphmoaaGreatDoorW.PrintMore
attribute [local go_sem] max2_int min2_int max_two min_two max_three min_three max_four min_four   -- for this text's walks alone
set_option linter.unusedVariables false
set_option linter.unusedSimpArgs false

/-! ### laws_FnExactReport: function 3 -/
def laws_FnExactReport.j0 : Nat → List ByteArray → List ByteArray → List ByteArray → Bool → Option (Bool)
  | 0, _, _, _, _ => none
  | k + 1, x0, x4, x6, x42 => if x42 = true then (some false) else ((laws_markStringS.f k x6 1).bind fun bt122 => ((laws_heldStringS.f k bt122.2 1).bind fun t124 => (if t124 < 0 then (some false) else (if t124 = bt122.1 then ((laws_toStringS.f k x0).bind fun t125 => ((impl_Report.f k t125).bind fun t128 => ((laws_eqStringS.f k t128 x4).bind fun t131 => (if t131 = true then ((laws_heldStringS.f k bt122.2 1).bind fun t132 => (if t132 < 0 then (some false) else (if t132 = bt122.1 then (some true) else (some false)))) else (some false))))) else (some false)))))
def laws_FnExactReport.f (k : Nat) (l0 : List ByteArray) : Option (Bool) := (laws_szStringS.f k l0 1048576).bind fun t101 => (if t101 < 0 then (some true) else ((laws_toStringS.f k l0).bind fun t102 => ((spec_Report.f k t102).bind fun t105 => ((laws_toStringS.f k l0).bind fun t108 => ((impl_Report.f k t108).bind fun t111 => ((laws_eqStringS.f k t111 t105).bind fun t114 => (if t114 = true then ((laws_toStringS.f k l0).bind fun t115 => ((laws_eqStringS.f k t108 t115).bind fun t118 => (if t118 = true then ((laws_markStringS.f k t108 1).bind fun bt119 => (if bt119.1 < 0 then (laws_FnExactReport.j0 k l0 t105 t111 true) else ((laws_eqStringS.f k t111 t105).bind fun t121 => (laws_FnExactReport.j0 k l0 t105 t111 (!t121))))) else (some false)))) else (some false))))))))
set_option maxHeartbeats 8000000 in
set_option maxRecDepth 100000 in
theorem laws_FnExactReport.calls (k : Nat) (A0 : Option Addr) (c0 : Nat) (l0 : List ByteArray) (_r : Bool) (w : World) (hr0 : Kd.C Kd.string w A0 l0.length l0) (hc0 : l0.length ≤ c0) (h : laws_FnExactReport.f k l0 = some true) (hm : Met w := by first | exact HM.out.below bq101_106_119) :
    Calls Tryz.prog 3 #[.slice A0 l0.length c0] w fun e w' => e = .returned (.bool true) ∧ Below w.heap.size w w' := by
  have HM := Aside0.mk hm
  clear hm
  have HR0 := Aside0.mk hr0
  have HC0 := Aside0.mk hc0
  clear hr0 hc0
  have HB := Aside0.mk (Below.refl w.heap.size w)
  have H : ((laws_szStringS.f k l0 1048576).bind fun t101 => (if t101 < 0 then (some true) else ((laws_toStringS.f k l0).bind fun t102 => ((spec_Report.f k t102).bind fun t105 => ((laws_toStringS.f k l0).bind fun t108 => ((impl_Report.f k t108).bind fun t111 => ((laws_eqStringS.f k t111 t105).bind fun t114 => (if t114 = true then ((laws_toStringS.f k l0).bind fun t115 => ((laws_eqStringS.f k t108 t115).bind fun t118 => (if t118 = true then ((laws_markStringS.f k t108 1).bind fun bt119 => (if bt119.1 < 0 then (laws_FnExactReport.j0 k l0 t105 t111 true) else ((laws_eqStringS.f k t111 t105).bind fun t121 => (laws_FnExactReport.j0 k l0 t105 t111 (!t121))))) else (some false)))) else (some false))))))))) = some true := h
  clear h
  replace H := Option.bind_eq_some_iff.mp H
  obtain ⟨t101, A20, H⟩ := H
  replace H : (if t101 < 0 then (some true) else ((laws_toStringS.f k l0).bind fun t102 => ((spec_Report.f k t102).bind fun t105 => ((laws_toStringS.f k l0).bind fun t108 => ((impl_Report.f k t108).bind fun t111 => ((laws_eqStringS.f k t111 t105).bind fun t114 => (if t114 = true then ((laws_toStringS.f k l0).bind fun t115 => ((laws_eqStringS.f k t108 t115).bind fun t118 => (if t118 = true then ((laws_markStringS.f k t108 1).bind fun bt119 => (if bt119.1 < 0 then (laws_FnExactReport.j0 k l0 t105 t111 true) else ((laws_eqStringS.f k t111 t105).bind fun t121 => (laws_FnExactReport.j0 k l0 t105 t111 (!t121))))) else (some false)))) else (some false)))))))) = some true := H
  have A2 := Aside0.mk A20
  clear A20
  by_cases c3 : t101 < 0
  · rw [if_pos c3] at H
    have c3b0 : decide (t101 < 0) = true := decide_eq_true c3
    clear c3
    try (obtain rfl := Option.some.inj H)
    go_enter Tryz.func3, Tryz.ntmps3
    go_wp2_with (first | ((with_reducible refine gate_callee (f := 4) rfl ?_); refine goesL_ (some 13) rfl rfl Tryz.func4 (by kernel_rfl) rfl #[.slice A0 l0.length c0, .int .i64 1048576] rfl q1 ?_; (with_reducible refine (laws_szStringS.calls k _ _ l0 1048576 t101 _ ?side1 ?side2 A2.out).mono ?_); (case side1 => repeat (first | exact HR0.out | (with_reducible refine Kd.C_alloc ?_ _) | (with_reducible refine Kd.C_drewN ?_ _) | (with_reducible refine Kd.C_drew ?_))); (case side2 => exact HC0.out); rintro e w' ⟨rfl, ⟨nd, rfl⟩⟩; refine ⟨_, rfl, ?_⟩))
    go_ret
    exact ⟨by first | rfl | (simp [errW_none, errW_some] <;> rfl) | (simp [*, errW_none, errW_some] <;> rfl), by repeat (first | (with_reducible first | exact HB.out | apply below_alloc | apply pw_below_drewN | apply below_drew1) | exact HB.out)⟩
  · rw [if_neg c3] at H
    have c3b0 : decide (t101 < 0) = false := decide_eq_false c3
    clear c3
    replace H := Option.bind_eq_some_iff.mp H
    obtain ⟨t102, A40, H⟩ := H
    replace H : ((spec_Report.f k t102).bind fun t105 => ((laws_toStringS.f k l0).bind fun t108 => ((impl_Report.f k t108).bind fun t111 => ((laws_eqStringS.f k t111 t105).bind fun t114 => (if t114 = true then ((laws_toStringS.f k l0).bind fun t115 => ((laws_eqStringS.f k t108 t115).bind fun t118 => (if t118 = true then ((laws_markStringS.f k t108 1).bind fun bt119 => (if bt119.1 < 0 then (laws_FnExactReport.j0 k l0 t105 t111 true) else ((laws_eqStringS.f k t111 t105).bind fun t121 => (laws_FnExactReport.j0 k l0 t105 t111 (!t121))))) else (some false)))) else (some false)))))) = some true := H
    have A4 := Aside0.mk A40
    clear A40
    replace H := Option.bind_eq_some_iff.mp H
    obtain ⟨t105, A50, H⟩ := H
    replace H : ((laws_toStringS.f k l0).bind fun t108 => ((impl_Report.f k t108).bind fun t111 => ((laws_eqStringS.f k t111 t105).bind fun t114 => (if t114 = true then ((laws_toStringS.f k l0).bind fun t115 => ((laws_eqStringS.f k t108 t115).bind fun t118 => (if t118 = true then ((laws_markStringS.f k t108 1).bind fun bt119 => (if bt119.1 < 0 then (laws_FnExactReport.j0 k l0 t105 t111 true) else ((laws_eqStringS.f k t111 t105).bind fun t121 => (laws_FnExactReport.j0 k l0 t105 t111 (!t121))))) else (some false)))) else (some false))))) = some true := H
    have A5 := Aside0.mk A50
    clear A50
    replace H := Option.bind_eq_some_iff.mp H
    obtain ⟨t108, A60, H⟩ := H
    replace H : ((impl_Report.f k t108).bind fun t111 => ((laws_eqStringS.f k t111 t105).bind fun t114 => (if t114 = true then ((laws_toStringS.f k l0).bind fun t115 => ((laws_eqStringS.f k t108 t115).bind fun t118 => (if t118 = true then ((laws_markStringS.f k t108 1).bind fun bt119 => (if bt119.1 < 0 then (laws_FnExactReport.j0 k l0 t105 t111 true) else ((laws_eqStringS.f k t111 t105).bind fun t121 => (laws_FnExactReport.j0 k l0 t105 t111 (!t121))))) else (some false)))) else (some false)))) = some true := H
    have A6 := Aside0.mk A60
    clear A60
    replace H := Option.bind_eq_some_iff.mp H
    obtain ⟨t111, A70, H⟩ := H
    replace H : ((laws_eqStringS.f k t111 t105).bind fun t114 => (if t114 = true then ((laws_toStringS.f k l0).bind fun t115 => ((laws_eqStringS.f k t108 t115).bind fun t118 => (if t118 = true then ((laws_markStringS.f k t108 1).bind fun bt119 => (if bt119.1 < 0 then (laws_FnExactReport.j0 k l0 t105 t111 true) else ((laws_eqStringS.f k t111 t105).bind fun t121 => (laws_FnExactReport.j0 k l0 t105 t111 (!t121))))) else (some false)))) else (some false))) = some true := H
    have A7 := Aside0.mk A70
    clear A70
    replace H := Option.bind_eq_some_iff.mp H
    obtain ⟨t114, A80, H⟩ := H
    replace H : (if t114 = true then ((laws_toStringS.f k l0).bind fun t115 => ((laws_eqStringS.f k t108 t115).bind fun t118 => (if t118 = true then ((laws_markStringS.f k t108 1).bind fun bt119 => (if bt119.1 < 0 then (laws_FnExactReport.j0 k l0 t105 t111 true) else ((laws_eqStringS.f k t111 t105).bind fun t121 => (laws_FnExactReport.j0 k l0 t105 t111 (!t121))))) else (some false)))) else (some false)) = some true := H
    have A8 := Aside0.mk A80
    clear A80
    by_cases c9 : t114 = true
    · subst c9
      have H1 : ((laws_toStringS.f k l0).bind fun t115 => ((laws_eqStringS.f k t108 t115).bind fun t118 => (if t118 = true then ((laws_markStringS.f k t108 1).bind fun bt119 => (if bt119.1 < 0 then (laws_FnExactReport.j0 k l0 t105 t111 true) else ((laws_eqStringS.f k t111 t105).bind fun t121 => (laws_FnExactReport.j0 k l0 t105 t111 (!t121))))) else (some false)))) = some true := by rw [if_pos rfl] at H; exact H
      clear H
      have H := H1
      clear H1
      replace H := Option.bind_eq_some_iff.mp H
      obtain ⟨t115, A100, H⟩ := H
      replace H : ((laws_eqStringS.f k t108 t115).bind fun t118 => (if t118 = true then ((laws_markStringS.f k t108 1).bind fun bt119 => (if bt119.1 < 0 then (laws_FnExactReport.j0 k l0 t105 t111 true) else ((laws_eqStringS.f k t111 t105).bind fun t121 => (laws_FnExactReport.j0 k l0 t105 t111 (!t121))))) else (some false))) = some true := H
      have A10 := Aside0.mk A100
      clear A100
      replace H := Option.bind_eq_some_iff.mp H
      obtain ⟨t118, A110, H⟩ := H
      replace H : (if t118 = true then ((laws_markStringS.f k t108 1).bind fun bt119 => (if bt119.1 < 0 then (laws_FnExactReport.j0 k l0 t105 t111 true) else ((laws_eqStringS.f k t111 t105).bind fun t121 => (laws_FnExactReport.j0 k l0 t105 t111 (!t121))))) else (some false)) = some true := H
      have A11 := Aside0.mk A110
      clear A110
      by_cases c12 : t118 = true
      · subst c12
        have H1 : ((laws_markStringS.f k t108 1).bind fun bt119 => (if bt119.1 < 0 then (laws_FnExactReport.j0 k l0 t105 t111 true) else ((laws_eqStringS.f k t111 t105).bind fun t121 => (laws_FnExactReport.j0 k l0 t105 t111 (!t121))))) = some true := by rw [if_pos rfl] at H; exact H
        clear H
        have H := H1
        clear H1
        replace H := Option.bind_eq_some_iff.mp H
        obtain ⟨⟨t119, t120⟩, A130, H⟩ := H
        replace H : (if t119 < 0 then (laws_FnExactReport.j0 k l0 t105 t111 true) else ((laws_eqStringS.f k t111 t105).bind fun t121 => (laws_FnExactReport.j0 k l0 t105 t111 (!t121)))) = some true := H
        have A13 := Aside0.mk A130
        clear A130
        have HC14 := Aside0.mk H
        clear H
        go_enter Tryz.func3, Tryz.ntmps3
        go_upto_region 14 with (first | ((with_reducible refine gate_callee (f := 4) rfl ?_); refine goesL_ (some 13) rfl rfl Tryz.func4 (by kernel_rfl) rfl #[.slice A0 l0.length c0, .int .i64 1048576] rfl q1 ?_; (with_reducible refine (laws_szStringS.calls k _ _ l0 1048576 t101 _ ?side1 ?side2 A2.out).mono ?_); (case side1 => repeat (first | exact HR0.out | (with_reducible refine Kd.C_alloc ?_ _) | (with_reducible refine Kd.C_drewN ?_ _) | (with_reducible refine Kd.C_drew ?_))); (case side2 => exact HC0.out); rintro e w' ⟨rfl, ⟨nd, rfl⟩⟩; refine ⟨_, rfl, ?_⟩) | ((with_reducible refine gate_callee (f := 6) rfl ?_); refine goesL_ (some 17) rfl rfl Tryz.func6 (by kernel_rfl) rfl #[.slice A0 l0.length c0] rfl q1 ?_; (with_reducible refine (laws_toStringS.calls k _ _ l0 t102 _ ?side1 ?side2 A4.out).mono ?_); (case side1 => repeat (first | exact HR0.out | (with_reducible refine Kd.C_alloc ?_ _) | (with_reducible refine Kd.C_drewN ?_ _) | (with_reducible refine Kd.C_drew ?_))); (case side2 => exact HC0.out); rintro e w15 ⟨v103, rfl, ho0, hb⟩; refine ⟨_, rfl, ?_⟩; have n0_ := Aside0.mk (Kd.R_lower ho0 (below_size bq)); have n1_ := Aside0.mk (below_step bq hb); clear HB; have HO104 := n0_; have HB := n1_; clear n0_ n1_; (try clear hb); (try clear hb2); (try clear hk); (try clear hi); (try clear ho0); obtain ⟨Ao16, co16, eo16⟩ := Kd.R_slice HO104.out; subst eo16) | ((with_reducible refine gate_callee (f := 5) rfl ?_); refine goesL_ (some 18) rfl rfl Tryz.func5 (by kernel_rfl) rfl #[.slice Ao16 t102.length co16] rfl q1 ?_; (with_reducible refine (spec_Report.calls k _ _ t102 t105 _ ?side1 ?side2 A5.out).mono ?_); (case side1 => repeat (first | exact (Kd.R_reads' HO104.out).2.2 | (with_reducible refine Kd.C_alloc ?_ _) | (with_reducible refine Kd.C_drewN ?_ _) | (with_reducible refine Kd.C_drew ?_))); (case side2 => exact (Kd.R_reads' HO104.out).2.1); rintro e w17 ⟨v106, rfl, ho0, hb⟩; refine ⟨_, rfl, ?_⟩; have n0_ := Aside0.mk (Kd.R_elder' (by (with_reducible repeat (first | apply Kd.R_alloc | apply Kd.R_drewN | apply Kd.R_drew)); exact HO104.out) (Kd.R_base ho0) hb); have n1_ := Aside0.mk (Kd.R_lower (Kd.R_new' ho0 (Kd.R_lt (by (with_reducible repeat (first | apply Kd.R_alloc | apply Kd.R_drewN | apply Kd.R_drew)); exact HO104.out))) (below_size bq)); have n2_ := Aside0.mk (below_step bq hb); clear HO104; clear HB; have HO104 := n0_; have HO107 := n1_; have HB := n2_; clear n0_ n1_ n2_; (try clear hb); (try clear hb2); (try clear hk); (try clear hi); (try clear ho0)) | ((with_reducible refine gate_callee (f := 6) rfl ?_); refine goesL_ (some 20) rfl rfl Tryz.func6 (by kernel_rfl) rfl #[.slice A0 l0.length c0] rfl q1 ?_; (with_reducible refine (laws_toStringS.calls k _ _ l0 t108 _ ?side1 ?side2 A6.out).mono ?_); (case side1 => repeat (first | exact (Kd.C_below HR0.out HB.out) | (with_reducible refine Kd.C_alloc ?_ _) | (with_reducible refine Kd.C_drewN ?_ _) | (with_reducible refine Kd.C_drew ?_))); (case side2 => exact HC0.out); rintro e w18 ⟨v109, rfl, ho0, hb⟩; refine ⟨_, rfl, ?_⟩; have n0_ := Aside0.mk (Kd.R_elder' (by (with_reducible repeat (first | apply Kd.R_alloc | apply Kd.R_drewN | apply Kd.R_drew)); exact HO104.out) (Kd.R_base ho0) hb); have n1_ := Aside0.mk (Kd.R_elder' (by (with_reducible repeat (first | apply Kd.R_alloc | apply Kd.R_drewN | apply Kd.R_drew)); exact HO107.out) (Kd.R_base ho0) hb); have n2_ := Aside0.mk (Kd.R_lower (Kd.R_new' (Kd.R_new' ho0 (Kd.R_lt (by (with_reducible repeat (first | apply Kd.R_alloc | apply Kd.R_drewN | apply Kd.R_drew)); exact HO104.out))) (Kd.R_lt (by (with_reducible repeat (first | apply Kd.R_alloc | apply Kd.R_drewN | apply Kd.R_drew)); exact HO107.out))) (below_size bq)); have n3_ := Aside0.mk (below_step bq hb); clear HO104; clear HO107; clear HB; have HO104 := n0_; have HO107 := n1_; have HO110 := n2_; have HB := n3_; clear n0_ n1_ n2_ n3_; (try clear hb); (try clear hb2); (try clear hk); (try clear hi); (try clear ho0); obtain ⟨Ao19, co19, eo19⟩ := Kd.R_slice HO110.out; subst eo19) | ((with_reducible refine gate_callee (f := 7) rfl ?_); refine goesL_ (some 22) rfl rfl Tryz.func7 (by kernel_rfl) rfl #[.slice Ao19 t108.length co19] rfl q1 ?_; (with_reducible refine (impl_Report.calls k _ _ t108 t111 _ ?side1 ?side2 A7.out).mono ?_); (case side1 => repeat (first | exact (Kd.R_reads' HO110.out).2.2 | (with_reducible refine Kd.C_alloc ?_ _) | (with_reducible refine Kd.C_drewN ?_ _) | (with_reducible refine Kd.C_drew ?_))); (case side2 => exact (Kd.R_reads' HO110.out).2.1); rintro e w20 ⟨v112, rfl, ho0, hb⟩; refine ⟨_, rfl, ?_⟩; have n0_ := Aside0.mk (Kd.R_elder' (by (with_reducible repeat (first | apply Kd.R_alloc | apply Kd.R_drewN | apply Kd.R_drew)); exact HO104.out) (Kd.R_base ho0) hb); have n1_ := Aside0.mk (Kd.R_elder' (by (with_reducible repeat (first | apply Kd.R_alloc | apply Kd.R_drewN | apply Kd.R_drew)); exact HO107.out) (Kd.R_base ho0) hb); have n2_ := Aside0.mk (Kd.R_elder' (by (with_reducible repeat (first | apply Kd.R_alloc | apply Kd.R_drewN | apply Kd.R_drew)); exact HO110.out) (Kd.R_base ho0) hb); have n3_ := Aside0.mk (Kd.R_lower (Kd.R_new' (Kd.R_new' (Kd.R_new' ho0 (Kd.R_lt (by (with_reducible repeat (first | apply Kd.R_alloc | apply Kd.R_drewN | apply Kd.R_drew)); exact HO104.out))) (Kd.R_lt (by (with_reducible repeat (first | apply Kd.R_alloc | apply Kd.R_drewN | apply Kd.R_drew)); exact HO107.out))) (Kd.R_lt (by (with_reducible repeat (first | apply Kd.R_alloc | apply Kd.R_drewN | apply Kd.R_drew)); exact HO110.out))) (below_size bq)); have n4_ := Aside0.mk (below_step bq hb); clear HO104; clear HO107; clear HO110; clear HB; have HO104 := n0_; have HO107 := n1_; have HO110 := n2_; have HO113 := n3_; have HB := n4_; clear n0_ n1_ n2_ n3_ n4_; (try clear hb); (try clear hb2); (try clear hk); (try clear hi); (try clear ho0); obtain ⟨Ao21, co21, eo21⟩ := Kd.R_slice HO113.out; subst eo21; obtain ⟨Ao22, co22, eo22⟩ := Kd.R_slice HO107.out; subst eo22) | ((with_reducible refine gate_callee (f := 8) rfl ?_); refine goesL_ (some 25) rfl rfl Tryz.func8 (by kernel_rfl) rfl #[.slice Ao21 t111.length co21, .slice Ao22 t105.length co22] rfl q1 ?_; (with_reducible refine (laws_eqStringS.calls k _ _ t111 _ _ t105 true _ ?side1 ?side2 ?side3 ?side4 A8.out).mono ?_); (case side1 => repeat (first | exact (Kd.R_reads' HO113.out).2.2 | (with_reducible refine Kd.C_alloc ?_ _) | (with_reducible refine Kd.C_drewN ?_ _) | (with_reducible refine Kd.C_drew ?_))); (case side2 => exact (Kd.R_reads' HO113.out).2.1); (case side3 => repeat (first | exact (Kd.R_reads' HO107.out).2.2 | (with_reducible refine Kd.C_alloc ?_ _) | (with_reducible refine Kd.C_drewN ?_ _) | (with_reducible refine Kd.C_drew ?_))); (case side4 => exact (Kd.R_reads' HO107.out).2.1); rintro e w' ⟨rfl, ⟨nd, rfl⟩⟩; refine ⟨_, rfl, ?_⟩) | ((with_reducible refine gate_callee (f := 6) rfl ?_); refine goesL_ (some 29) rfl rfl Tryz.func6 (by kernel_rfl) rfl #[.slice A0 l0.length c0] rfl q1 ?_; (with_reducible refine (laws_toStringS.calls k _ _ l0 t115 _ ?side1 ?side2 A10.out).mono ?_); (case side1 => repeat (first | exact (Kd.C_below HR0.out bq) | (with_reducible refine Kd.C_alloc ?_ _) | (with_reducible refine Kd.C_drewN ?_ _) | (with_reducible refine Kd.C_drew ?_))); (case side2 => exact HC0.out); rintro e w23 ⟨v116, rfl, ho0, hb⟩; refine ⟨_, rfl, ?_⟩; have n0_ := Aside0.mk (Kd.R_elder' (by (with_reducible repeat (first | apply Kd.R_alloc | apply Kd.R_drewN | apply Kd.R_drew)); exact HO104.out) (Kd.R_base ho0) hb); have n1_ := Aside0.mk (Kd.R_elder' (by (with_reducible repeat (first | apply Kd.R_alloc | apply Kd.R_drewN | apply Kd.R_drew)); exact HO107.out) (Kd.R_base ho0) hb); have n2_ := Aside0.mk (Kd.R_elder' (by (with_reducible repeat (first | apply Kd.R_alloc | apply Kd.R_drewN | apply Kd.R_drew)); exact HO110.out) (Kd.R_base ho0) hb); have n3_ := Aside0.mk (Kd.R_elder' (by (with_reducible repeat (first | apply Kd.R_alloc | apply Kd.R_drewN | apply Kd.R_drew)); exact HO113.out) (Kd.R_base ho0) hb); have n4_ := Aside0.mk (Kd.R_lower (Kd.R_new' (Kd.R_new' (Kd.R_new' (Kd.R_new' ho0 (Kd.R_lt (by (with_reducible repeat (first | apply Kd.R_alloc | apply Kd.R_drewN | apply Kd.R_drew)); exact HO104.out))) (Kd.R_lt (by (with_reducible repeat (first | apply Kd.R_alloc | apply Kd.R_drewN | apply Kd.R_drew)); exact HO107.out))) (Kd.R_lt (by (with_reducible repeat (first | apply Kd.R_alloc | apply Kd.R_drewN | apply Kd.R_drew)); exact HO110.out))) (Kd.R_lt (by (with_reducible repeat (first | apply Kd.R_alloc | apply Kd.R_drewN | apply Kd.R_drew)); exact HO113.out))) (below_size bq)); have n5_ := Aside0.mk (below_step bq hb); clear HO104; clear HO107; clear HO110; clear HO113; clear HB; have HO104 := n0_; have HO107 := n1_; have HO110 := n2_; have HO113 := n3_; have HO117 := n4_; have HB := n5_; clear n0_ n1_ n2_ n3_ n4_ n5_; (try clear hb); (try clear hb2); (try clear hk); (try clear hi); (try clear ho0); obtain ⟨Ao24, co24, eo24⟩ := Kd.R_slice HO117.out; subst eo24) | ((with_reducible refine gate_callee (f := 8) rfl ?_); refine goesL_ (some 30) rfl rfl Tryz.func8 (by kernel_rfl) rfl #[.slice Ao19 t108.length co19, .slice Ao24 t115.length co24] rfl q1 ?_; (with_reducible refine (laws_eqStringS.calls k _ _ t108 _ _ t115 true _ ?side1 ?side2 ?side3 ?side4 A11.out).mono ?_); (case side1 => repeat (first | exact (Kd.R_reads' HO110.out).2.2 | (with_reducible refine Kd.C_alloc ?_ _) | (with_reducible refine Kd.C_drewN ?_ _) | (with_reducible refine Kd.C_drew ?_))); (case side2 => exact (Kd.R_reads' HO110.out).2.1); (case side3 => repeat (first | exact (Kd.R_reads' HO117.out).2.2 | (with_reducible refine Kd.C_alloc ?_ _) | (with_reducible refine Kd.C_drewN ?_ _) | (with_reducible refine Kd.C_drew ?_))); (case side4 => exact (Kd.R_reads' HO117.out).2.1); rintro e w' ⟨rfl, ⟨nd, rfl⟩⟩; refine ⟨_, rfl, ?_⟩) | ((with_reducible refine gate_callee (f := 9) rfl ?_); refine goesL_ (some 34) rfl rfl Tryz.func9 (by kernel_rfl) rfl #[.slice Ao19 t108.length co19, .int .i64 1] rfl q1 ?_; (with_reducible refine (laws_markStringS.calls k (fun k_ => some k_ = (.slice Ao19 t108.length co19 : Value).ownBlock) (.slice Ao19 t108.length co19) t108 1 t119 t120 w _ ?side1 ?side2 A13.out).mono ?_); (case side1 => repeat (first | (with_reducible first | exact HB.out | apply below_alloc | apply pw_below_drewN | apply below_drew1) | exact HB.out)); (case side2 => exact Kd.R_tight rfl HO110.out); rintro e w25 ⟨rfl, hy0, hb, hkp⟩; refine ⟨_, rfl, ?_⟩; have n0_ := Aside0.mk (Kd.R_mono (ok' := fun k_ => some k_ ≠ (.slice Ao22 t105.length co22 : Value).ownBlock ∧ some k_ ≠ (.slice Ao19 t108.length co19 : Value).ownBlock ∧ some k_ ≠ (.slice Ao21 t111.length co21 : Value).ownBlock ∧ some k_ ≠ (.slice Ao24 t115.length co24 : Value).ownBlock) (Kd.R_keptB (HO104.out) hkp (fun k_ hk_ hs_ => (hk_.1.1.2) hs_)) (fun k_ hk_ => ⟨hk_.1.1.1.1.2, hk_.1.1.1.2, hk_.1.1.2, hk_.1.2⟩)); have n1_ := Aside0.mk (Kd.R_mono (ok' := fun k_ => some k_ ≠ (.slice Ao16 t102.length co16 : Value).ownBlock ∧ some k_ ≠ (.slice Ao19 t108.length co19 : Value).ownBlock ∧ some k_ ≠ (.slice Ao21 t111.length co21 : Value).ownBlock ∧ some k_ ≠ (.slice Ao24 t115.length co24 : Value).ownBlock) (Kd.R_keptB (HO107.out) hkp (fun k_ hk_ hs_ => (hk_.1.1.2) hs_)) (fun k_ hk_ => ⟨hk_.1.1.1.1.2, hk_.1.1.1.2, hk_.1.1.2, hk_.1.2⟩)); have n2_ := Aside0.mk (Kd.R_reok rfl hy0 (fun k_ e_ => HO110.out.1 k_ e_)); have n3_ := Aside0.mk (Kd.R_mono (ok' := fun k_ => some k_ ≠ (.slice Ao16 t102.length co16 : Value).ownBlock ∧ some k_ ≠ (.slice Ao22 t105.length co22 : Value).ownBlock ∧ some k_ ≠ (.slice Ao19 t108.length co19 : Value).ownBlock ∧ some k_ ≠ (.slice Ao24 t115.length co24 : Value).ownBlock) (Kd.R_keptB (HO113.out) hkp (fun k_ hk_ hs_ => (hk_.1.2) hs_)) (fun k_ hk_ => ⟨hk_.1.1.1.1.2, hk_.1.1.1.2, hk_.1.1.2, hk_.1.2⟩)); have n4_ := Aside0.mk (Kd.R_mono (ok' := fun k_ => some k_ ≠ (.slice Ao16 t102.length co16 : Value).ownBlock ∧ some k_ ≠ (.slice Ao22 t105.length co22 : Value).ownBlock ∧ some k_ ≠ (.slice Ao19 t108.length co19 : Value).ownBlock ∧ some k_ ≠ (.slice Ao21 t111.length co21 : Value).ownBlock) (Kd.R_keptB (HO117.out) hkp (fun k_ hk_ hs_ => (hk_.1.2) hs_)) (fun k_ hk_ => ⟨hk_.1.1.1.1.2, hk_.1.1.1.2, hk_.1.1.2, hk_.1.2⟩)); have n5_ := Aside0.mk (hb); clear HO104; clear HO107; clear HO110; clear HO113; clear HO117; clear HB; have HO104 := n0_; have HO107 := n1_; have HO110 := n2_; have HO113 := n3_; have HO117 := n4_; have HB := n5_; clear n0_ n1_ n2_ n3_ n4_ n5_; (try clear hb); (try clear hkp); (try clear hy0)))
        (try simp only [Act.put, List.setIfInBounds_toArray, List.set_cons_zero, List.set_cons_succ])
        go_cut [42] (fun v42 wc => ∃ (kq : Nat) (x42_13 : Bool), v42 = .bool x42_13 ∧ Aside0 (laws_FnExactReport.j0 kq l0 t105 t111 x42_13 = some true) ∧ Aside0 (kq ≤ k) ∧ Aside0 (Kd.R Kd.string 9 wc w.heap.size (fun k_ => some k_ ≠ ((.slice Ao21 t111.length co21) : Value).ownBlock) (.slice Ao22 t105.length co22) t105) ∧ Aside0 (Kd.R Kd.string 9 wc w.heap.size (fun k_ => some k_ ≠ ((.slice Ao22 t105.length co22) : Value).ownBlock) (.slice Ao21 t111.length co21) t111) ∧ Aside0 (Below w.heap.size w wc))
        case first =>
          have H := HC14.out
          clear HC14
          by_cases c26 : t119 < 0
          · rw [if_pos c26] at H
            have c26b0 : decide (t119 < 0) = true := decide_eq_true c26
            clear c26
            (first | rw [c26b0] | (simp only [i64_w, i32_w]; rw [c26b0]) | skip)
            have H' := Aside0.mk H
            clear H
            go_wp2
            go_meet
            case rel => exact ⟨_, (true), q2, H', ⟨by first | omega | exact Nat.le_refl _⟩, ⟨by (with_reducible repeat (first | apply Kd.R_alloc | apply Kd.R_drewN | apply Kd.R_drew)); exact Kd.R_mono HO107.out (fun _ hk => hk.2.2.1)⟩, ⟨by (with_reducible repeat (first | apply Kd.R_alloc | apply Kd.R_drewN | apply Kd.R_drew)); exact Kd.R_mono HO113.out (fun _ hk => hk.2.1)⟩, ⟨by repeat (first | (with_reducible first | exact HB.out | apply below_alloc | apply pw_below_drewN | apply below_drew1) | exact HB.out)⟩⟩
          · rw [if_neg c26] at H
            have c26b0 : decide (t119 < 0) = false := decide_eq_false c26
            clear c26
            (first | rw [c26b0] | (simp only [i64_w, i32_w]; rw [c26b0]) | skip)
            replace H := Option.bind_eq_some_iff.mp H
            obtain ⟨t121, A270, H⟩ := H
            replace H : (laws_FnExactReport.j0 k l0 t105 t111 (!t121)) = some true := H
            have A27 := Aside0.mk A270
            clear A270
            have H' := Aside0.mk H
            clear H
            go_wp2_with (first | (go_at_call 8; (with_reducible refine (laws_eqStringS.calls k _ _ t111 _ _ t105 t121 _ ?side1 ?side2 ?side3 ?side4 A27.out).mono ?_); (case side1 => repeat (first | exact (Kd.R_reads' HO113.out).2.2 | (with_reducible refine Kd.C_alloc ?_ _) | (with_reducible refine Kd.C_drewN ?_ _) | (with_reducible refine Kd.C_drew ?_))); (case side2 => exact (Kd.R_reads' HO113.out).2.1); (case side3 => repeat (first | exact (Kd.R_reads' HO107.out).2.2 | (with_reducible refine Kd.C_alloc ?_ _) | (with_reducible refine Kd.C_drewN ?_ _) | (with_reducible refine Kd.C_drew ?_))); (case side4 => exact (Kd.R_reads' HO107.out).2.1); rintro e w' ⟨rfl, ⟨nd, rfl⟩⟩))
            go_meet
            case rel => exact ⟨_, (!t121), q2, H', ⟨by first | omega | exact Nat.le_refl _⟩, ⟨by (with_reducible repeat (first | apply Kd.R_alloc | apply Kd.R_drewN | apply Kd.R_drew)); exact Kd.R_mono HO107.out (fun _ hk => hk.2.2.1)⟩, ⟨by (with_reducible repeat (first | apply Kd.R_alloc | apply Kd.R_drewN | apply Kd.R_drew)); exact Kd.R_mono HO113.out (fun _ hk => hk.2.1)⟩, ⟨by repeat (first | (with_reducible first | exact HB.out | apply below_alloc | apply pw_below_drewN | apply below_drew1) | exact HB.out)⟩⟩
        case rest =>
          clear HC14
          try clear c1
          try clear c2
          try clear p2
          try clear c3
          try clear c3b0
          try clear c4
          try clear c5
          try clear c6
          try clear c7
          try clear c8
          try clear c9
          try clear c12
          try clear c26
          try clear c26b0
          obtain ⟨kq, x42_13, rfl, HA, HJ13, HO_4, HO_6, HB⟩ := hcut
          cases kq with
          | zero => exact absurd HA.out (by simp [laws_FnExactReport.j0])
          | succ kj13 =>
            have H := HA.out
            clear HA
            simp only [laws_FnExactReport.j0] at H
            by_cases c28 : x42_13 = true
            · subst c28
              have H1 : (some false) = some true := by rw [if_pos rfl] at H; exact H
              clear H
              have H := H1
              clear H1
              exact absurd H (by simp)
            · replace c28 := Bool.eq_false_iff.mpr c28
              subst c28
              have H1 : ((laws_markStringS.f kj13 t111 1).bind fun bt122 => ((laws_heldStringS.f kj13 bt122.2 1).bind fun t124 => (if t124 < 0 then (some false) else (if t124 = bt122.1 then ((laws_toStringS.f kj13 l0).bind fun t125 => ((impl_Report.f kj13 t125).bind fun t128 => ((laws_eqStringS.f kj13 t128 t105).bind fun t131 => (if t131 = true then ((laws_heldStringS.f kj13 bt122.2 1).bind fun t132 => (if t132 < 0 then (some false) else (if t132 = bt122.1 then (some true) else (some false)))) else (some false))))) else (some false))))) = some true := by rw [if_neg (show ¬ (false = true) by decide)] at H; exact H
              clear H
              have H := H1
              clear H1
              replace H := Option.bind_eq_some_iff.mp H
              obtain ⟨⟨t122, t123⟩, A290, H⟩ := H
              replace H : ((laws_heldStringS.f kj13 t123 1).bind fun t124 => (if t124 < 0 then (some false) else (if t124 = t122 then ((laws_toStringS.f kj13 l0).bind fun t125 => ((impl_Report.f kj13 t125).bind fun t128 => ((laws_eqStringS.f kj13 t128 t105).bind fun t131 => (if t131 = true then ((laws_heldStringS.f kj13 t123 1).bind fun t132 => (if t132 < 0 then (some false) else (if t132 = t122 then (some true) else (some false)))) else (some false))))) else (some false)))) = some true := H
              have A29 := Aside0.mk A290
              clear A290
              replace H := Option.bind_eq_some_iff.mp H
              obtain ⟨t124, A300, H⟩ := H
              replace H : (if t124 < 0 then (some false) else (if t124 = t122 then ((laws_toStringS.f kj13 l0).bind fun t125 => ((impl_Report.f kj13 t125).bind fun t128 => ((laws_eqStringS.f kj13 t128 t105).bind fun t131 => (if t131 = true then ((laws_heldStringS.f kj13 t123 1).bind fun t132 => (if t132 < 0 then (some false) else (if t132 = t122 then (some true) else (some false)))) else (some false))))) else (some false))) = some true := H
              have A30 := Aside0.mk A300
              clear A300
              by_cases c31 : t124 < 0
              · rw [if_pos c31] at H
                have c31b0 : decide (t124 < 0) = true := decide_eq_true c31
                clear c31
                exact absurd H (by simp)
              · rw [if_neg c31] at H
                have c31b0 : decide (t124 < 0) = false := decide_eq_false c31
                clear c31
                by_cases c34 : t124 = t122
                · rw [if_pos c34] at H
                  have c34b0 : (t124 == t122) = true := beq_iff_eq.mpr c34
                  have c34b1 : (t124 != t122) = false := bne_eq_false_iff_eq.mpr c34
                  clear c34
                  replace H := Option.bind_eq_some_iff.mp H
                  obtain ⟨t125, A350, H⟩ := H
                  replace H : ((impl_Report.f kj13 t125).bind fun t128 => ((laws_eqStringS.f kj13 t128 t105).bind fun t131 => (if t131 = true then ((laws_heldStringS.f kj13 t123 1).bind fun t132 => (if t132 < 0 then (some false) else (if t132 = t122 then (some true) else (some false)))) else (some false)))) = some true := H
                  have A35 := Aside0.mk A350
                  clear A350
                  replace H := Option.bind_eq_some_iff.mp H
                  obtain ⟨t128, A360, H⟩ := H
                  replace H : ((laws_eqStringS.f kj13 t128 t105).bind fun t131 => (if t131 = true then ((laws_heldStringS.f kj13 t123 1).bind fun t132 => (if t132 < 0 then (some false) else (if t132 = t122 then (some true) else (some false)))) else (some false))) = some true := H
                  have A36 := Aside0.mk A360
                  clear A360
                  replace H := Option.bind_eq_some_iff.mp H
                  obtain ⟨t131, A370, H⟩ := H
                  replace H : (if t131 = true then ((laws_heldStringS.f kj13 t123 1).bind fun t132 => (if t132 < 0 then (some false) else (if t132 = t122 then (some true) else (some false)))) else (some false)) = some true := H
                  have A37 := Aside0.mk A370
                  clear A370
                  by_cases c38 : t131 = true
                  · subst c38
                    have H1 : ((laws_heldStringS.f kj13 t123 1).bind fun t132 => (if t132 < 0 then (some false) else (if t132 = t122 then (some true) else (some false)))) = some true := by rw [if_pos rfl] at H; exact H
                    clear H
                    have H := H1
                    clear H1
                    replace H := Option.bind_eq_some_iff.mp H
                    obtain ⟨t132, A390, H⟩ := H
                    replace H : (if t132 < 0 then (some false) else (if t132 = t122 then (some true) else (some false))) = some true := H
                    have A39 := Aside0.mk A390
                    clear A390
                    by_cases c40 : t132 < 0
                    · rw [if_pos c40] at H
                      have c40b0 : decide (t132 < 0) = true := decide_eq_true c40
                      clear c40
                      exact absurd H (by simp)
                    · rw [if_neg c40] at H
                      have c40b0 : decide (t132 < 0) = false := decide_eq_false c40
                      clear c40
                      by_cases c48 : t132 = t122
                      · rw [if_pos c48] at H
                        have c48b0 : (t132 == t122) = true := beq_iff_eq.mpr c48
                        have c48b1 : (t132 != t122) = false := bne_eq_false_iff_eq.mpr c48
                        clear c48
                        try (obtain rfl := Option.some.inj H)
                        go_wp2_with (first | ((with_reducible refine gate_callee (f := 9) rfl ?_); refine goesL_ (some 45) rfl rfl Tryz.func9 (by kernel_rfl) rfl #[.slice Ao21 t111.length co21, .int .i64 1] rfl q1 ?_; (with_reducible refine (laws_markStringS.calls kj13 (fun k_ => some k_ = (.slice Ao21 t111.length co21 : Value).ownBlock) (.slice Ao21 t111.length co21) t111 1 t122 t123 w _ ?side1 ?side2 A29.out).mono ?_); (case side1 => repeat (first | (with_reducible first | exact HB.out | apply below_alloc | apply pw_below_drewN | apply below_drew1) | exact HB.out)); (case side2 => exact Kd.R_tight rfl HO_6.out); rintro e w49 ⟨rfl, hy0, hb, hkp⟩; refine ⟨_, rfl, ?_⟩; have n0_ := Aside0.mk (Kd.R_mono (ok' := fun k_ => some k_ ≠ (.slice Ao21 t111.length co21 : Value).ownBlock) (Kd.R_keptB (HO_4.out) hkp (fun k_ hk_ hs_ => (hk_) hs_)) (fun k_ hk_ => hk_.1)); have n1_ := Aside0.mk (Kd.R_reok rfl hy0 (fun k_ e_ => HO_6.out.1 k_ e_)); have n2_ := Aside0.mk (hb); clear HO_4; clear HO_6; clear HB; have HO_4 := n0_; have HO_6 := n1_; have HB := n2_; clear n0_ n1_ n2_; (try clear hb); (try clear hkp); (try clear hy0)) | ((with_reducible refine gate_callee (f := 10) rfl ?_); refine goesL_ (some 48) rfl rfl Tryz.func10 (by kernel_rfl) rfl #[.slice Ao21 t123.length co21, .int .i64 1] rfl (by (try simp only [List.map_toArray, List.map_cons, List.map_nil]); first | done | (rw [show t123.length = t111.length from (Kd.R_reads' HO_6.out).1.symm] <;> rfl) | rfl | (simp only [List.length_drop, List.length_take]; rfl)) ?_; (with_reducible refine (laws_heldStringS.calls kj13 _ _ t123 1 t124 _ ?side1 ?side2 A30.out).mono ?_); (case side1 => repeat (first | exact (Kd.R_reads' HO_6.out).2.2 | (with_reducible refine Kd.C_alloc ?_ _) | (with_reducible refine Kd.C_drewN ?_ _) | (with_reducible refine Kd.C_drew ?_))); (case side2 => rw [show t123.length = t111.length from (Kd.R_reads' HO_6.out).1.symm]; exact (Kd.R_reads' HO_6.out).2.1); rintro e w50 ⟨rfl, hb⟩; refine ⟨_, rfl, ?_⟩; have n0_ := Aside0.mk (Kd.R_below (by (with_reducible repeat (first | apply Kd.R_alloc | apply Kd.R_drewN | apply Kd.R_drew)); exact HO_4.out) hb); have n1_ := Aside0.mk (Kd.R_below (by (with_reducible repeat (first | apply Kd.R_alloc | apply Kd.R_drewN | apply Kd.R_drew)); exact HO_6.out) hb); have n2_ := Aside0.mk (below_step bq hb); clear HO_4; clear HO_6; clear HB; have HO_4 := n0_; have HO_6 := n1_; have HB := n2_; clear n0_ n1_ n2_; (try clear hb); (try clear hb2); (try clear hk); (try clear hi)) | ((with_reducible refine gate_callee (f := 6) rfl ?_); refine goesL_ (some 55) rfl rfl Tryz.func6 (by kernel_rfl) rfl #[.slice A0 l0.length c0] rfl q1 ?_; (with_reducible refine (laws_toStringS.calls kj13 _ _ l0 t125 _ ?side1 ?side2 A35.out).mono ?_); (case side1 => repeat (first | exact (Kd.C_below HR0.out HB.out) | (with_reducible refine Kd.C_alloc ?_ _) | (with_reducible refine Kd.C_drewN ?_ _) | (with_reducible refine Kd.C_drew ?_))); (case side2 => exact HC0.out); rintro e w51 ⟨v126, rfl, ho0, hb⟩; refine ⟨_, rfl, ?_⟩; have n0_ := Aside0.mk (Kd.R_elder' (by (with_reducible repeat (first | apply Kd.R_alloc | apply Kd.R_drewN | apply Kd.R_drew)); exact HO_4.out) (Kd.R_base ho0) hb); have n1_ := Aside0.mk (Kd.R_elder' (by (with_reducible repeat (first | apply Kd.R_alloc | apply Kd.R_drewN | apply Kd.R_drew)); exact HO_6.out) (Kd.R_base ho0) hb); have n2_ := Aside0.mk (Kd.R_lower (Kd.R_new' (Kd.R_new' ho0 (Kd.R_lt (by (with_reducible repeat (first | apply Kd.R_alloc | apply Kd.R_drewN | apply Kd.R_drew)); exact HO_4.out))) (Kd.R_lt (by (with_reducible repeat (first | apply Kd.R_alloc | apply Kd.R_drewN | apply Kd.R_drew)); exact HO_6.out))) (below_size bq)); have n3_ := Aside0.mk (below_step bq hb); clear HO_4; clear HO_6; clear HB; have HO_4 := n0_; have HO_6 := n1_; have HO127 := n2_; have HB := n3_; clear n0_ n1_ n2_ n3_; (try clear hb); (try clear hb2); (try clear hk); (try clear hi); (try clear ho0); obtain ⟨Ao52, co52, eo52⟩ := Kd.R_slice HO127.out; subst eo52) | ((with_reducible refine gate_callee (f := 7) rfl ?_); refine goesL_ (some 56) rfl rfl Tryz.func7 (by kernel_rfl) rfl #[.slice Ao52 t125.length co52] rfl q1 ?_; (with_reducible refine (impl_Report.calls kj13 _ _ t125 t128 _ ?side1 ?side2 A36.out).mono ?_); (case side1 => repeat (first | exact (Kd.R_reads' HO127.out).2.2 | (with_reducible refine Kd.C_alloc ?_ _) | (with_reducible refine Kd.C_drewN ?_ _) | (with_reducible refine Kd.C_drew ?_))); (case side2 => exact (Kd.R_reads' HO127.out).2.1); rintro e w53 ⟨v129, rfl, ho0, hb⟩; refine ⟨_, rfl, ?_⟩; have n0_ := Aside0.mk (Kd.R_elder' (by (with_reducible repeat (first | apply Kd.R_alloc | apply Kd.R_drewN | apply Kd.R_drew)); exact HO_4.out) (Kd.R_base ho0) hb); have n1_ := Aside0.mk (Kd.R_elder' (by (with_reducible repeat (first | apply Kd.R_alloc | apply Kd.R_drewN | apply Kd.R_drew)); exact HO_6.out) (Kd.R_base ho0) hb); have n2_ := Aside0.mk (Kd.R_elder' (by (with_reducible repeat (first | apply Kd.R_alloc | apply Kd.R_drewN | apply Kd.R_drew)); exact HO127.out) (Kd.R_base ho0) hb); have n3_ := Aside0.mk (Kd.R_lower (Kd.R_new' (Kd.R_new' (Kd.R_new' ho0 (Kd.R_lt (by (with_reducible repeat (first | apply Kd.R_alloc | apply Kd.R_drewN | apply Kd.R_drew)); exact HO_4.out))) (Kd.R_lt (by (with_reducible repeat (first | apply Kd.R_alloc | apply Kd.R_drewN | apply Kd.R_drew)); exact HO_6.out))) (Kd.R_lt (by (with_reducible repeat (first | apply Kd.R_alloc | apply Kd.R_drewN | apply Kd.R_drew)); exact HO127.out))) (below_size bq)); have n4_ := Aside0.mk (below_step bq hb); clear HO_4; clear HO_6; clear HO127; clear HB; have HO_4 := n0_; have HO_6 := n1_; have HO127 := n2_; have HO130 := n3_; have HB := n4_; clear n0_ n1_ n2_ n3_ n4_; (try clear hb); (try clear hb2); (try clear hk); (try clear hi); (try clear ho0); obtain ⟨Ao54, co54, eo54⟩ := Kd.R_slice HO130.out; subst eo54) | ((with_reducible refine gate_callee (f := 8) rfl ?_); refine goesL_ (some 59) rfl rfl Tryz.func8 (by kernel_rfl) rfl #[.slice Ao54 t128.length co54, .slice Ao22 t105.length co22] rfl q1 ?_; (with_reducible refine (laws_eqStringS.calls kj13 _ _ t128 _ _ t105 true _ ?side1 ?side2 ?side3 ?side4 A37.out).mono ?_); (case side1 => repeat (first | exact (Kd.R_reads' HO130.out).2.2 | (with_reducible refine Kd.C_alloc ?_ _) | (with_reducible refine Kd.C_drewN ?_ _) | (with_reducible refine Kd.C_drew ?_))); (case side2 => exact (Kd.R_reads' HO130.out).2.1); (case side3 => repeat (first | exact (Kd.R_reads' HO_4.out).2.2 | (with_reducible refine Kd.C_alloc ?_ _) | (with_reducible refine Kd.C_drewN ?_ _) | (with_reducible refine Kd.C_drew ?_))); (case side4 => exact (Kd.R_reads' HO_4.out).2.1); rintro e w' ⟨rfl, ⟨nd, rfl⟩⟩; refine ⟨_, rfl, ?_⟩) | ((with_reducible refine gate_callee (f := 10) rfl ?_); refine goesL_ (some 63) rfl rfl Tryz.func10 (by kernel_rfl) rfl #[.slice Ao21 t123.length co21, .int .i64 1] rfl (by (try simp only [List.map_toArray, List.map_cons, List.map_nil]); first | done | (rw [show t123.length = t111.length from (Kd.R_reads' HO_6.out).1.symm] <;> rfl) | rfl | (simp only [List.length_drop, List.length_take]; rfl)) ?_; (with_reducible refine (laws_heldStringS.calls kj13 _ _ t123 1 t132 _ ?side1 ?side2 A39.out).mono ?_); (case side1 => repeat (first | exact (Kd.R_reads' HO_6.out).2.2 | (with_reducible refine Kd.C_alloc ?_ _) | (with_reducible refine Kd.C_drewN ?_ _) | (with_reducible refine Kd.C_drew ?_))); (case side2 => rw [show t123.length = t111.length from (Kd.R_reads' HO_6.out).1.symm]; exact (Kd.R_reads' HO_6.out).2.1); rintro e w55 ⟨rfl, hb⟩; refine ⟨_, rfl, ?_⟩; have n0_ := Aside0.mk (Kd.R_below (by (with_reducible repeat (first | apply Kd.R_alloc | apply Kd.R_drewN | apply Kd.R_drew)); exact HO_4.out) hb); have n1_ := Aside0.mk (Kd.R_below (by (with_reducible repeat (first | apply Kd.R_alloc | apply Kd.R_drewN | apply Kd.R_drew)); exact HO_6.out) hb); have n2_ := Aside0.mk (Kd.R_below (by (with_reducible repeat (first | apply Kd.R_alloc | apply Kd.R_drewN | apply Kd.R_drew)); exact HO127.out) hb); have n3_ := Aside0.mk (Kd.R_below (by (with_reducible repeat (first | apply Kd.R_alloc | apply Kd.R_drewN | apply Kd.R_drew)); exact HO130.out) hb); have n4_ := Aside0.mk (below_step bq hb); clear HO_4; clear HO_6; clear HO127; clear HO130; clear HB; have HO_4 := n0_; have HO_6 := n1_; have HO127 := n2_; have HO130 := n3_; have HB := n4_; clear n0_ n1_ n2_ n3_ n4_; (try clear hb); (try clear hb2); (try clear hk); (try clear hi)))
                        go_ret
                        exact ⟨by first | rfl | (simp [errW_none, errW_some] <;> rfl) | (simp [*, errW_none, errW_some] <;> rfl), by repeat (first | (with_reducible first | exact HB.out | apply below_alloc | apply pw_below_drewN | apply below_drew1) | exact HB.out)⟩
                      · rw [if_neg c48] at H
                        have c48b0 : (t132 == t122) = false := beq_eq_false_iff_ne.mpr c48
                        have c48b1 : (t132 != t122) = true := bne_iff_ne.mpr c48
                        exact absurd H (by simp)
                  · replace c38 := Bool.eq_false_iff.mpr c38
                    subst c38
                    have H1 : (some false) = some true := by rw [if_neg (show ¬ (false = true) by decide)] at H; exact H
                    clear H
                    have H := H1
                    clear H1
                    exact absurd H (by simp)
                · rw [if_neg c34] at H
                  have c34b0 : (t124 == t122) = false := beq_eq_false_iff_ne.mpr c34
                  have c34b1 : (t124 != t122) = true := bne_iff_ne.mpr c34
                  exact absurd H (by simp)
      · replace c12 := Bool.eq_false_iff.mpr c12
        subst c12
        have H1 : (some false) = some true := by rw [if_neg (show ¬ (false = true) by decide)] at H; exact H
        clear H
        have H := H1
        clear H1
        exact absurd H (by simp)
    · replace c9 := Bool.eq_false_iff.mpr c9
      subst c9
      have H1 : (some false) = some true := by rw [if_neg (show ¬ (false = true) by decide)] at H; exact H
      clear H
      have H := H1
      clear H1
      exact absurd H (by simp)

end Go.Proofs.YtkgloicnfphmoaaGreatDoor.Print
