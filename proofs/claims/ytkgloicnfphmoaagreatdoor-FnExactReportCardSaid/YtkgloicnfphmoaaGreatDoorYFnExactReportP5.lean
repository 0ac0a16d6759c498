/- Functions of the translation as plain Lean functions, and their contracts. No condition. -/
import Derived.Test.YtkgloicnfphmoaaGreatDoorYFnExactReportPB
import Derived.Test.YtkgloicnfphmoaaGreatDoorYFnExactReportP2
import Derived.Test.YtkgloicnfphmoaaGreatDoorYFnExactReportP4
import Derived.Test.YtkgloicnfphmoaaGreatDoorYFnExactReportP3
namespace Go.Proofs.YtkgloicnfphmoaaGreatDoor.Print
open Go.RowKit Go.Proofs.YtkgloicnfphmoaaGreatDoorW.PrintWords Go.Proofs.YtkgloicnfphmoaaGreatDoorW.PrintLast Go.Proofs.YtkgloicnfphmoaaGreatDoorW.PrintMore
attribute [local go_sem] max2_int min2_int max_two min_two max_three min_three max_four min_four   -- for this text's walks alone
set_option linter.unusedVariables false
set_option linter.unusedSimpArgs false

/-! ### spec_OrderValid: function 34 -/
mutual
def spec_OrderValid.j0 : Nat → List (S29) → List Int → Bool → Option (Bool)
  | 0, _, _, _ => none
  | k + 1, x0, x1, x15 => if x15 = true then (some false) else (spec_OrderValid.l0 k x0 x1 0)
def spec_OrderValid.l0 : Nat → List (S29) → List Int → Int → Option (Bool)
  | 0, _, _, _ => none
  | k + 1, x0, x1, x5 => if x5 < (x1.length : Int) then (if 0 ≤ x5 then ((spec_l1In.f (rd x1 x5) 0 (wrap64 ((x0.length : Int) - 1))).bind fun t103 => (if t103 = true then (if x5 ≤ (x1.length : Int) then ((spec_l4Index.f k (x1.take (x5 : Int).toNat) (rd x1 x5)).bind fun t106 => (if t106 ≥ 0 then (some false) else (spec_OrderValid.l0 k x0 x1 (wrap64 (x5 + 1))))) else (none)) else (some false))) else (none)) else (some true)
end
def spec_OrderValid.f (k : Nat) (l0 : List (S29)) (l1 : List Int) : Option (Bool) := (spec_SetValid.f k l0).bind fun t101 => (if t101 = true then (spec_OrderValid.j0 k l0 l1 ((l1.length : Int) != (l0.length : Int))) else (spec_OrderValid.j0 k l0 l1 true))
set_option maxHeartbeats 8000000 in
set_option maxRecDepth 100000 in
theorem spec_OrderValid.calls (k : Nat) (A0 : Option Addr) (c0 : Nat) (l0 : List (S29)) (A1 : Option Addr) (c1 : Nat) (l1 : List Int) (r : Bool) (w : World) (hr0 : Kd.C k29 w A0 l0.length l0) (hc0 : l0.length ≤ c0) (hr1 : Kd.C (Kd.int .i64) w A1 l1.length l1) (hc1 : l1.length ≤ c1) (h : spec_OrderValid.f k l0 l1 = some r) :
    Calls Tryz.prog 34 #[.slice A0 l0.length c0, .slice A1 l1.length c1] w fun e w' => e = .returned (.bool r) ∧ Below w.heap.size w w' := by
  have HR0 := Aside0.mk hr0
  have HC0 := Aside0.mk hc0
  clear hr0 hc0
  have HR1 := Aside0.mk hr1
  have HC1 := Aside0.mk hc1
  clear hr1 hc1
  have HB := Aside0.mk (Below.refl w.heap.size w)
  have H : ((spec_SetValid.f k l0).bind fun t101 => (if t101 = true then (spec_OrderValid.j0 k l0 l1 ((l1.length : Int) != (l0.length : Int))) else (spec_OrderValid.j0 k l0 l1 true))) = some r := h
  clear h
  have HC3 := Aside0.mk H
  clear H
  go_enter Tryz.func34, Tryz.ntmps34
  go_upto_region 1 with (fail)
  repeat (go_quiet (fail); go_upto_region 1 with (fail))
  go_cut [15] (fun v15 wc => ∃ (kq : Nat) (x15_2 : Bool), v15 = .bool x15_2 ∧ Aside0 (spec_OrderValid.j0 kq l0 l1 x15_2 = some r) ∧ Aside0 (kq ≤ k) ∧ Aside0 (Below w.heap.size w wc))
  case first =>
    have H := HC3.out
    clear HC3
    replace H := Option.bind_eq_some_iff.mp H
    obtain ⟨t101, A40, H⟩ := H
    replace H : (if t101 = true then (spec_OrderValid.j0 k l0 l1 ((l1.length : Int) != (l0.length : Int))) else (spec_OrderValid.j0 k l0 l1 true)) = some r := H
    have A4 := Aside0.mk A40
    clear A40
    by_cases c5 : t101 = true
    · subst c5
      have H1 : (spec_OrderValid.j0 k l0 l1 ((l1.length : Int) != (l0.length : Int))) = some r := by rw [if_pos rfl] at H; exact H
      clear H
      have H := H1
      clear H1
      have H' := Aside0.mk H
      clear H
      go_wp2_with (first | (go_at_call 30; (with_reducible refine (spec_SetValid.calls k _ _ l0 true _ ?side1 ?side2 A4.out).mono ?_); (case side1 => repeat (first | exact (Kd.C_below HR0.out HB.out) | (with_reducible refine Kd.C_alloc ?_ _) | (with_reducible refine Kd.C_drewN ?_ _) | (with_reducible refine Kd.C_drew ?_))); (case side2 => exact HC0.out); rintro e w6 ⟨rfl, hb⟩; have n0_ := Aside0.mk (below_step bq hb); clear HB; have HB := n0_; clear n0_; (try clear hb); (try clear hb2); (try clear hk); (try clear hi)))
      repeat (go_quiet (first | (go_at_call 30; (with_reducible refine (spec_SetValid.calls k _ _ l0 true _ ?side1 ?side2 A4.out).mono ?_); (case side1 => repeat (first | exact (Kd.C_below HR0.out HB.out) | (with_reducible refine Kd.C_alloc ?_ _) | (with_reducible refine Kd.C_drewN ?_ _) | (with_reducible refine Kd.C_drew ?_))); (case side2 => exact HC0.out); rintro e w6 ⟨rfl, hb⟩; have n0_ := Aside0.mk (below_step bq hb); clear HB; have HB := n0_; clear n0_; (try clear hb); (try clear hb2); (try clear hk); (try clear hi))); try go_wp2_with (first | (go_at_call 30; (with_reducible refine (spec_SetValid.calls k _ _ l0 true _ ?side1 ?side2 A4.out).mono ?_); (case side1 => repeat (first | exact (Kd.C_below HR0.out HB.out) | (with_reducible refine Kd.C_alloc ?_ _) | (with_reducible refine Kd.C_drewN ?_ _) | (with_reducible refine Kd.C_drew ?_))); (case side2 => exact HC0.out); rintro e w6 ⟨rfl, hb⟩; have n0_ := Aside0.mk (below_step bq hb); clear HB; have HB := n0_; clear n0_; (try clear hb); (try clear hb2); (try clear hk); (try clear hi))))
      go_meet
      case rel => exact ⟨_, (((l1.length : Int) != (l0.length : Int))), q2, H', ⟨by first | omega | exact Nat.le_refl _⟩, ⟨by repeat (first | (with_reducible first | exact HB.out | apply below_alloc | apply pw_below_drewN | apply below_drew1) | exact HB.out)⟩⟩
    · replace c5 := Bool.eq_false_iff.mpr c5
      subst c5
      have H1 : (spec_OrderValid.j0 k l0 l1 true) = some r := by rw [if_neg (show ¬ (false = true) by decide)] at H; exact H
      clear H
      have H := H1
      clear H1
      have H' := Aside0.mk H
      clear H
      go_wp2_with (first | (go_at_call 30; (with_reducible refine (spec_SetValid.calls k _ _ l0 false _ ?side1 ?side2 A4.out).mono ?_); (case side1 => repeat (first | exact (Kd.C_below HR0.out HB.out) | (with_reducible refine Kd.C_alloc ?_ _) | (with_reducible refine Kd.C_drewN ?_ _) | (with_reducible refine Kd.C_drew ?_))); (case side2 => exact HC0.out); rintro e w7 ⟨rfl, hb⟩; have n0_ := Aside0.mk (below_step bq hb); clear HB; have HB := n0_; clear n0_; (try clear hb); (try clear hb2); (try clear hk); (try clear hi)))
      repeat (go_quiet (first | (go_at_call 30; (with_reducible refine (spec_SetValid.calls k _ _ l0 false _ ?side1 ?side2 A4.out).mono ?_); (case side1 => repeat (first | exact (Kd.C_below HR0.out HB.out) | (with_reducible refine Kd.C_alloc ?_ _) | (with_reducible refine Kd.C_drewN ?_ _) | (with_reducible refine Kd.C_drew ?_))); (case side2 => exact HC0.out); rintro e w7 ⟨rfl, hb⟩; have n0_ := Aside0.mk (below_step bq hb); clear HB; have HB := n0_; clear n0_; (try clear hb); (try clear hb2); (try clear hk); (try clear hi))); try go_wp2_with (first | (go_at_call 30; (with_reducible refine (spec_SetValid.calls k _ _ l0 false _ ?side1 ?side2 A4.out).mono ?_); (case side1 => repeat (first | exact (Kd.C_below HR0.out HB.out) | (with_reducible refine Kd.C_alloc ?_ _) | (with_reducible refine Kd.C_drewN ?_ _) | (with_reducible refine Kd.C_drew ?_))); (case side2 => exact HC0.out); rintro e w7 ⟨rfl, hb⟩; have n0_ := Aside0.mk (below_step bq hb); clear HB; have HB := n0_; clear n0_; (try clear hb); (try clear hb2); (try clear hk); (try clear hi))))
      go_meet
      case rel => exact ⟨_, (true), q2, H', ⟨by first | omega | exact Nat.le_refl _⟩, ⟨by repeat (first | (with_reducible first | exact HB.out | apply below_alloc | apply pw_below_drewN | apply below_drew1) | exact HB.out)⟩⟩
  case rest =>
    clear HC3
    try clear c1
    try clear p2
    try clear c3
    try clear c5
    obtain ⟨kq, x15_2, rfl, HA, HJ2, HB⟩ := hcut
    cases kq with
    | zero => exact absurd HA.out (by simp [spec_OrderValid.j0])
    | succ kj2 =>
      have H := HA.out
      clear HA
      simp only [spec_OrderValid.j0] at H
      by_cases c8 : x15_2 = true
      · subst c8
        have H1 : (some false) = some r := by rw [if_pos rfl] at H; exact H
        clear H
        have H := H1
        clear H1
        obtain rfl := Option.some.inj H
        go_wp2
        repeat (go_quiet (fail); try go_wp2)
        go_ret
        exact ⟨by first | rfl | (simp [errW_none, errW_some] <;> rfl) | (simp [*, errW_none, errW_some] <;> rfl), by repeat (first | (with_reducible first | exact HB.out | apply below_alloc | apply pw_below_drewN | apply below_drew1) | exact HB.out)⟩
      · replace c8 := Bool.eq_false_iff.mpr c8
        subst c8
        have H1 : (spec_OrderValid.l0 kj2 l0 l1 0) = some r := by rw [if_neg (show ¬ (false = true) by decide)] at H; exact H
        clear H
        have H := H1
        clear H1
        have H' := Aside0.mk H
        clear H
        go_wp2
        repeat (go_quiet (fail); try go_wp2)
        go_loopg [5] kj2 (fun kq v5 w' => ∃ (x5_2 : Int), v5 = .int .i64 x5_2 ∧ Aside0 (spec_OrderValid.l0 kq l0 l1 x5_2 = some r) ∧ Aside0 (kq ≤ kj2) ∧ Aside0 (Below w.heap.size w w'))
        case atStart => exact ⟨(0), q2, H', ⟨Nat.le_refl _⟩, ⟨by repeat (first | (with_reducible first | exact HB.out | apply below_alloc | apply pw_below_drewN | apply below_drew1) | exact HB.out)⟩⟩
        case round =>
          clear H'
          try clear c1
          try clear p2
          try clear c3
          try clear c5
          try clear c8
          try clear p2
          obtain ⟨x5_2, rfl, HA, HK2, HB⟩ := hrel
          cases gk with
          | zero => exact absurd HA.out (by simp [spec_OrderValid.l0])
          | succ k2 =>
            have H := HA.out
            clear HA
            simp only [spec_OrderValid.l0] at H
            by_cases c9 : x5_2 < (l1.length : Int)
            · rw [if_pos c9] at H
              have c9b0 : decide (x5_2 < (l1.length : Int)) = true := decide_eq_true c9
              clear c9
              by_cases c10 : 0 ≤ x5_2
              · rw [if_pos c10] at H
                have c10b0 : decide (0 ≤ x5_2) = true := decide_eq_true c10
                clear c10
                replace H := Option.bind_eq_some_iff.mp H
                obtain ⟨t103, A110, H⟩ := H
                replace H : (if t103 = true then (if x5_2 ≤ (l1.length : Int) then ((spec_l4Index.f k2 (l1.take (x5_2 : Int).toNat) (rd l1 x5_2)).bind fun t106 => (if t106 ≥ 0 then (some false) else (spec_OrderValid.l0 k2 l0 l1 (wrap64 (x5_2 + 1))))) else (none)) else (some false)) = some r := H
                have A11 := Aside0.mk A110
                clear A110
                by_cases c12 : t103 = true
                · subst c12
                  have H1 : (if x5_2 ≤ (l1.length : Int) then ((spec_l4Index.f k2 (l1.take (x5_2 : Int).toNat) (rd l1 x5_2)).bind fun t106 => (if t106 ≥ 0 then (some false) else (spec_OrderValid.l0 k2 l0 l1 (wrap64 (x5_2 + 1))))) else (none)) = some r := by rw [if_pos rfl] at H; exact H
                  clear H
                  have H := H1
                  clear H1
                  have c13b0 := eq_true (of_decide_eq_true q3 : 0 ≤ x5_2)
                  by_cases c14 : x5_2 ≤ (l1.length : Int)
                  · rw [if_pos c14] at H
                    have c14b0 := eq_true c14
                    have c14b1 : decide (x5_2 ≤ (l1.length : Int)) = true := decide_eq_true c14
                    clear c14
                    replace H := Option.bind_eq_some_iff.mp H
                    obtain ⟨t106, A150, H⟩ := H
                    replace H : (if t106 ≥ 0 then (some false) else (spec_OrderValid.l0 k2 l0 l1 (wrap64 (x5_2 + 1)))) = some r := H
                    have A15 := Aside0.mk A150
                    clear A150
                    by_cases c16 : t106 ≥ 0
                    · rw [if_pos c16] at H
                      have c16b0 : decide (0 ≤ t106) = true := decide_eq_true c16
                      clear c16
                      obtain rfl := Option.some.inj H
                      have p102 : 0 ≤ (x5_2 : Int) := of_decide_eq_true q3
                      have q102 : x5_2 < (l1.length : Int) := of_decide_eq_true q3
                      obtain ⟨ad102, e102, hx102_0⟩ := Kd.at_int HR1.out x5_2 p102 q102
                      cases e102
                      replace hx102_0 := (HB.out.cell (World.block_lt_of_cell? w _ hx102_0)).trans hx102_0
                      replace p102 := eq_true p102
                      replace q102 := eq_true q102
                      go_wp2_with (first | (go_at_call 53; (with_reducible refine (spec_l1In.calls (rd l1 x5_2) 0 (wrap64 ((l0.length : Int) - 1)) true _ A11.out).mono ?_); rintro e w' ⟨rfl, ⟨nd, rfl⟩⟩; (try first | exact ⟨rfl, _, World.drewN_drewN _ _ _⟩ | exact ⟨rfl, _, Eq.trans (World.drewN_drewN _ _ _) (congrArg (World.drewN _) (Nat.add_assoc _ _ _))⟩); obtain ⟨i017, hi017, _, hsz17, _⟩ := info_parts info3; obtain ⟨hcut17, hA17, hC17⟩ := print_take_of (P := Tryz.prog) (Value.int .i64) 0 38 3 .i64 Tryz.underlying38 hi017 hsz17 (some ad102) c1 l1 x5_2 (of_decide_eq_true q3) (of_decide_eq_true q3) HC1.out; have HR104 := Aside0.mk (Kd.C_of_reads (h1 := fun _ => rfl) (hA17 _ (Kd.reads_of_C HR1.out))); have HC104 := Aside0.mk hC17; clear hA17 hC17 hi017 hsz17; have p105 : 0 ≤ (x5_2 : Int) := of_decide_eq_true q3; have q105 : x5_2 < (l1.length : Int) := of_decide_eq_true q3; obtain ⟨ad105, e105, hx105_0⟩ := Kd.at_int HR1.out x5_2 p105 q105; obtain rfl : ad102 = ad105 := (by injection e105); replace hx105_0 := (HB.out.cell (World.block_lt_of_cell? w _ hx105_0)).trans hx105_0; replace p105 := eq_true p105; replace q105 := eq_true q105) | (go_at_call 55; (with_reducible refine (spec_l4Index.calls k2 _ _ (l1.take (x5_2 : Int).toNat) (rd l1 x5_2) t106 _ ?side1 ?side2 A15.out).mono ?_); (case side1 => repeat (first | exact (Kd.C_below HR104.out bq) | (with_reducible refine Kd.C_alloc ?_ _) | (with_reducible refine Kd.C_drewN ?_ _) | (with_reducible refine Kd.C_drew ?_))); (case side2 => exact HC104.out); rintro e w' ⟨rfl, ⟨nd, rfl⟩⟩; (try first | exact ⟨rfl, _, World.drewN_drewN _ _ _⟩ | exact ⟨rfl, _, Eq.trans (World.drewN_drewN _ _ _) (congrArg (World.drewN _) (Nat.add_assoc _ _ _))⟩)))
                      (try (obtain ⟨i017, hi017, _, hsz17, _⟩ := info_parts info3; obtain ⟨hcut17, hA17, hC17⟩ := print_take_of (P := Tryz.prog) (Value.int .i64) 0 38 3 .i64 Tryz.underlying38 hi017 hsz17 (some ad102) c1 l1 x5_2 (of_decide_eq_true q3) (of_decide_eq_true q3) HC1.out; have HR104 := Aside0.mk (Kd.C_of_reads (h1 := fun _ => rfl) (hA17 _ (Kd.reads_of_C HR1.out))); have HC104 := Aside0.mk hC17; clear hA17 hC17 hi017 hsz17; have p105 : 0 ≤ (x5_2 : Int) := of_decide_eq_true q3; have q105 : x5_2 < (l1.length : Int) := of_decide_eq_true q3; obtain ⟨ad105, e105, hx105_0⟩ := Kd.at_int HR1.out x5_2 p105 q105; obtain rfl : ad102 = ad105 := (by injection e105); replace hx105_0 := (HB.out.cell (World.block_lt_of_cell? w _ hx105_0)).trans hx105_0; replace p105 := eq_true p105; replace q105 := eq_true q105))
                      repeat (go_quiet (first | (go_at_call 53; (first | (with_reducible refine (spec_l1In.calls (rd l1 x5_2) 0 (wrap64 ((l0.length : Int) - 1)) true _ A11.out).mono ?_) | (simp only [i64_w]; with_reducible refine (spec_l1In.calls (rd l1 x5_2) 0 (wrap64 ((l0.length : Int) - 1)) true _ A11.out).mono ?_)); rintro e w' ⟨rfl, ⟨nd, rfl⟩⟩; (try first | exact ⟨rfl, _, World.drewN_drewN _ _ _⟩ | exact ⟨rfl, _, Eq.trans (World.drewN_drewN _ _ _) (congrArg (World.drewN _) (Nat.add_assoc _ _ _))⟩)) | (go_at_call 55; (try rw [show x5_2.toNat = (l1.take (x5_2 : Int).toNat).length from (by rw [List.length_take]; have h_ : (x5_2 : Int) ≤ (l1.length : Int) := of_decide_eq_true q3; omega)]); (with_reducible refine (spec_l4Index.calls k2 _ _ (l1.take (x5_2 : Int).toNat) (rd l1 x5_2) t106 _ ?side1 ?side2 A15.out).mono ?_); (case side1 => repeat (first | exact (Kd.C_below HR104.out bq) | (with_reducible refine Kd.C_alloc ?_ _) | (with_reducible refine Kd.C_drewN ?_ _) | (with_reducible refine Kd.C_drew ?_))); (case side2 => exact HC104.out); rintro e w' ⟨rfl, ⟨nd, rfl⟩⟩; (try first | exact ⟨rfl, _, World.drewN_drewN _ _ _⟩ | exact ⟨rfl, _, Eq.trans (World.drewN_drewN _ _ _) (congrArg (World.drewN _) (Nat.add_assoc _ _ _))⟩))); try go_wp2_with (first | (go_at_call 53; (first | (with_reducible refine (spec_l1In.calls (rd l1 x5_2) 0 (wrap64 ((l0.length : Int) - 1)) true _ A11.out).mono ?_) | (simp only [i64_w]; with_reducible refine (spec_l1In.calls (rd l1 x5_2) 0 (wrap64 ((l0.length : Int) - 1)) true _ A11.out).mono ?_)); rintro e w' ⟨rfl, ⟨nd, rfl⟩⟩; (try first | exact ⟨rfl, _, World.drewN_drewN _ _ _⟩ | exact ⟨rfl, _, Eq.trans (World.drewN_drewN _ _ _) (congrArg (World.drewN _) (Nat.add_assoc _ _ _))⟩); obtain ⟨i017, hi017, _, hsz17, _⟩ := info_parts info3; obtain ⟨hcut17, hA17, hC17⟩ := print_take_of (P := Tryz.prog) (Value.int .i64) 0 38 3 .i64 Tryz.underlying38 hi017 hsz17 (some ad102) c1 l1 x5_2 (of_decide_eq_true q3) (of_decide_eq_true q3) HC1.out; have HR104 := Aside0.mk (Kd.C_of_reads (h1 := fun _ => rfl) (hA17 _ (Kd.reads_of_C HR1.out))); have HC104 := Aside0.mk hC17; clear hA17 hC17 hi017 hsz17; have p105 : 0 ≤ (x5_2 : Int) := of_decide_eq_true q3; have q105 : x5_2 < (l1.length : Int) := of_decide_eq_true q3; obtain ⟨ad105, e105, hx105_0⟩ := Kd.at_int HR1.out x5_2 p105 q105; obtain rfl : ad102 = ad105 := (by injection e105); replace hx105_0 := (HB.out.cell (World.block_lt_of_cell? w _ hx105_0)).trans hx105_0; replace p105 := eq_true p105; replace q105 := eq_true q105) | (go_at_call 55; (with_reducible refine (spec_l4Index.calls k2 _ _ (l1.take (x5_2 : Int).toNat) (rd l1 x5_2) t106 _ ?side1 ?side2 A15.out).mono ?_); (case side1 => repeat (first | exact (Kd.C_below HR104.out bq) | (with_reducible refine Kd.C_alloc ?_ _) | (with_reducible refine Kd.C_drewN ?_ _) | (with_reducible refine Kd.C_drew ?_))); (case side2 => exact HC104.out); rintro e w' ⟨rfl, ⟨nd, rfl⟩⟩; (try first | exact ⟨rfl, _, World.drewN_drewN _ _ _⟩ | exact ⟨rfl, _, Eq.trans (World.drewN_drewN _ _ _) (congrArg (World.drewN _) (Nat.add_assoc _ _ _))⟩))))
                      go_ret
                      exact ⟨by first | rfl | (simp [errW_none, errW_some] <;> rfl) | (simp [*, errW_none, errW_some] <;> rfl), by repeat (first | (with_reducible first | exact HB.out | apply below_alloc | apply pw_below_drewN | apply below_drew1) | exact HB.out)⟩
                    · rw [if_neg c16] at H
                      have c16b0 : decide (0 ≤ t106) = false := decide_eq_false c16
                      clear c16
                      have H' := Aside0.mk H
                      clear H
                      have p102 : 0 ≤ (x5_2 : Int) := of_decide_eq_true q3
                      have q102 : x5_2 < (l1.length : Int) := of_decide_eq_true q3
                      obtain ⟨ad102, e102, hx102_0⟩ := Kd.at_int HR1.out x5_2 p102 q102
                      cases e102
                      replace hx102_0 := (HB.out.cell (World.block_lt_of_cell? w _ hx102_0)).trans hx102_0
                      replace p102 := eq_true p102
                      replace q102 := eq_true q102
                      go_wp2_with (first | (go_at_call 53; (with_reducible refine (spec_l1In.calls (rd l1 x5_2) 0 (wrap64 ((l0.length : Int) - 1)) true _ A11.out).mono ?_); rintro e w' ⟨rfl, ⟨nd, rfl⟩⟩; (try first | exact ⟨rfl, _, World.drewN_drewN _ _ _⟩ | exact ⟨rfl, _, Eq.trans (World.drewN_drewN _ _ _) (congrArg (World.drewN _) (Nat.add_assoc _ _ _))⟩); obtain ⟨i018, hi018, _, hsz18, _⟩ := info_parts info3; obtain ⟨hcut18, hA18, hC18⟩ := print_take_of (P := Tryz.prog) (Value.int .i64) 0 38 3 .i64 Tryz.underlying38 hi018 hsz18 (some ad102) c1 l1 x5_2 (of_decide_eq_true q3) (of_decide_eq_true q3) HC1.out; have HR104 := Aside0.mk (Kd.C_of_reads (h1 := fun _ => rfl) (hA18 _ (Kd.reads_of_C HR1.out))); have HC104 := Aside0.mk hC18; clear hA18 hC18 hi018 hsz18; have p105 : 0 ≤ (x5_2 : Int) := of_decide_eq_true q3; have q105 : x5_2 < (l1.length : Int) := of_decide_eq_true q3; obtain ⟨ad105, e105, hx105_0⟩ := Kd.at_int HR1.out x5_2 p105 q105; obtain rfl : ad102 = ad105 := (by injection e105); replace hx105_0 := (HB.out.cell (World.block_lt_of_cell? w _ hx105_0)).trans hx105_0; replace p105 := eq_true p105; replace q105 := eq_true q105) | (go_at_call 55; (with_reducible refine (spec_l4Index.calls k2 _ _ (l1.take (x5_2 : Int).toNat) (rd l1 x5_2) t106 _ ?side1 ?side2 A15.out).mono ?_); (case side1 => repeat (first | exact (Kd.C_below HR104.out bq) | (with_reducible refine Kd.C_alloc ?_ _) | (with_reducible refine Kd.C_drewN ?_ _) | (with_reducible refine Kd.C_drew ?_))); (case side2 => exact HC104.out); rintro e w' ⟨rfl, ⟨nd, rfl⟩⟩; (try first | exact ⟨rfl, _, World.drewN_drewN _ _ _⟩ | exact ⟨rfl, _, Eq.trans (World.drewN_drewN _ _ _) (congrArg (World.drewN _) (Nat.add_assoc _ _ _))⟩)))
                      (try (obtain ⟨i018, hi018, _, hsz18, _⟩ := info_parts info3; obtain ⟨hcut18, hA18, hC18⟩ := print_take_of (P := Tryz.prog) (Value.int .i64) 0 38 3 .i64 Tryz.underlying38 hi018 hsz18 (some ad102) c1 l1 x5_2 (of_decide_eq_true q3) (of_decide_eq_true q3) HC1.out; have HR104 := Aside0.mk (Kd.C_of_reads (h1 := fun _ => rfl) (hA18 _ (Kd.reads_of_C HR1.out))); have HC104 := Aside0.mk hC18; clear hA18 hC18 hi018 hsz18; have p105 : 0 ≤ (x5_2 : Int) := of_decide_eq_true q3; have q105 : x5_2 < (l1.length : Int) := of_decide_eq_true q3; obtain ⟨ad105, e105, hx105_0⟩ := Kd.at_int HR1.out x5_2 p105 q105; obtain rfl : ad102 = ad105 := (by injection e105); replace hx105_0 := (HB.out.cell (World.block_lt_of_cell? w _ hx105_0)).trans hx105_0; replace p105 := eq_true p105; replace q105 := eq_true q105))
                      repeat (go_quiet (first | (go_at_call 53; (first | (with_reducible refine (spec_l1In.calls (rd l1 x5_2) 0 (wrap64 ((l0.length : Int) - 1)) true _ A11.out).mono ?_) | (simp only [i64_w]; with_reducible refine (spec_l1In.calls (rd l1 x5_2) 0 (wrap64 ((l0.length : Int) - 1)) true _ A11.out).mono ?_)); rintro e w' ⟨rfl, ⟨nd, rfl⟩⟩; (try first | exact ⟨rfl, _, World.drewN_drewN _ _ _⟩ | exact ⟨rfl, _, Eq.trans (World.drewN_drewN _ _ _) (congrArg (World.drewN _) (Nat.add_assoc _ _ _))⟩)) | (go_at_call 55; (try rw [show x5_2.toNat = (l1.take (x5_2 : Int).toNat).length from (by rw [List.length_take]; have h_ : (x5_2 : Int) ≤ (l1.length : Int) := of_decide_eq_true q3; omega)]); (with_reducible refine (spec_l4Index.calls k2 _ _ (l1.take (x5_2 : Int).toNat) (rd l1 x5_2) t106 _ ?side1 ?side2 A15.out).mono ?_); (case side1 => repeat (first | exact (Kd.C_below HR104.out bq) | (with_reducible refine Kd.C_alloc ?_ _) | (with_reducible refine Kd.C_drewN ?_ _) | (with_reducible refine Kd.C_drew ?_))); (case side2 => exact HC104.out); rintro e w' ⟨rfl, ⟨nd, rfl⟩⟩; (try first | exact ⟨rfl, _, World.drewN_drewN _ _ _⟩ | exact ⟨rfl, _, Eq.trans (World.drewN_drewN _ _ _) (congrArg (World.drewN _) (Nat.add_assoc _ _ _))⟩))); try go_wp2_with (first | (go_at_call 53; (first | (with_reducible refine (spec_l1In.calls (rd l1 x5_2) 0 (wrap64 ((l0.length : Int) - 1)) true _ A11.out).mono ?_) | (simp only [i64_w]; with_reducible refine (spec_l1In.calls (rd l1 x5_2) 0 (wrap64 ((l0.length : Int) - 1)) true _ A11.out).mono ?_)); rintro e w' ⟨rfl, ⟨nd, rfl⟩⟩; (try first | exact ⟨rfl, _, World.drewN_drewN _ _ _⟩ | exact ⟨rfl, _, Eq.trans (World.drewN_drewN _ _ _) (congrArg (World.drewN _) (Nat.add_assoc _ _ _))⟩); obtain ⟨i018, hi018, _, hsz18, _⟩ := info_parts info3; obtain ⟨hcut18, hA18, hC18⟩ := print_take_of (P := Tryz.prog) (Value.int .i64) 0 38 3 .i64 Tryz.underlying38 hi018 hsz18 (some ad102) c1 l1 x5_2 (of_decide_eq_true q3) (of_decide_eq_true q3) HC1.out; have HR104 := Aside0.mk (Kd.C_of_reads (h1 := fun _ => rfl) (hA18 _ (Kd.reads_of_C HR1.out))); have HC104 := Aside0.mk hC18; clear hA18 hC18 hi018 hsz18; have p105 : 0 ≤ (x5_2 : Int) := of_decide_eq_true q3; have q105 : x5_2 < (l1.length : Int) := of_decide_eq_true q3; obtain ⟨ad105, e105, hx105_0⟩ := Kd.at_int HR1.out x5_2 p105 q105; obtain rfl : ad102 = ad105 := (by injection e105); replace hx105_0 := (HB.out.cell (World.block_lt_of_cell? w _ hx105_0)).trans hx105_0; replace p105 := eq_true p105; replace q105 := eq_true q105) | (go_at_call 55; (with_reducible refine (spec_l4Index.calls k2 _ _ (l1.take (x5_2 : Int).toNat) (rd l1 x5_2) t106 _ ?side1 ?side2 A15.out).mono ?_); (case side1 => repeat (first | exact (Kd.C_below HR104.out bq) | (with_reducible refine Kd.C_alloc ?_ _) | (with_reducible refine Kd.C_drewN ?_ _) | (with_reducible refine Kd.C_drew ?_))); (case side2 => exact HC104.out); rintro e w' ⟨rfl, ⟨nd, rfl⟩⟩; (try first | exact ⟨rfl, _, World.drewN_drewN _ _ _⟩ | exact ⟨rfl, _, Eq.trans (World.drewN_drewN _ _ _) (congrArg (World.drewN _) (Nat.add_assoc _ _ _))⟩))))
                      go_roundg k2
                      case measure => have := HJ2.out; have := HK2.out; omega
                      case rel => exact ⟨(wrap64 (x5_2 + 1)), q2, H', ⟨by have := HJ2.out; have := HK2.out; omega⟩, ⟨by repeat (first | (with_reducible first | exact HB.out | apply below_alloc | apply pw_below_drewN | apply below_drew1) | exact HB.out)⟩⟩
                  · rw [if_neg c14] at H
                    exact absurd H (by simp)
                · replace c12 := Bool.eq_false_iff.mpr c12
                  subst c12
                  have H1 : (some false) = some r := by rw [if_neg (show ¬ (false = true) by decide)] at H; exact H
                  clear H
                  have H := H1
                  clear H1
                  obtain rfl := Option.some.inj H
                  have p102 : 0 ≤ (x5_2 : Int) := of_decide_eq_true q3
                  have q102 : x5_2 < (l1.length : Int) := of_decide_eq_true q3
                  obtain ⟨ad102, e102, hx102_0⟩ := Kd.at_int HR1.out x5_2 p102 q102
                  cases e102
                  replace hx102_0 := (HB.out.cell (World.block_lt_of_cell? w _ hx102_0)).trans hx102_0
                  replace p102 := eq_true p102
                  replace q102 := eq_true q102
                  go_wp2_with (first | (go_at_call 53; (with_reducible refine (spec_l1In.calls (rd l1 x5_2) 0 (wrap64 ((l0.length : Int) - 1)) false _ A11.out).mono ?_); rintro e w' ⟨rfl, ⟨nd, rfl⟩⟩; (try first | exact ⟨rfl, _, World.drewN_drewN _ _ _⟩ | exact ⟨rfl, _, Eq.trans (World.drewN_drewN _ _ _) (congrArg (World.drewN _) (Nat.add_assoc _ _ _))⟩)))
                  repeat (go_quiet (first | (go_at_call 53; (first | (with_reducible refine (spec_l1In.calls (rd l1 x5_2) 0 (wrap64 ((l0.length : Int) - 1)) false _ A11.out).mono ?_) | (simp only [i64_w]; with_reducible refine (spec_l1In.calls (rd l1 x5_2) 0 (wrap64 ((l0.length : Int) - 1)) false _ A11.out).mono ?_)); rintro e w' ⟨rfl, ⟨nd, rfl⟩⟩; (try first | exact ⟨rfl, _, World.drewN_drewN _ _ _⟩ | exact ⟨rfl, _, Eq.trans (World.drewN_drewN _ _ _) (congrArg (World.drewN _) (Nat.add_assoc _ _ _))⟩))); try go_wp2_with (first | (go_at_call 53; (first | (with_reducible refine (spec_l1In.calls (rd l1 x5_2) 0 (wrap64 ((l0.length : Int) - 1)) false _ A11.out).mono ?_) | (simp only [i64_w]; with_reducible refine (spec_l1In.calls (rd l1 x5_2) 0 (wrap64 ((l0.length : Int) - 1)) false _ A11.out).mono ?_)); rintro e w' ⟨rfl, ⟨nd, rfl⟩⟩; (try first | exact ⟨rfl, _, World.drewN_drewN _ _ _⟩ | exact ⟨rfl, _, Eq.trans (World.drewN_drewN _ _ _) (congrArg (World.drewN _) (Nat.add_assoc _ _ _))⟩))))
                  go_ret
                  exact ⟨by first | rfl | (simp [errW_none, errW_some] <;> rfl) | (simp [*, errW_none, errW_some] <;> rfl), by repeat (first | (with_reducible first | exact HB.out | apply below_alloc | apply pw_below_drewN | apply below_drew1) | exact HB.out)⟩
              · rw [if_neg c10] at H
                exact absurd H (by simp)
            · rw [if_neg c9] at H
              have c9b0 : decide (x5_2 < (l1.length : Int)) = false := decide_eq_false c9
              clear c9
              obtain rfl := Option.some.inj H
              go_wp2
              repeat (go_quiet (fail); try go_wp2)
              go_ret
              exact ⟨by first | rfl | (simp [errW_none, errW_some] <;> rfl) | (simp [*, errW_none, errW_some] <;> rfl), by repeat (first | (with_reducible first | exact HB.out | apply below_alloc | apply pw_below_drewN | apply below_drew1) | exact HB.out)⟩



/-! ### spec_ResponseTimes: function 16 -/
def spec_ResponseTimes.l0 : Nat → List (S29) → List Int → List Int → Int → Option (List Int)
  | 0, _, _, _, _ => none
  | k + 1, x0, x1, x5, x6 => if x6 < (x1.length : Int) then (if 0 ≤ x6 then (if x6 ≤ (x1.length : Int) then ((spec_l4Response.f k x0 (x1.take (x6 : Int).toNat) (rd x1 x6)).bind fun t111 => (if 0 ≤ (rd x1 x6) then (if (rd x1 x6) < (x5.length : Int) then (spec_ResponseTimes.l0 k x0 x1 (x5.set ((rd x1 x6) : Int).toNat t111) (wrap64 (x6 + 1))) else (none)) else (none))) else (none)) else (none)) else (some x5)
def spec_ResponseTimes.f (k : Nat) (l0 : List (S29)) (l1 : List Int) : Option (List Int) := (spec_OrderValid.f k l0 l1).bind fun t101 => (if t101 = true then (if 0 ≤ (l0.length : Int) then (if ((l0.length : Int) : Int).toNat ≤ 35184372088832 then (spec_ResponseTimes.l0 k l0 l1 (List.replicate ((l0.length : Int) : Int).toNat 0) 0) else (none)) else (none)) else (some (([] : List Int))))
def spec_ResponseTimes.T7 : Bool × List (List Nat × List Nat) := (true, [([], []), ([], []), ([], []), ([1, 2], [1, 2]), ([3], [3]), ([], []), ([], []), ([], []), ([6, 7], [6, 7]), ([], []), ([], []), ([9, 10], [9, 10]), ([11], [11]), ([5, 8, 12], [5, 8, 12]), ([0, 4, 0, 1, 2, 3, 4, 5, 6, 7, 8, 9, 10, 11, 12, 13], [0, 4]), ([14, 13, 13, 0, 1, 2, 3, 4, 5, 6, 7, 8, 9, 10, 11, 12, 13], [13, 14])])
def spec_ResponseTimes.B7 : List Nat := [0, 0, 0, 6, 14, 0, 0, 0, 192, 0, 0, 1536, 3584, 8160, 16383, 32767]
theorem spec_ResponseTimes.tab7 : rtab .any (opsOf Tryz.f16 7) = spec_ResponseTimes.T7 := by kernel_rfl
theorem spec_ResponseTimes.bits7 : waitsOk spec_ResponseTimes.T7.2 spec_ResponseTimes.B7 = true := by kernel_rfl
set_option maxHeartbeats 8000000 in
set_option maxRecDepth 100000 in
theorem spec_ResponseTimes.calls (k : Nat) (A0 : Option Addr) (c0 : Nat) (l0 : List (S29)) (A1 : Option Addr) (c1 : Nat) (l1 : List Int) (r : List Int) (w : World) (hr0 : Kd.C k29 w A0 l0.length l0) (hc0 : l0.length ≤ c0) (hr1 : Kd.C (Kd.int .i64) w A1 l1.length l1) (hc1 : l1.length ≤ c1) (h : spec_ResponseTimes.f k l0 l1 = some r) :
    Calls Tryz.prog 16 #[.slice A0 l0.length c0, .slice A1 l1.length c1] w fun e w' => ∃ v0_ : Value, e = .returned (v0_) ∧ Kd.R (Kd.int .i64) 3 w' w.heap.size (fun _ => True) v0_ r ∧ Below w.heap.size w w' := by
  have HR0 := Aside0.mk hr0
  have HC0 := Aside0.mk hc0
  clear hr0 hc0
  have HR1 := Aside0.mk hr1
  have HC1 := Aside0.mk hc1
  clear hr1 hc1
  have HB := Aside0.mk (Below.refl w.heap.size w)
  have H : ((spec_OrderValid.f k l0 l1).bind fun t101 => (if t101 = true then (if 0 ≤ (l0.length : Int) then (if ((l0.length : Int) : Int).toNat ≤ 35184372088832 then (spec_ResponseTimes.l0 k l0 l1 (List.replicate ((l0.length : Int) : Int).toNat 0) 0) else (none)) else (none)) else (some (([] : List Int))))) = some r := h
  clear h
  replace H := Option.bind_eq_some_iff.mp H
  obtain ⟨t101, A30, H⟩ := H
  replace H : (if t101 = true then (if 0 ≤ (l0.length : Int) then (if ((l0.length : Int) : Int).toNat ≤ 35184372088832 then (spec_ResponseTimes.l0 k l0 l1 (List.replicate ((l0.length : Int) : Int).toNat 0) 0) else (none)) else (none)) else (some (([] : List Int)))) = some r := H
  have A3 := Aside0.mk A30
  clear A30
  by_cases c4 : t101 = true
  · subst c4
    have H1 : (if 0 ≤ (l0.length : Int) then (if ((l0.length : Int) : Int).toNat ≤ 35184372088832 then (spec_ResponseTimes.l0 k l0 l1 (List.replicate ((l0.length : Int) : Int).toNat 0) 0) else (none)) else (none)) = some r := by rw [if_pos rfl] at H; exact H
    clear H
    have H := H1
    clear H1
    by_cases c5 : 0 ≤ (l0.length : Int)
    · rw [if_pos c5] at H
      have c5b0 := eq_true c5
      have c5b1 : decide (0 ≤ (l0.length : Int)) = true := decide_eq_true c5
      clear c5
      by_cases c6 : ((l0.length : Int) : Int).toNat ≤ 35184372088832
      · rw [if_pos c6] at H
        have c6b0 := eq_true c6
        have c6b1 : decide (((l0.length : Int) : Int).toNat ≤ 35184372088832) = true := decide_eq_true c6
        clear c6
        obtain ⟨y105, hy105⟩ : ∃ y_ : List Int, y_ = (List.replicate ((l0.length : Int) : Int).toNat 0) := ⟨_, rfl⟩
        replace H : (spec_ResponseTimes.l0 k l0 l1 y105 0) = some r := by first | (rw [hy105]; with_reducible exact H) | (have H2_ := (Option.bind_some _ _).symm.trans H; rw [hy105]; with_reducible exact H2_) | (have H2_ := (Option.bind_some _ _).symm.trans H; with_reducible exact H2_) | with_reducible exact H | (rw [hy105]; exact H) | exact H
        have Ny105 := Aside0.mk hy105
        clear hy105
        have H' := Aside0.mk H
        clear H
        go_enter Tryz.func16, Tryz.ntmps16
        go_wp2_with (first | ((with_reducible refine gate_callee (f := 34) rfl ?_); refine goesL_ (some 9) rfl rfl Tryz.func34 (by kernel_rfl) rfl #[.slice A0 l0.length c0, .slice A1 l1.length c1] rfl q1 ?_; (with_reducible refine (spec_OrderValid.calls k _ _ l0 _ _ l1 true _ ?side1 ?side2 ?side3 ?side4 A3.out).mono ?_); (case side1 => repeat (first | exact HR0.out | (with_reducible refine Kd.C_alloc ?_ _) | (with_reducible refine Kd.C_drewN ?_ _) | (with_reducible refine Kd.C_drew ?_))); (case side2 => exact HC0.out); (case side3 => repeat (first | exact HR1.out | (with_reducible refine Kd.C_alloc ?_ _) | (with_reducible refine Kd.C_drewN ?_ _) | (with_reducible refine Kd.C_drew ?_))); (case side4 => exact HC1.out); rintro e w7 ⟨rfl, hb⟩; refine ⟨_, rfl, ?_⟩; have n0_ := Aside0.mk (below_step bq hb); clear HB; have HB := n0_; clear n0_; (try clear hb); (try clear hb2); (try clear hk); (try clear hi)) | ((with_reducible refine gate_dst (N := 14) rfl ?_); refine Kd.R_make (Kd.int .i64) _ 3 rfl (N := 14) rfl 38 _ _ rfl (l0.length : Int) rfl rfl Tryz.underlying38 (.int .i64 0) 8 info3 rfl (by decide) (by omega) 0 (ok := fun _ => True) (okp := fun _ => True) rfl (fun _ hk => hk) trivial (of_decide_eq_true q3) (Nat.le_trans (Nat.mul_le_mul_right _ (of_decide_eq_true q3 : (l0.length : Int).toNat ≤ 35184372088832)) (by omega)) (Below.refl _ _) (Nat.le_refl _) ?_; intro v106 w8 ho9 hb hg_ hnew_; clear hg_ hnew_; (first | rw [← Ny105.out] at ho9 | (simp only [Int.reduceToNat] at ho9; rw [← Ny105.out] at ho9)); have n0_ := Aside0.mk (Kd.R_lower ho9 (below_size bq)); have n1_ := Aside0.mk (below_step bq hb); clear HB; have HO107 := n0_; have HB := n1_; clear n0_ n1_; clear hb ho9))
        go_loopg [6] k (fun kq v6 w' => ∃ (x5_1 : List Int) (x6_1 : Int), v6 = .int .i64 x6_1 ∧ Aside0 (spec_ResponseTimes.l0 kq l0 l1 x5_1 x6_1 = some r) ∧ Aside0 (kq ≤ k) ∧ Aside0 (Kd.R (Kd.int .i64) 3 w' w.heap.size (fun _ => True) v106 x5_1) ∧ Aside0 (Below w.heap.size w w'))
        case atStart => exact ⟨(y105), (0), q2, H', ⟨Nat.le_refl _⟩, ⟨by (with_reducible repeat (first | apply Kd.R_alloc | apply Kd.R_drewN | apply Kd.R_drew)); exact HO107.out⟩, ⟨by repeat (first | (with_reducible first | exact HB.out | apply below_alloc | apply pw_below_drewN | apply below_drew1) | exact HB.out)⟩⟩
        case round =>
          clear H'
          try clear c1
          try clear p2
          try clear c3
          try clear c4
          try clear c5
          try clear c5b0
          try clear c5b1
          try clear c6
          try clear c6b0
          try clear c6b1
          obtain ⟨x5_1, x6_1, rfl, HA, HK1, HO_5, HB⟩ := hrel
          cases gk with
          | zero => exact absurd HA.out (by simp [spec_ResponseTimes.l0])
          | succ k1 =>
            have H := HA.out
            clear HA
            simp only [spec_ResponseTimes.l0] at H
            by_cases c10 : x6_1 < (l1.length : Int)
            · rw [if_pos c10] at H
              have c10b0 : decide (x6_1 < (l1.length : Int)) = true := decide_eq_true c10
              clear c10
              by_cases c11 : 0 ≤ x6_1
              · rw [if_pos c11] at H
                have c11b0 : decide (0 ≤ x6_1) = true := decide_eq_true c11
                clear c11
                have c12b0 := eq_true (of_decide_eq_true q3 : 0 ≤ x6_1)
                by_cases c13 : x6_1 ≤ (l1.length : Int)
                · rw [if_pos c13] at H
                  have c13b0 := eq_true c13
                  have c13b1 : decide (x6_1 ≤ (l1.length : Int)) = true := decide_eq_true c13
                  clear c13
                  replace H := Option.bind_eq_some_iff.mp H
                  obtain ⟨t111, A140, H⟩ := H
                  replace H : (if 0 ≤ (rd l1 x6_1) then (if (rd l1 x6_1) < (x5_1.length : Int) then (spec_ResponseTimes.l0 k1 l0 l1 (x5_1.set ((rd l1 x6_1) : Int).toNat t111) (wrap64 (x6_1 + 1))) else (none)) else (none)) = some r := H
                  have A14 := Aside0.mk A140
                  clear A140
                  by_cases c15 : 0 ≤ (rd l1 x6_1)
                  · rw [if_pos c15] at H
                    have c15b0 : decide (0 ≤ (rd l1 x6_1)) = true := decide_eq_true c15
                    clear c15
                    by_cases c16 : (rd l1 x6_1) < (x5_1.length : Int)
                    · rw [if_pos c16] at H
                      have c16b0 : decide ((rd l1 x6_1) < (x5_1.length : Int)) = true := decide_eq_true c16
                      clear c16
                      obtain ⟨y112, hy112⟩ : ∃ y_ : List Int, y_ = (x5_1.set ((rd l1 x6_1) : Int).toNat t111) := ⟨_, rfl⟩
                      replace H : (spec_ResponseTimes.l0 k1 l0 l1 y112 (wrap64 (x6_1 + 1))) = some r := by first | (rw [hy112]; with_reducible exact H) | (have H2_ := (Option.bind_some _ _).symm.trans H; rw [hy112]; with_reducible exact H2_) | (have H2_ := (Option.bind_some _ _).symm.trans H; with_reducible exact H2_) | with_reducible exact H | (rw [hy112]; exact H) | exact H
                      have Ny112 := Aside0.mk hy112
                      clear hy112
                      have H' := Aside0.mk H
                      clear H
                      try go_wp2
                      have n0_ := Aside0.mk (Kd.R_drew HO_5.out)
                      have n1_ := Aside0.mk (below_drew1 HB.out)
                      clear HO_5
                      clear HB
                      have HO_5 := n0_
                      have HB := n1_
                      clear n0_ n1_
                      have p108 : 0 ≤ (x6_1 : Int) := of_decide_eq_true q3
                      have q108 : x6_1 < (l1.length : Int) := of_decide_eq_true q3
                      obtain ⟨ad108, e108, hx108_0⟩ := Kd.at_int HR1.out x6_1 p108 q108
                      have hw108_0 := hx108_0
                      cases e108
                      replace hx108_0 := (HB.out.cell (World.block_lt_of_cell? w _ hx108_0)).trans hx108_0
                      replace p108 := eq_true p108
                      replace q108 := eq_true q108
                      obtain ⟨i019, hi019, _, hsz19, _⟩ := info_parts info3
                      obtain ⟨hcut19, hA19, hC19⟩ := print_take_of (P := Tryz.prog) (Value.int .i64) 0 38 3 .i64 Tryz.underlying38 hi019 hsz19 (some ad108) c1 l1 x6_1 (of_decide_eq_true q3) (of_decide_eq_true q3) HC1.out
                      have HR109 := Aside0.mk (Kd.C_of_reads (h1 := fun _ => rfl) (hA19 _ (Kd.reads_of_C HR1.out)))
                      have HC109 := Aside0.mk hC19
                      clear hA19 hC19 hi019 hsz19
                      have p110 : 0 ≤ (x6_1 : Int) := of_decide_eq_true q3
                      have q110 : x6_1 < (l1.length : Int) := of_decide_eq_true q3
                      obtain ⟨ad110, e110, hx110_0⟩ := Kd.at_int HR1.out x6_1 p110 q110
                      have hw110_0 := hx110_0
                      obtain rfl : ad108 = ad110 := (by injection e110)
                      replace hx110_0 := (HB.out.cell (World.block_lt_of_cell? w _ hx110_0)).trans hx110_0
                      replace p110 := eq_true p110
                      replace q110 := eq_true q110
                      refine start_ (n := 16) (S := fun w' => w'.cell? (ad108.add (x6_1).toNat) = some (.int .i64 (rd l1 x6_1)) ∧ w'.cell? (ad108.add (x6_1).toNat) = some (.int .i64 (rd l1 x6_1))) (ds := [15]) #[false, false, false, false, false, false, false, false, false, false, false, false, false, false, false, false] (by kernel_rfl) rfl rfl ⟨((HB.out.cell (World.block_lt_of_cell? w _ hw108_0)).trans hw108_0), ((HB.out.cell (World.block_lt_of_cell? w _ hw110_0)).trans hw110_0)⟩ (fun hHeld => ?_); refine with_tabW spec_ResponseTimes.tab7 spec_ResponseTimes.bits7 (fun HT_ HW_ => ?_)
                      generalize wr.drew = w18 at HO_5 HB HR109 hx108_0 hx110_0 hHeld ⊢
                      refine pure_ (i := 0) (N := some 21) (v := ?_) (a' := ?_) #[true, false, false, false, false, false, false, false, false, false, false, false, false, false, false, false] rfl rfl (any_of HT_.out (by kernel_rfl)) (fun _ _ _ h => h) (Or.inl ⟨by rfl, ?_⟩) ?_ ?_
                      rotate_left
                      · intro w'
                        go_simp
                        with_reducible rfl
                      rotate_left
                      · simp only [Act.put, List.setIfInBounds_toArray, List.set_cons_zero, List.set_cons_succ, i64_w, i32_w]
                        rfl
                      refine pure_ (i := 1) (N := some 22) (v := ?_) (a' := ?_) #[true, true, false, false, false, false, false, false, false, false, false, false, false, false, false, false] rfl rfl (any_of HT_.out (by kernel_rfl)) (fun _ _ _ h => h) (Or.inl ⟨by rfl, ?_⟩) ?_ ?_
                      rotate_left
                      · intro w'
                        go_simp
                        with_reducible rfl
                      rotate_left
                      · simp only [Act.put, List.setIfInBounds_toArray, List.set_cons_zero, List.set_cons_succ, i64_w, i32_w]
                        rfl
                      refine pure_ (i := 2) (N := some 23) (v := ?_) (a' := ?_) #[true, true, true, false, false, false, false, false, false, false, false, false, false, false, false, false] rfl rfl (any_of HT_.out (by kernel_rfl)) (fun _ _ _ h => h) (Or.inl ⟨by rfl, ?_⟩) ?_ ?_
                      rotate_left
                      · intro w'
                        go_simp
                        with_reducible rfl
                      rotate_left
                      · simp only [Act.put, List.setIfInBounds_toArray, List.set_cons_zero, List.set_cons_succ, i64_w, i32_w]
                        rfl
                      refine pure_ (i := 3) (N := some 24) (v := ?_) (a' := ?_) #[true, true, true, true, false, false, false, false, false, false, false, false, false, false, false, false] rfl rfl (any_of HT_.out (by kernel_rfl)) (fun _ _ _ h => h) (Or.inl ⟨by rfl, ?_⟩) ?_ ?_
                      rotate_left
                      · intro w'
                        go_simp
                        with_reducible rfl
                      rotate_left
                      · simp only [Act.put, List.setIfInBounds_toArray, List.set_cons_zero, List.set_cons_succ, i64_w, i32_w]
                        rfl
                      refine pure_ (i := 5) (N := some 26) (v := ?_) (a' := ?_) #[true, true, true, true, false, true, false, false, false, false, false, false, false, false, false, false] rfl rfl (any_of HT_.out (by kernel_rfl)) (fun _ _ _ h => h) (Or.inl ⟨by rfl, ?_⟩) ?_ ?_
                      rotate_left
                      · intro w'
                        go_simp
                        with_reducible rfl
                      rotate_left
                      · simp only [Act.put, List.setIfInBounds_toArray, List.set_cons_zero, List.set_cons_succ, i64_w, i32_w]
                        rfl
                      refine pure_ (i := 6) (N := some 27) (v := ?_) (a' := ?_) #[true, true, true, true, false, true, true, false, false, false, false, false, false, false, false, false] rfl rfl (any_of HT_.out (by kernel_rfl)) (fun _ _ _ h => h) (Or.inl ⟨by rfl, ?_⟩) ?_ ?_
                      rotate_left
                      · intro w'
                        go_simp
                        with_reducible rfl
                      rotate_left
                      · simp only [Act.put, List.setIfInBounds_toArray, List.set_cons_zero, List.set_cons_succ, i64_w, i32_w]
                        rfl
                      refine pure_ (i := 7) (N := some 28) (v := ?_) (a' := ?_) #[true, true, true, true, false, true, true, true, false, false, false, false, false, false, false, false] rfl rfl (any_of HT_.out (by kernel_rfl)) (fun _ _ _ h => h) (Or.inl ⟨by rfl, ?_⟩) ?_ ?_
                      rotate_left
                      · intro w'
                        go_simp
                        with_reducible rfl
                      rotate_left
                      · simp only [Act.put, List.setIfInBounds_toArray, List.set_cons_zero, List.set_cons_succ, i64_w, i32_w]
                        rfl
                      refine pure_ (i := 8) (N := some 29) (v := ?_) (a' := ?_) #[true, true, true, true, false, true, true, true, true, false, false, false, false, false, false, false] rfl rfl (any_of HT_.out (by kernel_rfl)) (fun _ _ _ h => h) (Or.inl ⟨by rfl, ?_⟩) ?_ ?_
                      rotate_left
                      · intro w'
                        go_simp
                        with_reducible rfl
                      rotate_left
                      · simp only [Act.put, List.setIfInBounds_toArray, List.set_cons_zero, List.set_cons_succ, i64_w, i32_w]
                        rfl
                      refine pure_ (i := 9) (N := some 30) (v := ?_) (a' := ?_) #[true, true, true, true, false, true, true, true, true, true, false, false, false, false, false, false] rfl rfl (any_of HT_.out (by kernel_rfl)) (fun _ _ _ h => h) (Or.inl ⟨by rfl, ?_⟩) ?_ ?_
                      rotate_left
                      · intro w'
                        go_simp
                        with_reducible rfl
                      rotate_left
                      · simp only [Act.put, List.setIfInBounds_toArray, List.set_cons_zero, List.set_cons_succ, i64_w, i32_w]
                        rfl
                      refine pure_ (i := 10) (N := some 31) (v := ?_) (a' := ?_) #[true, true, true, true, false, true, true, true, true, true, true, false, false, false, false, false] rfl rfl (any_of HT_.out (by kernel_rfl)) (fun _ _ _ h => h) (Or.inl ⟨by rfl, ?_⟩) ?_ ?_
                      rotate_left
                      · intro w'
                        go_simp
                        with_reducible rfl
                      rotate_left
                      · simp only [Act.put, List.setIfInBounds_toArray, List.set_cons_zero, List.set_cons_succ, i64_w, i32_w]
                        rfl
                      refine pure_ (i := 11) (N := some 32) (v := ?_) (a' := ?_) #[true, true, true, true, false, true, true, true, true, true, true, true, false, false, false, false] rfl rfl (any_of HT_.out (by kernel_rfl)) (fun _ _ _ h => h) (Or.inl ⟨by rfl, ?_⟩) ?_ ?_
                      rotate_left
                      · intro w'
                        go_simp
                        with_reducible rfl
                      rotate_left
                      · simp only [Act.put, List.setIfInBounds_toArray, List.set_cons_zero, List.set_cons_succ, i64_w, i32_w]
                        rfl
                      refine take_ (i := 4) (N := some 25) (v := ?_) (a' := ?_) #[true, true, true, true, true, true, true, true, true, true, true, true, false, false, false, false] rfl rfl (take_ofW HT_.out HW_.out (by kernel_rfl)) (fun _ _ _ h => h) (Or.inl ⟨by rfl, ?_⟩) hHeld ?_ ?_
                      rotate_left
                      · rintro w' ⟨s0, s1⟩
                        go_simp
                        with_reducible rfl
                      rotate_left
                      · simp only [Act.put, List.setIfInBounds_toArray, List.set_cons_zero, List.set_cons_succ, i64_w, i32_w]
                        rfl
                      refine take_ (i := 12) (N := some 33) (v := ?_) (a' := ?_) #[true, true, true, true, true, true, true, true, true, true, true, true, true, false, false, false] rfl rfl (take_ofW HT_.out HW_.out (by kernel_rfl)) (fun _ _ _ h => h) (Or.inl ⟨by rfl, ?_⟩) hHeld ?_ ?_
                      rotate_left
                      · rintro w' ⟨s0, s1⟩
                        go_simp
                        with_reducible rfl
                      rotate_left
                      · simp only [Act.put, List.setIfInBounds_toArray, List.set_cons_zero, List.set_cons_succ, i64_w, i32_w]
                        rfl
                      refine one_ (i := 13) (N := some 34) #[true, true, true, true, true, true, true, true, true, true, true, true, true, true, false, false] rfl rfl (one_of HT_.out (by kernel_rfl)) (by decide) (fun K hK => ?_)
                      refine goes_ Tryz.func35 (by kernel_rfl) rfl #[.slice A0 l0.length c0, .slice (some ad108) (l1.take (x6_1 : Int).toNat).length c1, .int .i64 (rd l1 x6_1)] (by rfl) rfl rfl (by (try simp only [List.map_toArray, List.map_cons, List.map_nil]); first | done | (rw [show (l1.take (x6_1 : Int).toNat).length = x6_1.toNat from (by rw [List.length_take]; have h_ : (x6_1 : Int) ≤ (l1.length : Int) := of_decide_eq_true q3; omega)] <;> rfl) | rfl | (simp only [List.length_drop, List.length_take]; rfl)) ?_
                      with_reducible refine (spec_l4Response.calls k1 _ _ l0 _ _ (l1.take (x6_1 : Int).toNat) (rd l1 x6_1) t111 _ ?side1 ?side2 ?side3 ?side4 A14.out).mono ?_
                      (case side1 => repeat (first | exact (Kd.C_below HR0.out HB.out) | (with_reducible refine Kd.C_alloc ?_ _) | (with_reducible refine Kd.C_drewN ?_ _) | (with_reducible refine Kd.C_drew ?_)))
                      (case side2 => exact HC0.out)
                      (case side3 => repeat (first | exact (Kd.C_below HR109.out HB.out) | (with_reducible refine Kd.C_alloc ?_ _) | (with_reducible refine Kd.C_drewN ?_ _) | (with_reducible refine Kd.C_drew ?_)))
                      (case side4 => exact HC109.out)
                      rintro e w20 ⟨rfl, hb⟩
                      refine ⟨_, rfl, ?_⟩
                      have n0_ := Aside0.mk (Kd.R_below (by (with_reducible repeat (first | apply Kd.R_alloc | apply Kd.R_drewN | apply Kd.R_drew)); exact HO_5.out) hb)
                      have n1_ := Aside0.mk (below_step bq hb)
                      clear HO_5
                      clear HB
                      have HO_5 := n0_
                      have HB := n1_
                      clear n0_ n1_
                      (try clear hb)
                      (try clear hb2)
                      (try clear hk)
                      (try clear hi)
                      have p17 : 0 ≤ ((rd l1 x6_1) : Int) := of_decide_eq_true q3
                      have q17 : ((rd l1 x6_1) : Int) < ((x5_1.length : Int) : Int) := of_decide_eq_true q3
                      obtain ⟨go17, co17, eo17, gb17, gl17, cl17, HG17⟩ := Kd.R_form HO_5.out (by omega)
                      (first | cases eo17 | (injection eo17 with ea_ en_ ec_; (first | subst ea_ | (injection ea_ with ea_; subst ea_)); subst ec_; clear en_))
                      have GB17 := Aside0.mk gb17
                      have GG17 := Aside0.mk HG17
                      clear gb17 gl17 HG17
                      obtain ⟨hx17_0, hf17_0⟩ := Kd.R_celln 0 HO_5.out ((rd l1 x6_1) : Int) p17 q17
                      replace p17 := eq_true p17
                      replace q17 := eq_true q17
                      have HP21 := Kd.R_putn HO_5.out ((rd l1 x6_1) : Int) t111
                      rw [← Ny112.out] at HP21
                      have HQ21 := Aside0.mk HP21
                      clear HP21
                      refine hK.out _ _ ⟨((HB.out.cell (World.block_lt_of_cell? w _ hw108_0)).trans hw108_0), ((HB.out.cell (World.block_lt_of_cell? w _ hw110_0)).trans hw110_0)⟩ (fun hHeld => ?_)
                      clear hK K
                      refine norm_ (a' := ?_) ?_ ?_
                      rotate_left
                      · show Act.put _ (some 34) _ = _
                        simp only [Act.put, List.setIfInBounds_toArray, List.set_cons_zero, List.set_cons_succ, i64_w, i32_w]
                        rfl
                      refine pure_ (i := 14) (N := some 35) (v := ?_) (a' := ?_) #[true, true, true, true, true, true, true, true, true, true, true, true, true, true, true, false] rfl rfl (any_of HT_.out (by kernel_rfl)) (fun _ _ _ h => h) (Or.inl ⟨by rfl, ?_⟩) ?_ ?_
                      rotate_left
                      · intro w'
                        go_simp
                        with_reducible rfl
                      rotate_left
                      · simp only [Act.put, List.setIfInBounds_toArray, List.set_cons_zero, List.set_cons_succ, i64_w, i32_w]
                        rfl
                      refine last_ (i := 15) (N := none) #[true, true, true, true, true, true, true, true, true, true, true, true, true, true, true, true] rfl rfl (one_of HT_.out (by kernel_rfl)) (by decide) (fun K hK => ?_)
                      refine skip_ (w1 := ?_) (by rfl) rfl ?_ ?_
                      rotate_left
                      · go_simp
                        rfl
                      refine hK.out _ _ ?_
                      clear hK K
                      refine done_ (done_of HT_.out (by kernel_rfl)) ?_
                      try go_wp2
                      go_roundg k1
                      case measure => have := HK1.out; omega
                      case rel => exact ⟨(y112), (wrap64 (x6_1 + 1)), q2, H', ⟨by have := HK1.out; omega⟩, ⟨by (with_reducible repeat (first | apply Kd.R_alloc | apply Kd.R_drewN | apply Kd.R_drew)); exact HQ21.out⟩, ⟨by repeat (first | (with_reducible first | exact HB.out | apply below_alloc | apply pw_below_drewN | apply below_drew1 | refine below_set ?_ GB17.out) | exact HB.out)⟩⟩
                    · rw [if_neg c16] at H
                      exact absurd H (by simp)
                  · rw [if_neg c15] at H
                    exact absurd H (by simp)
                · rw [if_neg c13] at H
                  exact absurd H (by simp)
              · rw [if_neg c11] at H
                exact absurd H (by simp)
            · rw [if_neg c10] at H
              have c10b0 : decide (x6_1 < (l1.length : Int)) = false := decide_eq_false c10
              clear c10
              obtain rfl := Option.some.inj H
              go_wp2
              go_ret
              exact ⟨_, by first | rfl | (simp [errW_none, errW_some] <;> rfl) | (simp [*, errW_none, errW_some] <;> rfl), by (with_reducible repeat (first | apply Kd.R_alloc | apply Kd.R_drewN | apply Kd.R_drew)); exact HO_5.out, by repeat (first | (with_reducible first | exact HB.out | apply below_alloc | apply pw_below_drewN | apply below_drew1) | exact HB.out)⟩
      · rw [if_neg c6] at H
        exact absurd H (by simp)
    · rw [if_neg c5] at H
      exact absurd H (by simp)
  · replace c4 := Bool.eq_false_iff.mpr c4
    subst c4
    have H1 : (some (([] : List Int))) = some r := by rw [if_neg (show ¬ (false = true) by decide)] at H; exact H
    clear H
    have H := H1
    clear H1
    obtain ⟨y102, hy102⟩ : ∃ y_ : List Int, y_ = (([] : List Int)) := ⟨_, rfl⟩
    replace H : (some y102) = some r := by first | (rw [hy102]; with_reducible exact H) | (have H2_ := (Option.bind_some _ _).symm.trans H; rw [hy102]; with_reducible exact H2_) | (have H2_ := (Option.bind_some _ _).symm.trans H; with_reducible exact H2_) | with_reducible exact H | (rw [hy102]; exact H) | exact H
    have Ny102 := Aside0.mk hy102
    clear hy102
    obtain rfl := Option.some.inj H
    go_enter Tryz.func16, Tryz.ntmps16
    go_wp2_with (first | ((with_reducible refine gate_callee (f := 34) rfl ?_); refine goesL_ (some 9) rfl rfl Tryz.func34 (by kernel_rfl) rfl #[.slice A0 l0.length c0, .slice A1 l1.length c1] rfl q1 ?_; (with_reducible refine (spec_OrderValid.calls k _ _ l0 _ _ l1 false _ ?side1 ?side2 ?side3 ?side4 A3.out).mono ?_); (case side1 => repeat (first | exact HR0.out | (with_reducible refine Kd.C_alloc ?_ _) | (with_reducible refine Kd.C_drewN ?_ _) | (with_reducible refine Kd.C_drew ?_))); (case side2 => exact HC0.out); (case side3 => repeat (first | exact HR1.out | (with_reducible refine Kd.C_alloc ?_ _) | (with_reducible refine Kd.C_drewN ?_ _) | (with_reducible refine Kd.C_drew ?_))); (case side4 => exact HC1.out); rintro e w22 ⟨rfl, hb⟩; refine ⟨_, rfl, ?_⟩; have n0_ := Aside0.mk (below_step bq hb); clear HB; have HB := n0_; clear n0_; (try clear hb); (try clear hb2); (try clear hk); (try clear hi)) | ((with_reducible refine gate_dst (N := 11) rfl ?_); refine Kd.R_lit (Kd.int .i64) _ 3 ?hg (N := 11) ?hd (xs := ([] : List Int)) (inner := []) (ok := fun _ => True) (okp := fun _ => True) ?hr ?hp (fun _ hk => hk) trivial (Below.refl _ _) (Nat.le_refl _) (by simp) ?_; (case hd => rfl); (case hg => rfl); (case hr => first | (go_simp; done) | (go_simp; rfl)); (case hp => exact (Reps.none _ _)); intro v103 w23 ho24 hb hg_ hnew_; clear hg_ hnew_; (first | rw [← Ny102.out] at ho24 | (simp only [Int.reduceToNat] at ho24; rw [← Ny102.out] at ho24)); have n0_ := Aside0.mk (Kd.R_lower ho24 (below_size bq)); have n1_ := Aside0.mk (below_step bq hb); clear HB; have HO104 := n0_; have HB := n1_; clear n0_ n1_; clear hb ho24))
    go_ret
    exact ⟨_, by first | rfl | (simp [errW_none, errW_some] <;> rfl) | (simp [*, errW_none, errW_some] <;> rfl), by (with_reducible repeat (first | apply Kd.R_alloc | apply Kd.R_drewN | apply Kd.R_drew)); exact HO104.out, by repeat (first | (with_reducible first | exact HB.out | apply below_alloc | apply pw_below_drewN | apply below_drew1) | exact HB.out)⟩



/-! ### spec_Utilization: function 13 -/
def spec_Utilization.l0 : Nat → List (S29) → Int → Int → Int → Option (Int × Int)
  | 0, _, _, _, _ => none
  | k + 1, x0, x3, x4, x5 => if x5 < (x0.length : Int) then (if 0 ≤ x5 then (if ((rd_T29 x0 x5).f2) = 0 then (none) else (spec_Utilization.l0 k x0 x3 (wrap64 (x4 + (wrap64 (((rd_T29 x0 x5).f0) * (wrap64 (Int.tdiv x3 ((rd_T29 x0 x5).f2))))))) (wrap64 (x5 + 1)))) else (none)) else ((spec_l1Gcd.f k x3 x4).bind fun t106 => (if t106 = 0 then (none) else (some (wrap64 (Int.tdiv x4 t106), wrap64 (Int.tdiv x3 t106)))))
def spec_Utilization.f (k : Nat) (l0 : List (S29)) : Option (Int × Int) := (spec_SetValid.f k l0).bind fun t102 => (if t102 = true then ((spec_l1Hyper.f k l0).bind fun t103 => (spec_Utilization.l0 k l0 t103 0 0)) else (some (0, 0)))
def spec_Utilization.T8 : Bool × List (List Nat × List Nat) := (true, [([], []), ([], []), ([], []), ([1, 2], [1, 2]), ([3], [3]), ([4], [4]), ([], []), ([], []), ([], []), ([7, 8], [7, 8]), ([9], [9]), ([10], [10]), ([6, 11], [6, 11]), ([5, 12], [5, 12]), ([0, 13], [0, 13]), ([14, 0, 1, 2, 3, 4, 5, 6, 7, 8, 9, 10, 11, 12, 13, 14], [0, 14])])
def spec_Utilization.B8 : List Nat := [0, 0, 0, 6, 14, 30, 0, 0, 0, 384, 896, 1920, 4032, 8190, 16383, 32767]
theorem spec_Utilization.tab8 : rtab .any (opsOf Tryz.f13 8) = spec_Utilization.T8 := by kernel_rfl
theorem spec_Utilization.bits8 : waitsOk spec_Utilization.T8.2 spec_Utilization.B8 = true := by kernel_rfl
def spec_Utilization.T10 : Bool × List (List Nat × List Nat) := (true, [([], []), ([], []), ([0, 1], [0, 1]), ([], []), ([], []), ([3, 4], [3, 4]), ([2, 5], [2, 5]), ([6, 0, 1, 2, 3, 4, 5, 6], [6])])
def spec_Utilization.B10 : List Nat := [0, 0, 3, 0, 0, 24, 63, 127]
theorem spec_Utilization.tab10 : rtab .any (opsOf Tryz.f13 10) = spec_Utilization.T10 := by kernel_rfl
theorem spec_Utilization.bits10 : waitsOk spec_Utilization.T10.2 spec_Utilization.B10 = true := by kernel_rfl
set_option maxHeartbeats 8000000 in
set_option maxRecDepth 100000 in
theorem spec_Utilization.calls (k : Nat) (A0 : Option Addr) (c0 : Nat) (l0 : List (S29)) (r1 : Int) (r2 : Int) (w : World) (hr0 : Kd.C k29 w A0 l0.length l0) (hc0 : l0.length ≤ c0) (h : spec_Utilization.f k l0 = some (r1, r2)) :
    Calls Tryz.prog 13 #[.slice A0 l0.length c0] w fun e w' => e = .returned (.agg #[.int .i64 r1, .int .i64 r2]) ∧ Below w.heap.size w w' := by
  have hu34 := Tryz.underlying34
  have HR0 := Aside0.mk hr0
  have HC0 := Aside0.mk hc0
  clear hr0 hc0
  have HB := Aside0.mk (Below.refl w.heap.size w)
  have H : ((spec_SetValid.f k l0).bind fun t102 => (if t102 = true then ((spec_l1Hyper.f k l0).bind fun t103 => (spec_Utilization.l0 k l0 t103 0 0)) else (some (0, 0)))) = some (r1, r2) := h
  clear h
  replace H := Option.bind_eq_some_iff.mp H
  obtain ⟨t102, A20, H⟩ := H
  replace H : (if t102 = true then ((spec_l1Hyper.f k l0).bind fun t103 => (spec_Utilization.l0 k l0 t103 0 0)) else (some (0, 0))) = some (r1, r2) := H
  have A2 := Aside0.mk A20
  clear A20
  by_cases c3 : t102 = true
  · subst c3
    have H1 : ((spec_l1Hyper.f k l0).bind fun t103 => (spec_Utilization.l0 k l0 t103 0 0)) = some (r1, r2) := by rw [if_pos rfl] at H; exact H
    clear H
    have H := H1
    clear H1
    replace H := Option.bind_eq_some_iff.mp H
    obtain ⟨t103, A40, H⟩ := H
    replace H : (spec_Utilization.l0 k l0 t103 0 0) = some (r1, r2) := H
    have A4 := Aside0.mk A40
    clear A40
    have H' := Aside0.mk H
    clear H
    go_enter Tryz.func13, Tryz.ntmps13
    go_wp2_with (first | ((with_reducible refine gate_dst (N := 2) rfl ?_); refine box_event ?hg (N := 2) ?hd (cs := #[.int .i64 0, .int .i64 0]) (t := 34) ?hr ?_; (case hd => rfl); (case hg => rfl); (case hr => first | (go_simp; done) | (go_simp; rfl)); intro gb101 hg w5 hbox hb; have n0_ := Aside0.mk (below_step bq hb); have n1_ := Aside0.mk (hbox); have n2_ := Aside0.mk ((gbq : w.heap.size ≤ gb101)); have n3_ := Aside0.mk ((gbq : w.heap.size ≤ gb101)); clear HB; have HB := n0_; have BK101 := n1_; have GW101 := n2_; have GE101 := n3_; clear n0_ n1_ n2_ n3_; clear hb hbox hg) | ((with_reducible refine gate_callee (f := 30) rfl ?_); refine goesL_ (some 8) rfl rfl Tryz.func30 (by kernel_rfl) rfl #[.slice A0 l0.length c0] rfl q1 ?_; (with_reducible refine (spec_SetValid.calls k _ _ l0 true _ ?side1 ?side2 A2.out).mono ?_); (case side1 => repeat (first | exact (Kd.C_below HR0.out HB.out) | (with_reducible refine Kd.C_alloc ?_ _) | (with_reducible refine Kd.C_drewN ?_ _) | (with_reducible refine Kd.C_drew ?_))); (case side2 => exact HC0.out); rintro e w6 ⟨rfl, hb⟩; refine ⟨_, rfl, ?_⟩; have n0_ := Aside0.mk (blk_below (g := gb101) (o := .cells #[.int .i64 0, .int .i64 0] 34 (0, 0)) q4 hb); have n1_ := Aside0.mk (below_step bq101 hb); clear BK101; clear HB; have BK101 := n0_; have HB := n1_; clear n0_ n1_; (try clear hb); (try clear hb2); (try clear hk); (try clear hi)) | ((with_reducible refine gate_callee (f := 31) rfl ?_); refine goesL_ (some 12) rfl rfl Tryz.func31 (by kernel_rfl) rfl #[.slice A0 l0.length c0] rfl q1 ?_; (with_reducible refine (spec_l1Hyper.calls k _ _ l0 t103 _ ?side1 ?side2 A4.out).mono ?_); (case side1 => repeat (first | exact (Kd.C_below HR0.out HB.out) | (with_reducible refine Kd.C_alloc ?_ _) | (with_reducible refine Kd.C_drewN ?_ _) | (with_reducible refine Kd.C_drew ?_))); (case side2 => exact HC0.out); rintro e w' ⟨rfl, ⟨nd, rfl⟩⟩; refine ⟨_, rfl, ?_⟩))
    go_loopg [4, 5] k (fun kq v4 v5 w' => ∃ (x4_1 : Int) (x5_1 : Int), v4 = .int .i64 x4_1 ∧ v5 = .int .i64 x5_1 ∧ Aside0 (spec_Utilization.l0 kq l0 t103 x4_1 x5_1 = some (r1, r2)) ∧ Aside0 (kq ≤ k) ∧ Aside0 (w'.heap[gb101]? = some (.cells #[.int .i64 0, .int .i64 0] 34 (0, 0))) ∧ Aside0 (Below w.heap.size w w'))
    case atStart => exact ⟨(0), (0), q2, q2, H', ⟨Nat.le_refl _⟩, ⟨by (with_reducible repeat (first | refine blk_drewN ?_ _ | refine blk_drew ?_ | refine blk_alloc ?_ _)); exact BK101.out⟩, ⟨by repeat (first | (with_reducible first | exact HB.out | apply below_alloc | apply pw_below_drewN | apply below_drew1 | refine below_set ?_ GE101.out) | exact HB.out)⟩⟩
    case round =>
      clear H'
      try clear c1
      try clear p2
      try clear c3
      obtain ⟨x4_1, x5_1, rfl, rfl, HA, HK1, BK101, HB⟩ := hrel
      cases gk with
      | zero => exact absurd HA.out (by simp [spec_Utilization.l0])
      | succ k1 =>
        have H := HA.out
        clear HA
        simp only [spec_Utilization.l0] at H
        by_cases c7 : x5_1 < (l0.length : Int)
        · rw [if_pos c7] at H
          have c7b0 : decide (x5_1 < (l0.length : Int)) = true := decide_eq_true c7
          clear c7
          by_cases c8 : 0 ≤ x5_1
          · rw [if_pos c8] at H
            have c8b0 : decide (0 ≤ x5_1) = true := decide_eq_true c8
            clear c8
            by_cases c9 : ((rd_T29 l0 x5_1).f2) = 0
            · rw [if_pos c9] at H
              exact absurd H (by simp)
            · rw [if_neg c9] at H
              have c9b0 : (((rd_T29 l0 x5_1).f2) == 0) = false := beq_eq_false_iff_ne.mpr c9
              have c9b1 : (((rd_T29 l0 x5_1).f2) != 0) = true := bne_iff_ne.mpr c9
              have H' := Aside0.mk H
              clear H
              try go_wp2
              have n0_ := Aside0.mk (blk_drew BK101.out)
              have n1_ := Aside0.mk (below_drew1 HB.out)
              clear BK101
              clear HB
              have BK101 := n0_
              have HB := n1_
              clear n0_ n1_
              have p104 : 0 ≤ (x5_1 : Int) := of_decide_eq_true q3
              have q104 : x5_1 < (l0.length : Int) := of_decide_eq_true q3
              obtain ⟨ad104, e104, hx104_0, hx104_1, hx104_2⟩ := at_T29 HR0.out x5_1 p104 q104
              have hw104_2 := hx104_2
              have hw104_1 := hx104_1
              have hw104_0 := hx104_0
              cases e104
              replace hx104_0 := (HB.out.cell (World.block_lt_of_cell? w _ hx104_0)).trans hx104_0
              replace hx104_1 := (HB.out.cell (World.block_lt_of_cell? w _ hx104_1)).trans hx104_1
              replace hx104_2 := (HB.out.cell (World.block_lt_of_cell? w _ hx104_2)).trans hx104_2
              replace p104 := eq_true p104
              replace q104 := eq_true q104
              have p105 : 0 ≤ (x5_1 : Int) := of_decide_eq_true q3
              have q105 : x5_1 < (l0.length : Int) := of_decide_eq_true q3
              obtain ⟨ad105, e105, hx105_0, hx105_1, hx105_2⟩ := at_T29 HR0.out x5_1 p105 q105
              have hw105_2 := hx105_2
              have hw105_1 := hx105_1
              have hw105_0 := hx105_0
              obtain rfl : ad104 = ad105 := (by injection e105)
              replace hx105_0 := (HB.out.cell (World.block_lt_of_cell? w _ hx105_0)).trans hx105_0
              replace hx105_1 := (HB.out.cell (World.block_lt_of_cell? w _ hx105_1)).trans hx105_1
              replace hx105_2 := (HB.out.cell (World.block_lt_of_cell? w _ hx105_2)).trans hx105_2
              replace p105 := eq_true p105
              replace q105 := eq_true q105
              refine start_ (n := 16) (S := fun w' => w'.cell? (ad104.add ((x5_1).toNat * 3)) = some (.int .i64 ((rd_T29 l0 x5_1).f0)) ∧ w'.cell? ⟨(ad104.add ((x5_1).toNat * 3)).block, (ad104.add ((x5_1).toNat * 3)).off + 1, none⟩ = some (.int .i64 ((rd_T29 l0 x5_1).f1)) ∧ w'.cell? ⟨(ad104.add ((x5_1).toNat * 3)).block, (ad104.add ((x5_1).toNat * 3)).off + 2, none⟩ = some (.int .i64 ((rd_T29 l0 x5_1).f2)) ∧ w'.cell? (ad104.add ((x5_1).toNat * 3)) = some (.int .i64 ((rd_T29 l0 x5_1).f0)) ∧ w'.cell? ⟨(ad104.add ((x5_1).toNat * 3)).block, (ad104.add ((x5_1).toNat * 3)).off + 1, none⟩ = some (.int .i64 ((rd_T29 l0 x5_1).f1)) ∧ w'.cell? ⟨(ad104.add ((x5_1).toNat * 3)).block, (ad104.add ((x5_1).toNat * 3)).off + 2, none⟩ = some (.int .i64 ((rd_T29 l0 x5_1).f2))) (ds := []) #[false, false, false, false, false, false, false, false, false, false, false, false, false, false, false, false] (by kernel_rfl) rfl rfl ⟨((HB.out.cell (World.block_lt_of_cell? w _ hw104_0)).trans hw104_0), ((HB.out.cell (World.block_lt_of_cell? w _ hw104_1)).trans hw104_1), ((HB.out.cell (World.block_lt_of_cell? w _ hw104_2)).trans hw104_2), ((HB.out.cell (World.block_lt_of_cell? w _ hw105_0)).trans hw105_0), ((HB.out.cell (World.block_lt_of_cell? w _ hw105_1)).trans hw105_1), ((HB.out.cell (World.block_lt_of_cell? w _ hw105_2)).trans hw105_2)⟩ (fun hHeld => ?_); refine with_tabW spec_Utilization.tab8 spec_Utilization.bits8 (fun HT_ HW_ => ?_)
              generalize wr.drew = w10 at BK101 HB hx104_0 hx104_1 hx104_2 hx105_0 hx105_1 hx105_2 hHeld ⊢
              refine pure_ (i := 0) (N := some 19) (v := ?_) (a' := ?_) #[true, false, false, false, false, false, false, false, false, false, false, false, false, false, false, false] rfl rfl (any_of HT_.out (by kernel_rfl)) (fun _ _ _ h => h) (Or.inl ⟨by rfl, ?_⟩) ?_ ?_
              rotate_left
              · intro w'
                go_simp
                with_reducible rfl
              rotate_left
              · simp only [Act.put, List.setIfInBounds_toArray, List.set_cons_zero, List.set_cons_succ, i64_w, i32_w]
                rfl
              refine pure_ (i := 1) (N := some 20) (v := ?_) (a' := ?_) #[true, true, false, false, false, false, false, false, false, false, false, false, false, false, false, false] rfl rfl (any_of HT_.out (by kernel_rfl)) (fun _ _ _ h => h) (Or.inl ⟨by rfl, ?_⟩) ?_ ?_
              rotate_left
              · intro w'
                go_simp
                with_reducible rfl
              rotate_left
              · simp only [Act.put, List.setIfInBounds_toArray, List.set_cons_zero, List.set_cons_succ, i64_w, i32_w]
                rfl
              refine pure_ (i := 2) (N := some 21) (v := ?_) (a' := ?_) #[true, true, true, false, false, false, false, false, false, false, false, false, false, false, false, false] rfl rfl (any_of HT_.out (by kernel_rfl)) (fun _ _ _ h => h) (Or.inl ⟨by rfl, ?_⟩) ?_ ?_
              rotate_left
              · intro w'
                go_simp
                with_reducible rfl
              rotate_left
              · simp only [Act.put, List.setIfInBounds_toArray, List.set_cons_zero, List.set_cons_succ, i64_w, i32_w]
                rfl
              refine pure_ (i := 3) (N := some 22) (v := ?_) (a' := ?_) #[true, true, true, true, false, false, false, false, false, false, false, false, false, false, false, false] rfl rfl (any_of HT_.out (by kernel_rfl)) (fun _ _ _ h => h) (Or.inl ⟨by rfl, ?_⟩) ?_ ?_
              rotate_left
              · intro w'
                go_simp
                with_reducible rfl
              rotate_left
              · simp only [Act.put, List.setIfInBounds_toArray, List.set_cons_zero, List.set_cons_succ, i64_w, i32_w]
                rfl
              refine pure_ (i := 4) (N := some 23) (v := ?_) (a' := ?_) #[true, true, true, true, true, false, false, false, false, false, false, false, false, false, false, false] rfl rfl (any_of HT_.out (by kernel_rfl)) (fun _ _ _ h => h) (Or.inl ⟨by rfl, ?_⟩) ?_ ?_
              rotate_left
              · intro w'
                go_simp
                with_reducible rfl
              rotate_left
              · simp only [Act.put, List.setIfInBounds_toArray, List.set_cons_zero, List.set_cons_succ, i64_w, i32_w]
                rfl
              refine pure_ (i := 6) (N := some 25) (v := ?_) (a' := ?_) #[true, true, true, true, true, false, true, false, false, false, false, false, false, false, false, false] rfl rfl (any_of HT_.out (by kernel_rfl)) (fun _ _ _ h => h) (Or.inl ⟨by rfl, ?_⟩) ?_ ?_
              rotate_left
              · intro w'
                go_simp
                with_reducible rfl
              rotate_left
              · simp only [Act.put, List.setIfInBounds_toArray, List.set_cons_zero, List.set_cons_succ, i64_w, i32_w]
                rfl
              refine pure_ (i := 7) (N := some 26) (v := ?_) (a' := ?_) #[true, true, true, true, true, false, true, true, false, false, false, false, false, false, false, false] rfl rfl (any_of HT_.out (by kernel_rfl)) (fun _ _ _ h => h) (Or.inl ⟨by rfl, ?_⟩) ?_ ?_
              rotate_left
              · intro w'
                go_simp
                with_reducible rfl
              rotate_left
              · simp only [Act.put, List.setIfInBounds_toArray, List.set_cons_zero, List.set_cons_succ, i64_w, i32_w]
                rfl
              refine pure_ (i := 8) (N := some 27) (v := ?_) (a' := ?_) #[true, true, true, true, true, false, true, true, true, false, false, false, false, false, false, false] rfl rfl (any_of HT_.out (by kernel_rfl)) (fun _ _ _ h => h) (Or.inl ⟨by rfl, ?_⟩) ?_ ?_
              rotate_left
              · intro w'
                go_simp
                with_reducible rfl
              rotate_left
              · simp only [Act.put, List.setIfInBounds_toArray, List.set_cons_zero, List.set_cons_succ, i64_w, i32_w]
                rfl
              refine pure_ (i := 9) (N := some 28) (v := ?_) (a' := ?_) #[true, true, true, true, true, false, true, true, true, true, false, false, false, false, false, false] rfl rfl (any_of HT_.out (by kernel_rfl)) (fun _ _ _ h => h) (Or.inl ⟨by rfl, ?_⟩) ?_ ?_
              rotate_left
              · intro w'
                go_simp
                with_reducible rfl
              rotate_left
              · simp only [Act.put, List.setIfInBounds_toArray, List.set_cons_zero, List.set_cons_succ, i64_w, i32_w]
                rfl
              refine pure_ (i := 10) (N := some 29) (v := ?_) (a' := ?_) #[true, true, true, true, true, false, true, true, true, true, true, false, false, false, false, false] rfl rfl (any_of HT_.out (by kernel_rfl)) (fun _ _ _ h => h) (Or.inl ⟨by rfl, ?_⟩) ?_ ?_
              rotate_left
              · intro w'
                go_simp
                with_reducible rfl
              rotate_left
              · simp only [Act.put, List.setIfInBounds_toArray, List.set_cons_zero, List.set_cons_succ, i64_w, i32_w]
                rfl
              refine take_ (i := 5) (N := some 24) (v := ?_) (a' := ?_) #[true, true, true, true, true, true, true, true, true, true, true, false, false, false, false, false] rfl rfl (take_ofW HT_.out HW_.out (by kernel_rfl)) (fun _ _ _ h => h) (Or.inl ⟨by rfl, ?_⟩) hHeld ?_ ?_
              rotate_left
              · rintro w' ⟨s0, s1, s2, s3, s4, s5⟩
                go_simp
                with_reducible rfl
              rotate_left
              · simp only [Act.put, List.setIfInBounds_toArray, List.set_cons_zero, List.set_cons_succ, i64_w, i32_w]
                rfl
              refine take_ (i := 11) (N := some 30) (v := ?_) (a' := ?_) #[true, true, true, true, true, true, true, true, true, true, true, true, false, false, false, false] rfl rfl (take_ofW HT_.out HW_.out (by kernel_rfl)) (fun _ _ _ h => h) (Or.inl ⟨by rfl, ?_⟩) hHeld ?_ ?_
              rotate_left
              · rintro w' ⟨s0, s1, s2, s3, s4, s5⟩
                go_simp
                with_reducible rfl
              rotate_left
              · simp only [Act.put, List.setIfInBounds_toArray, List.set_cons_zero, List.set_cons_succ, i64_w, i32_w]
                rfl
              refine pure_ (i := 12) (N := some 31) (v := ?_) (a' := ?_) #[true, true, true, true, true, true, true, true, true, true, true, true, true, false, false, false] rfl rfl (any_of HT_.out (by kernel_rfl)) (fun _ _ _ h => h) (Or.inl ⟨by rfl, ?_⟩) ?_ ?_
              rotate_left
              · intro w'
                go_simp
                with_reducible rfl
              rotate_left
              · simp only [Act.put, List.setIfInBounds_toArray, List.set_cons_zero, List.set_cons_succ, i64_w, i32_w]
                rfl
              refine pure_ (i := 13) (N := some 32) (v := ?_) (a' := ?_) #[true, true, true, true, true, true, true, true, true, true, true, true, true, true, false, false] rfl rfl (any_of HT_.out (by kernel_rfl)) (fun _ _ _ h => h) (Or.inl ⟨by rfl, ?_⟩) ?_ ?_
              rotate_left
              · intro w'
                go_simp
                with_reducible rfl
              rotate_left
              · simp only [Act.put, List.setIfInBounds_toArray, List.set_cons_zero, List.set_cons_succ, i64_w, i32_w]
                rfl
              refine pure_ (i := 14) (N := some 33) (v := ?_) (a' := ?_) #[true, true, true, true, true, true, true, true, true, true, true, true, true, true, true, false] rfl rfl (any_of HT_.out (by kernel_rfl)) (fun _ _ _ h => h) (Or.inl ⟨by rfl, ?_⟩) ?_ ?_
              rotate_left
              · intro w'
                go_simp
                with_reducible rfl
              rotate_left
              · simp only [Act.put, List.setIfInBounds_toArray, List.set_cons_zero, List.set_cons_succ, i64_w, i32_w]
                rfl
              refine pure_ (i := 15) (N := some 4) (v := ?_) (a' := ?_) #[true, true, true, true, true, true, true, true, true, true, true, true, true, true, true, true] rfl rfl (any_of HT_.out (by kernel_rfl)) (fun _ _ _ h => h) (Or.inl ⟨by rfl, ?_⟩) ?_ ?_
              rotate_left
              · intro w'
                go_simp
                with_reducible rfl
              rotate_left
              · simp only [Act.put, List.setIfInBounds_toArray, List.set_cons_zero, List.set_cons_succ, i64_w, i32_w]
                rfl
              refine done_ (done_of HT_.out (by kernel_rfl)) ?_
              try go_wp2
              go_roundg k1
              case measure => have := HK1.out; omega
              case rel => exact ⟨(wrap64 (x4_1 + (wrap64 (((rd_T29 l0 x5_1).f0) * (wrap64 (Int.tdiv t103 ((rd_T29 l0 x5_1).f2))))))), (wrap64 (x5_1 + 1)), q2, q2, H', ⟨by have := HK1.out; omega⟩, ⟨by (with_reducible repeat (first | refine blk_drewN ?_ _ | refine blk_drew ?_ | refine blk_alloc ?_ _)); exact BK101.out⟩, ⟨by repeat (first | (with_reducible first | exact HB.out | apply below_alloc | apply pw_below_drewN | apply below_drew1 | refine below_set ?_ GE101.out) | exact HB.out)⟩⟩
          · rw [if_neg c8] at H
            exact absurd H (by simp)
        · rw [if_neg c7] at H
          have c7b0 : decide (x5_1 < (l0.length : Int)) = false := decide_eq_false c7
          clear c7
          replace H := Option.bind_eq_some_iff.mp H
          obtain ⟨t106, A110, H⟩ := H
          replace H : (if t106 = 0 then (none) else (some (wrap64 (Int.tdiv x4_1 t106), wrap64 (Int.tdiv t103 t106)))) = some (r1, r2) := H
          have A11 := Aside0.mk A110
          clear A110
          by_cases c12 : t106 = 0
          · rw [if_pos c12] at H
            exact absurd H (by simp)
          · rw [if_neg c12] at H
            have c12b0 : (t106 == 0) = false := beq_eq_false_iff_ne.mpr c12
            have c12b1 : (t106 != 0) = true := bne_iff_ne.mpr c12
            simp only [Option.some.injEq, Prod.mk.injEq] at H
            obtain ⟨rfl, rfl⟩ := H
            try go_wp2_with (first | ((with_reducible refine gate_callee (f := 32) rfl ?_); refine goesL_ (some 36) rfl rfl Tryz.func32 (by kernel_rfl) rfl #[.int .i64 t103, .int .i64 x4_1] rfl q1 ?_; (with_reducible refine (spec_l1Gcd.calls k1 t103 x4_1 t106 _ A11.out).mono ?_); rintro e w' ⟨rfl, ⟨nd, rfl⟩⟩; refine ⟨_, rfl, ?_⟩; (try (rw [drewN_self wr]; generalize hq_ : World.drewN wr _ = wr; have n0_ : Aside0 (wr.heap[gb101]? = some (.cells #[.int .i64 0, .int .i64 0] 34 (0, 0))) := ⟨by rw [← hq_]; exact q4⟩; have n1_ : Aside0 (Below w.heap.size w wr) := ⟨by rw [← hq_]; exact bq101⟩; clear BK101 HB hq_; have BK101 := n0_; have HB := n1_; clear n0_ n1_))))
            have n0_ := Aside0.mk (blk_drew BK101.out)
            have n1_ := Aside0.mk (below_drew1 HB.out)
            clear BK101
            clear HB
            have BK101 := n0_
            have HB := n1_
            clear n0_ n1_
            refine start_ (n := 8) (S := fun w' => True) (ds := []) #[false, false, false, false, false, false, false, false] (by kernel_rfl) rfl rfl trivial (fun hHeld => ?_); refine with_tabW spec_Utilization.tab10 spec_Utilization.bits10 (fun HT_ HW_ => ?_)
            generalize wr.drew = w13 at BK101 HB hHeld ⊢
            refine pure_ (i := 0) (N := some 37) (v := ?_) (a' := ?_) #[true, false, false, false, false, false, false, false] rfl rfl (any_of HT_.out (by kernel_rfl)) (fun _ _ _ h => h) (Or.inl ⟨by rfl, ?_⟩) ?_ ?_
            rotate_left
            · intro w'
              go_simp
              with_reducible rfl
            rotate_left
            · simp only [Act.put, List.setIfInBounds_toArray, List.set_cons_zero, List.set_cons_succ, i64_w, i32_w]
              rfl
            refine pure_ (i := 1) (N := some 38) (v := ?_) (a' := ?_) #[true, true, false, false, false, false, false, false] rfl rfl (any_of HT_.out (by kernel_rfl)) (fun _ _ _ h => h) (Or.inl ⟨by rfl, ?_⟩) ?_ ?_
            rotate_left
            · intro w'
              go_simp
              with_reducible rfl
            rotate_left
            · simp only [Act.put, List.setIfInBounds_toArray, List.set_cons_zero, List.set_cons_succ, i64_w, i32_w]
              rfl
            refine pure_ (i := 2) (N := some 39) (v := ?_) (a' := ?_) #[true, true, true, false, false, false, false, false] rfl rfl (any_of HT_.out (by kernel_rfl)) (fun _ _ _ h => h) (Or.inl ⟨by rfl, ?_⟩) ?_ ?_
            rotate_left
            · intro w'
              go_simp
              with_reducible rfl
            rotate_left
            · simp only [Act.put, List.setIfInBounds_toArray, List.set_cons_zero, List.set_cons_succ, i64_w, i32_w]
              rfl
            refine pure_ (i := 3) (N := some 40) (v := ?_) (a' := ?_) #[true, true, true, true, false, false, false, false] rfl rfl (any_of HT_.out (by kernel_rfl)) (fun _ _ _ h => h) (Or.inl ⟨by rfl, ?_⟩) ?_ ?_
            rotate_left
            · intro w'
              go_simp
              with_reducible rfl
            rotate_left
            · simp only [Act.put, List.setIfInBounds_toArray, List.set_cons_zero, List.set_cons_succ, i64_w, i32_w]
              rfl
            refine pure_ (i := 4) (N := some 41) (v := ?_) (a' := ?_) #[true, true, true, true, true, false, false, false] rfl rfl (any_of HT_.out (by kernel_rfl)) (fun _ _ _ h => h) (Or.inl ⟨by rfl, ?_⟩) ?_ ?_
            rotate_left
            · intro w'
              go_simp
              with_reducible rfl
            rotate_left
            · simp only [Act.put, List.setIfInBounds_toArray, List.set_cons_zero, List.set_cons_succ, i64_w, i32_w]
              rfl
            refine pure_ (i := 5) (N := some 42) (v := ?_) (a' := ?_) #[true, true, true, true, true, true, false, false] rfl rfl (any_of HT_.out (by kernel_rfl)) (fun _ _ _ h => h) (Or.inl ⟨by rfl, ?_⟩) ?_ ?_
            rotate_left
            · intro w'
              go_simp
              with_reducible rfl
            rotate_left
            · simp only [Act.put, List.setIfInBounds_toArray, List.set_cons_zero, List.set_cons_succ, i64_w, i32_w]
              rfl
            refine pure_ (i := 6) (N := some 43) (v := ?_) (a' := ?_) #[true, true, true, true, true, true, true, false] rfl rfl (any_of HT_.out (by kernel_rfl)) (fun _ _ _ h => h) (Or.inl ⟨by rfl, ?_⟩) ?_ ?_
            rotate_left
            · intro w'
              go_simp
              with_reducible rfl
            rotate_left
            · simp only [Act.put, List.setIfInBounds_toArray, List.set_cons_zero, List.set_cons_succ, i64_w, i32_w]
              rfl
            refine one_ (i := 7) (N := none) #[true, true, true, true, true, true, true, true] rfl rfl (one_of HT_.out (by kernel_rfl)) (by decide) (fun K hK => ?_)
            have hs14 : w13.cell? ⟨gb101, 0, none⟩ = some (.int .i64 0) := (blk_cell BK101.out 0).trans rfl
            have hfs14 := blk_frozen BK101.out 0
            have hs15 : w13.cell? ⟨gb101, 1, none⟩ = some (.int .i64 0) := (blk_cell BK101.out 1).trans rfl
            have hfs15 := blk_frozen BK101.out 1
            refine skip_ (w1 := ?_) (by rfl) rfl ?_ ?_
            rotate_left
            · go_simp
              rfl
            refine hK.out _ _ trivial (fun hHeld => ?_)
            clear hK K
            refine done_ (done_of HT_.out (by kernel_rfl)) ?_
            try go_wp2
            refine bodyPost_ret (results_cell_row rfl _ _ gb101 34 #[.int .i64 (wrap64 (Int.tdiv x4_1 t106)), .int .i64 (wrap64 (Int.tdiv t103 t106))] (0, 0) _ rfl (by (with_reducible repeat (first | refine blk_drewN ?_ _ | refine blk_drew ?_ | refine blk_alloc ?_ _)); refine blk_put (cs := #[.int .i64 (wrap64 (Int.tdiv x4_1 t106)), .int .i64 0]) ?_ 1 _ rfl; (with_reducible repeat (first | refine blk_drewN ?_ _ | refine blk_drew ?_ | refine blk_alloc ?_ _)); refine blk_put (cs := #[.int .i64 0, .int .i64 0]) ?_ 0 _ rfl; (with_reducible repeat (first | refine blk_drewN ?_ _ | refine blk_drew ?_ | refine blk_alloc ?_ _)); exact BK101.out) Tryz.underlying34 rfl (by kernel_rfl)) rfl ?_
            exact ⟨by first | rfl | (simp [errW_none, errW_some] <;> rfl) | (simp [*, errW_none, errW_some] <;> rfl), by repeat (first | (with_reducible first | exact HB.out | apply below_alloc | apply pw_below_drewN | apply below_drew1 | refine below_set ?_ GE101.out) | exact HB.out)⟩
  · replace c3 := Bool.eq_false_iff.mpr c3
    subst c3
    have H1 : (some (0, 0)) = some (r1, r2) := by rw [if_neg (show ¬ (false = true) by decide)] at H; exact H
    clear H
    have H := H1
    clear H1
    simp only [Option.some.injEq, Prod.mk.injEq] at H
    obtain ⟨rfl, rfl⟩ := H
    go_enter Tryz.func13, Tryz.ntmps13
    go_wp2_with (first | ((with_reducible refine gate_dst (N := 2) rfl ?_); refine box_event ?hg (N := 2) ?hd (cs := #[.int .i64 0, .int .i64 0]) (t := 34) ?hr ?_; (case hd => rfl); (case hg => rfl); (case hr => first | (go_simp; done) | (go_simp; rfl)); intro gb101 hg w16 hbox hb; have n0_ := Aside0.mk (below_step bq hb); have n1_ := Aside0.mk (hbox); have n2_ := Aside0.mk ((gbq : w.heap.size ≤ gb101)); have n3_ := Aside0.mk ((gbq : w.heap.size ≤ gb101)); clear HB; have HB := n0_; have BK101 := n1_; have GW101 := n2_; have GE101 := n3_; clear n0_ n1_ n2_ n3_; clear hb hbox hg) | ((with_reducible refine gate_callee (f := 30) rfl ?_); refine goesL_ (some 8) rfl rfl Tryz.func30 (by kernel_rfl) rfl #[.slice A0 l0.length c0] rfl q1 ?_; (with_reducible refine (spec_SetValid.calls k _ _ l0 false _ ?side1 ?side2 A2.out).mono ?_); (case side1 => repeat (first | exact (Kd.C_below HR0.out HB.out) | (with_reducible refine Kd.C_alloc ?_ _) | (with_reducible refine Kd.C_drewN ?_ _) | (with_reducible refine Kd.C_drew ?_))); (case side2 => exact HC0.out); rintro e w17 ⟨rfl, hb⟩; refine ⟨_, rfl, ?_⟩; have n0_ := Aside0.mk (blk_below (g := gb101) (o := .cells #[.int .i64 0, .int .i64 0] 34 (0, 0)) q4 hb); have n1_ := Aside0.mk (below_step bq101 hb); clear BK101; clear HB; have BK101 := n0_; have HB := n1_; clear n0_ n1_; (try clear hb); (try clear hb2); (try clear hk); (try clear hi); have hcz18_0 : w17.cell? ⟨gb101, 0, none⟩ = some (.int .i64 0) := (blk_cell BK101.out 0).trans rfl; have hcz18_1 : w17.cell? ⟨gb101, 1, none⟩ = some (.int .i64 0) := (blk_cell BK101.out 1).trans rfl; have hfz18_0 := blk_frozen BK101.out 0; have hfz18_1 := blk_frozen BK101.out 1))
    refine bodyPost_ret (results_cell_row rfl _ _ gb101 34 #[.int .i64 0, .int .i64 0] (0, 0) _ rfl (by (with_reducible repeat (first | refine blk_drewN ?_ _ | refine blk_drew ?_ | refine blk_alloc ?_ _)); refine blk_put (cs := #[.int .i64 0, .int .i64 0]) ?_ 1 _ rfl; (with_reducible repeat (first | refine blk_drewN ?_ _ | refine blk_drew ?_ | refine blk_alloc ?_ _)); refine blk_put (cs := #[.int .i64 0, .int .i64 0]) ?_ 0 _ rfl; (with_reducible repeat (first | refine blk_drewN ?_ _ | refine blk_drew ?_ | refine blk_alloc ?_ _)); exact BK101.out) Tryz.underlying34 rfl (by kernel_rfl)) rfl ?_
    exact ⟨by first | rfl | (simp [errW_none, errW_some] <;> rfl) | (simp [*, errW_none, errW_some] <;> rfl), by repeat (first | (with_reducible first | exact HB.out | apply below_alloc | apply pw_below_drewN | apply below_drew1 | refine below_set ?_ GE101.out) | exact HB.out)⟩



/-! ### spec_Report: function 5 -/
mutual
def spec_Report.l0 : Nat → List ByteArray → List (S29) → Int → Option (List ByteArray)
  | 0, _, _, _ => none
  | k + 1, x0, x3, x4 => if x4 < (x0.length : Int) then (if 0 ≤ x4 then ((spec_ParseTask.f k (rdOf ByteArray.empty x0 x4)).bind fun bt105 => (if bt105.2.2.2 = true then (if x3.length < 5864062014805 then (spec_Report.l0 k x0 (x3 ++ [(⟨bt105.1, bt105.2.1, bt105.2.2.1⟩ : S29)]) (wrap64 (x4 + 1))) else (none)) else ((spec_l10Plain.f k (wrap64 (x4 + 1))).bind fun t113 => (if 5 + t113.size ≤ 9223372036854775807 then (some (([(⟨#[108, 105, 110, 101, 32]⟩ : ByteArray) ++ t113] : List ByteArray))) else (none))))) else (none)) else (if (x3.length : Int) > 5 then (some (([(⟨#[116, 111, 111, 32, 109, 97, 110, 121, 32, 116, 97, 115, 107, 115]⟩ : ByteArray)] : List ByteArray))) else ((spec_Utilization.f k x3).bind fun bt120 => ((spec_l10Plain.f k bt120.1).bind fun t123 => (if 12 + t123.size ≤ 9223372036854775807 then (if ((⟨#[117, 116, 105, 108, 105, 122, 97, 116, 105, 111, 110, 32]⟩ : ByteArray) ++ t123).size + 1 ≤ 9223372036854775807 then ((spec_l10Plain.f k bt120.2).bind fun t124 => (if (((⟨#[117, 116, 105, 108, 105, 122, 97, 116, 105, 111, 110, 32]⟩ : ByteArray) ++ t123) ++ (⟨#[47]⟩ : ByteArray)).size + t124.size ≤ 9223372036854775807 then ((some (([(((⟨#[117, 116, 105, 108, 105, 122, 97, 116, 105, 111, 110, 32]⟩ : ByteArray) ++ t123) ++ (⟨#[47]⟩ : ByteArray)) ++ t124] : List ByteArray) : List ByteArray)).bind fun y125 => ((spec_FirstOverload.f k x3).bind fun t128 => (if t128 < 0 then (if y125.length < 8796093022208 then (spec_Report.j1 k x3 (y125 ++ [(⟨#[101, 100, 102, 32, 102, 101, 97, 115, 105, 98, 108, 101]⟩ : ByteArray)])) else (none)) else ((spec_l10Plain.f k t128).bind fun t132 => (if 16 + t132.size ≤ 9223372036854775807 then (if y125.length < 8796093022208 then (spec_Report.j1 k x3 (y125 ++ [(⟨#[101, 100, 102, 32, 111, 118, 101, 114, 108, 111, 97, 100, 32, 97, 116, 32]⟩ : ByteArray) ++ t132])) else (none)) else (none)))))) else (none))) else (none)) else (none)))))
def spec_Report.j1 : Nat → List (S29) → List ByteArray → Option (List ByteArray)
  | 0, _, _ => none
  | k + 1, x3, x8 => (spec_DeadlineMonotonic.f k x3).bind fun t136 => ((spec_ResponseTimes.f k x3 t136).bind fun t139 => ((spec_l10Times.f k t139).bind fun t142 => (if 8 + t142.size ≤ 9223372036854775807 then (if x8.length < 8796093022208 then ((some (x8 ++ [(⟨#[114, 101, 115, 112, 111, 110, 115, 101]⟩ : ByteArray) ++ t142] : List ByteArray)).bind fun y143 => ((spec_MinCores.f k x3).bind fun t146 => ((spec_l10Plain.f k t146).bind fun t147 => (if 6 + t147.size ≤ 9223372036854775807 then (if y143.length < 8796093022208 then (some (y143 ++ [(⟨#[99, 111, 114, 101, 115, 32]⟩ : ByteArray) ++ t147])) else (none)) else (none))))) else (none)) else (none))))
end
def spec_Report.f (k : Nat) (l0 : List ByteArray) : Option (List ByteArray) := spec_Report.l0 k l0 (([] : List (S29))) 0
def spec_Report.T12 : Bool × List (List Nat × List Nat) := (true, [([], []), ([0], [0]), ([1], [1]), ([2], [2]), ([3], [3]), ([], []), ([5], [5]), ([6, 2], [6]), ([4, 7], [4, 7]), ([8], [8]), ([9, 7, 0, 1, 2, 3, 4, 5, 6, 7, 8, 9], [9])])
def spec_Report.B12 : List Nat := [0, 1, 3, 7, 15, 0, 32, 103, 255, 511, 1023]
theorem spec_Report.tab12 : rtab .any (opsOf Tryz.f5 12) = spec_Report.T12 := by kernel_rfl
theorem spec_Report.bits12 : waitsOk spec_Report.T12.2 spec_Report.B12 = true := by kernel_rfl
set_option maxHeartbeats 8000000 in
set_option maxRecDepth 100000 in
theorem spec_Report.calls (k : Nat) (A0 : Option Addr) (c0 : Nat) (l0 : List ByteArray) (r : List ByteArray) (w : World) (hr0 : Kd.C Kd.string w A0 l0.length l0) (hc0 : l0.length ≤ c0) (h : spec_Report.f k l0 = some r) :
    Calls Tryz.prog 5 #[.slice A0 l0.length c0] w fun e w' => ∃ v0_ : Value, e = .returned (v0_) ∧ Kd.R Kd.string 9 w' w.heap.size (fun _ => True) v0_ r ∧ Below w.heap.size w w' := by
  have hu29 := Tryz.underlying29
  have hu34 := Tryz.underlying34
  have HR0 := Aside0.mk hr0
  have HC0 := Aside0.mk hc0
  clear hr0 hc0
  have HB := Aside0.mk (Below.refl w.heap.size w)
  have H : (spec_Report.l0 k l0 (([] : List (S29))) 0) = some r := h
  clear h
  obtain ⟨y101, hy101⟩ : ∃ y_ : List (S29), y_ = (([] : List (S29))) := ⟨_, rfl⟩
  replace H : (spec_Report.l0 k l0 y101 0) = some r := by first | (rw [hy101]; with_reducible exact H) | (have H2_ := (Option.bind_some _ _).symm.trans H; rw [hy101]; with_reducible exact H2_) | (have H2_ := (Option.bind_some _ _).symm.trans H; with_reducible exact H2_) | with_reducible exact H | (rw [hy101]; exact H) | exact H
  have Ny101 := Aside0.mk hy101
  clear hy101
  have H' := Aside0.mk H
  clear H
  go_enter Tryz.func5, Tryz.ntmps5
  go_wp2_with (first | ((with_reducible refine gate_dst (N := 10) rfl ?_); refine Kd.R_lit k29 _ 29 ?hg (N := 10) ?hd (xs := ([] : List (S29))) (inner := []) (ok := fun _ => True) (okp := fun _ => True) ?hr ?hp (fun _ hk => hk) trivial (Below.refl _ _) (Nat.le_refl _) (by simp) ?_; (case hd => rfl); (case hg => rfl); (case hr => first | (go_simp; done) | (go_simp; rfl)); (case hp => exact (Reps.none _ _)); intro v102 w2 ho3 hb hg_ hnew_; clear hg_ hnew_; (first | rw [← Ny101.out] at ho3 | (simp only [Int.reduceToNat] at ho3; rw [← Ny101.out] at ho3)); have n0_ := Aside0.mk (Kd.R_lower ho3 (below_size bq)); have n1_ := Aside0.mk (below_step bq hb); clear HB; have HO103 := n0_; have HB := n1_; clear n0_ n1_; clear hb ho3))
  go_loopg [3, 4] k (fun kq v3 v4 w' => ∃ (x3_1 : List (S29)) (x4_1 : Int), v4 = .int .i64 x4_1 ∧ Aside0 (spec_Report.l0 kq l0 x3_1 x4_1 = some r) ∧ Aside0 (kq ≤ k) ∧ Aside0 (Kd.R k29 29 w' w.heap.size (fun _ => True) v3 x3_1) ∧ Aside0 (Below w.heap.size w w'))
  case atStart => exact ⟨(y101), (0), q2, H', ⟨Nat.le_refl _⟩, ⟨by (with_reducible repeat (first | apply Kd.R_alloc | apply Kd.R_drewN | apply Kd.R_drew)); exact HO103.out⟩, ⟨by repeat (first | (with_reducible first | exact HB.out | apply below_alloc | apply pw_below_drewN | apply below_drew1) | exact HB.out)⟩⟩
  case round =>
    clear H'
    try clear p2
    obtain ⟨x3_1, x4_1, rfl, HA, HK1, HO_3, HB⟩ := hrel
    cases gk with
    | zero => exact absurd HA.out (by simp [spec_Report.l0])
    | succ k1 =>
      have H := HA.out
      clear HA
      simp only [spec_Report.l0] at H
      by_cases c4 : x4_1 < (l0.length : Int)
      · rw [if_pos c4] at H
        have c4b0 : decide (x4_1 < (l0.length : Int)) = true := decide_eq_true c4
        clear c4
        by_cases c5 : 0 ≤ x4_1
        · rw [if_pos c5] at H
          have c5b0 : decide (0 ≤ x4_1) = true := decide_eq_true c5
          clear c5
          replace H := Option.bind_eq_some_iff.mp H
          obtain ⟨⟨t105, t106, t107, t108⟩, A60, H⟩ := H
          replace H : (if t108 = true then (if x3_1.length < 5864062014805 then (spec_Report.l0 k1 l0 (x3_1 ++ [(⟨t105, t106, t107⟩ : S29)]) (wrap64 (x4_1 + 1))) else (none)) else ((spec_l10Plain.f k1 (wrap64 (x4_1 + 1))).bind fun t113 => (if 5 + t113.size ≤ 9223372036854775807 then (some (([(⟨#[108, 105, 110, 101, 32]⟩ : ByteArray) ++ t113] : List ByteArray))) else (none)))) = some r := H
          have A6 := Aside0.mk A60
          clear A60
          by_cases c7 : t108 = true
          · subst c7
            have H1 : (if x3_1.length < 5864062014805 then (spec_Report.l0 k1 l0 (x3_1 ++ [(⟨t105, t106, t107⟩ : S29)]) (wrap64 (x4_1 + 1))) else (none)) = some r := by rw [if_pos rfl] at H; exact H
            clear H
            have H := H1
            clear H1
            by_cases c8 : x3_1.length < 5864062014805
            · rw [if_pos c8] at H
              have LMc8 := Aside0.mk c8
              clear c8
              obtain ⟨y110, hy110⟩ : ∃ y_ : List (S29), y_ = (x3_1 ++ [(⟨t105, t106, t107⟩ : S29)]) := ⟨_, rfl⟩
              replace H : (spec_Report.l0 k1 l0 y110 (wrap64 (x4_1 + 1))) = some r := by first | (rw [hy110]; with_reducible exact H) | (have H2_ := (Option.bind_some _ _).symm.trans H; rw [hy110]; with_reducible exact H2_) | (have H2_ := (Option.bind_some _ _).symm.trans H; with_reducible exact H2_) | with_reducible exact H | (rw [hy110]; exact H) | exact H
              have Ny110 := Aside0.mk hy110
              clear hy110
              have H' := Aside0.mk H
              clear H
              have p104 : 0 ≤ (x4_1 : Int) := of_decide_eq_true q3
              have q104 : x4_1 < (l0.length : Int) := of_decide_eq_true q3
              obtain ⟨ad104, e104, hx104_0⟩ := Kd.at_string HR0.out x4_1 p104 q104
              cases e104
              replace hx104_0 := (HB.out.cell (World.block_lt_of_cell? w _ hx104_0)).trans hx104_0
              replace p104 := eq_true p104
              replace q104 := eq_true q104
              go_wp2_with (first | ((with_reducible refine gate_callee (f := 11) rfl ?_); refine goesL_ (some 22) rfl rfl Tryz.func11 (by kernel_rfl) rfl #[.string (rdOf ByteArray.empty l0 x4_1)] rfl q1 ?_; (with_reducible refine (spec_ParseTask.calls k1 (rdOf ByteArray.empty l0 x4_1) t105 t106 t107 true _ A6.out).mono ?_); rintro e w9 ⟨rfl, hb⟩; refine ⟨_, rfl, ?_⟩; have n0_ := Aside0.mk (Kd.R_below (by (with_reducible repeat (first | apply Kd.R_alloc | apply Kd.R_drewN | apply Kd.R_drew)); exact HO_3.out) hb); have n1_ := Aside0.mk (below_step bq hb); clear HO_3; clear HB; have HO_3 := n0_; have HB := n1_; clear n0_ n1_; (try clear hb); (try clear hb2); (try clear hk); (try clear hi)) | ((with_reducible refine gate_dst (N := 5) rfl ?_); refine box_event ?hg (N := 5) ?hd (cs := #[.int .i64 0, .int .i64 0, .int .i64 0]) (t := 29) ?hr ?_; (case hd => rfl); (case hg => rfl); (case hr => first | (go_simp; done) | (go_simp; rfl)); intro gb109 hg w10 hbox hb; have n0_ := Aside0.mk (Kd.R_below (Kd.R_elderB (by (with_reducible repeat (first | apply Kd.R_alloc | apply Kd.R_drewN | apply Kd.R_drew)); exact HO_3.out) gb109 (Nat.le_of_eq hg.symm)) hb); have n1_ := Aside0.mk (below_step bq hb); have n2_ := Aside0.mk (hbox); have n3_ := Aside0.mk ((gbq : w.heap.size ≤ gb109)); have n4_ := Aside0.mk ((gbq : w.heap.size ≤ gb109)); clear HO_3; clear HB; have HO_3 := n0_; have HB := n1_; have BK109 := n2_; have GW109 := n3_; have GE109 := n4_; clear n0_ n1_ n2_ n3_ n4_; clear hb hbox hg; have hcz11_0 : w10.cell? ⟨gb109, 0, none⟩ = some (.int .i64 0) := (blk_cell BK109.out 0).trans rfl; have hcz11_1 : w10.cell? ⟨gb109, 1, none⟩ = some (.int .i64 0) := (blk_cell BK109.out 1).trans rfl; have hcz11_2 : w10.cell? ⟨gb109, 2, none⟩ = some (.int .i64 0) := (blk_cell BK109.out 2).trans rfl; have hfz11_0 := blk_frozen BK109.out 0; have hfz11_1 := blk_frozen BK109.out 1; have hfz11_2 := blk_frozen BK109.out 2) | ((with_reducible refine gate_builtin (b := .append) (xs := #[.tmp 32, .tmp 34]) rfl ?_); at_builtin; refine Kd.R_append k29 (w0 := w) w.heap.size rfl (.tmp 32) (.tmp 34) 27 29 (.agg #[(.int .i64 0), (.int .i64 0), (.int .i64 0)]) 24 rfl Tryz.underlying27 info29 rfl (by decide) (by omega) u3 x3_1 (⟨t105, t106, t107⟩ : S29) [.int .i64 t105, .int .i64 t106, .int .i64 t107] (fun k_ => k_ ≠ gb109) (fun _ => False) rfl (by first | (go_simp; done) | (go_simp; rfl)) ?aP (fun _ hk => hk.elim) ?aF ?aO ?aB ?aS ?aL ?_; (case aP => exact k29_mkM _ _ _ (⟨t105, t106, t107⟩ : S29)); (case aB => exact bq109); (case aF => exact (fun k_ hk => Kd.freshB (g := gb109) (o := .cells #[.int .i64 t105, .int .i64 t106, .int .i64 t107] 29 (0, 0)) (by (with_reducible repeat (first | refine blk_drewN ?_ _ | refine blk_drew ?_ | refine blk_alloc ?_ _)); refine blk_put (cs := #[.int .i64 t105, .int .i64 t106, .int .i64 0]) ?_ 2 _ rfl; (with_reducible repeat (first | refine blk_drewN ?_ _ | refine blk_drew ?_ | refine blk_alloc ?_ _)); refine blk_put (cs := #[.int .i64 t105, .int .i64 0, .int .i64 0]) ?_ 1 _ rfl; (with_reducible repeat (first | refine blk_drewN ?_ _ | refine blk_drew ?_ | refine blk_alloc ?_ _)); refine blk_put (cs := #[.int .i64 0, .int .i64 0, .int .i64 0]) ?_ 0 _ rfl; (with_reducible repeat (first | refine blk_drewN ?_ _ | refine blk_drew ?_ | refine blk_alloc ?_ _)); exact BK109.out) k_ hk)); (case aO => exact (by (with_reducible repeat (first | apply Kd.R_alloc | apply Kd.R_drewN | apply Kd.R_drew)); exact Kd.R_mono (Kd.R_far (p := ⟨gb109, 2, none⟩) (Kd.R_far (p := ⟨gb109, 1, none⟩) (Kd.R_far (p := ⟨gb109, 0, none⟩) (Kd.R_mono HO_3.out (fun k_ hk => (⟨hk, hk.2⟩ : _ ∧ k_ ≠ gb109))) (fun _ hk => hk.2) (.int .i64 t105)) (fun _ hk => hk.2) (.int .i64 t106)) (fun _ hk => hk.2) (.int .i64 t107)) (fun _ hk => hk.1.2))); (case aS => exact (below_size bq109)); (case aL => have := LMc8.out; omega); intro v111 w12 ho hb hg hat; rw [← Ny110.out] at ho; have n0_ := Aside0.mk (blk_grown (g := gb109) (o := .cells #[.int .i64 t105, .int .i64 t106, .int .i64 t107] 29 (0, 0)) (by (with_reducible repeat (first | refine blk_drewN ?_ _ | refine blk_drew ?_ | refine blk_alloc ?_ _)); refine blk_put (cs := #[.int .i64 t105, .int .i64 t106, .int .i64 0]) ?_ 2 _ rfl; (with_reducible repeat (first | refine blk_drewN ?_ _ | refine blk_drew ?_ | refine blk_alloc ?_ _)); refine blk_put (cs := #[.int .i64 t105, .int .i64 0, .int .i64 0]) ?_ 1 _ rfl; (with_reducible repeat (first | refine blk_drewN ?_ _ | refine blk_drew ?_ | refine blk_alloc ?_ _)); refine blk_put (cs := #[.int .i64 0, .int .i64 0, .int .i64 0]) ?_ 0 _ rfl; (with_reducible repeat (first | refine blk_drewN ?_ _ | refine blk_drew ?_ | refine blk_alloc ?_ _)); exact BK109.out) hg (Kd.R_away HO_3.out (fun _ hk => hk.2))); have n1_ := Aside0.mk (hb); have n2_ := Aside0.mk (ho); clear BK109; clear HB; clear HO_3; have BK109 := n0_; have HB := n1_; have HO112 := n2_; clear n0_ n1_ n2_; clear ho hb hg hat))
              go_roundg k1
              case measure => have := HK1.out; omega
              case rel => exact ⟨(y110), (wrap64 (x4_1 + 1)), q2, H', ⟨by have := HK1.out; omega⟩, ⟨by (with_reducible repeat (first | apply Kd.R_alloc | apply Kd.R_drewN | apply Kd.R_drew)); exact Kd.R_mono HO112.out (fun _ hk => trivial)⟩, ⟨by repeat (first | (with_reducible first | exact HB.out | apply below_alloc | apply pw_below_drewN | apply below_drew1 | refine below_set ?_ GE109.out) | exact HB.out)⟩⟩
            · rw [if_neg c8] at H
              exact absurd H (by simp)
          · replace c7 := Bool.eq_false_iff.mpr c7
            subst c7
            have H1 : ((spec_l10Plain.f k1 (wrap64 (x4_1 + 1))).bind fun t113 => (if 5 + t113.size ≤ 9223372036854775807 then (some (([(⟨#[108, 105, 110, 101, 32]⟩ : ByteArray) ++ t113] : List ByteArray))) else (none))) = some r := by rw [if_neg (show ¬ (false = true) by decide)] at H; exact H
            clear H
            have H := H1
            clear H1
            replace H := Option.bind_eq_some_iff.mp H
            obtain ⟨t113, A130, H⟩ := H
            replace H : (if 5 + t113.size ≤ 9223372036854775807 then (some (([(⟨#[108, 105, 110, 101, 32]⟩ : ByteArray) ++ t113] : List ByteArray))) else (none)) = some r := H
            have A13 := Aside0.mk A130
            clear A130
            by_cases c14 : 5 + t113.size ≤ 9223372036854775807
            · rw [if_pos c14] at H
              have c14b0 := eq_true c14
              have c14b1 : decide (5 + t113.size ≤ 9223372036854775807) = true := decide_eq_true c14
              try have c14b2 : (9223372036854775807 < 5 + t113.size) = False := eq_false (Nat.not_lt.2 c14)
              obtain ⟨y114, hy114⟩ : ∃ y_ : List ByteArray, y_ = (([(⟨#[108, 105, 110, 101, 32]⟩ : ByteArray) ++ t113] : List ByteArray)) := ⟨_, rfl⟩
              replace H : (some y114) = some r := by first | (rw [hy114]; with_reducible exact H) | (have H2_ := (Option.bind_some _ _).symm.trans H; rw [hy114]; with_reducible exact H2_) | (have H2_ := (Option.bind_some _ _).symm.trans H; with_reducible exact H2_) | with_reducible exact H | (rw [hy114]; exact H) | exact H
              have Ny114 := Aside0.mk hy114
              clear hy114
              obtain rfl := Option.some.inj H
              have p104 : 0 ≤ (x4_1 : Int) := of_decide_eq_true q3
              have q104 : x4_1 < (l0.length : Int) := of_decide_eq_true q3
              obtain ⟨ad104, e104, hx104_0⟩ := Kd.at_string HR0.out x4_1 p104 q104
              cases e104
              replace hx104_0 := (HB.out.cell (World.block_lt_of_cell? w _ hx104_0)).trans hx104_0
              replace p104 := eq_true p104
              replace q104 := eq_true q104
              go_wp2_with (first | ((with_reducible refine gate_callee (f := 11) rfl ?_); refine goesL_ (some 22) rfl rfl Tryz.func11 (by kernel_rfl) rfl #[.string (rdOf ByteArray.empty l0 x4_1)] rfl q1 ?_; (with_reducible refine (spec_ParseTask.calls k1 (rdOf ByteArray.empty l0 x4_1) t105 t106 t107 false _ A6.out).mono ?_); rintro e w15 ⟨rfl, hb⟩; refine ⟨_, rfl, ?_⟩; have n0_ := Aside0.mk (Kd.R_below (by (with_reducible repeat (first | apply Kd.R_alloc | apply Kd.R_drewN | apply Kd.R_drew)); exact HO_3.out) hb); have n1_ := Aside0.mk (below_step bq hb); clear HO_3; clear HB; have HO_3 := n0_; have HB := n1_; clear n0_ n1_; (try clear hb); (try clear hb2); (try clear hk); (try clear hi)) | ((with_reducible refine gate_dst (N := 5) rfl ?_); refine box_event ?hg (N := 5) ?hd (cs := #[.int .i64 0, .int .i64 0, .int .i64 0]) (t := 29) ?hr ?_; (case hd => rfl); (case hg => rfl); (case hr => first | (go_simp; done) | (go_simp; rfl)); intro gb109 hg w16 hbox hb; have n0_ := Aside0.mk (Kd.R_below (Kd.R_elderB (by (with_reducible repeat (first | apply Kd.R_alloc | apply Kd.R_drewN | apply Kd.R_drew)); exact HO_3.out) gb109 (Nat.le_of_eq hg.symm)) hb); have n1_ := Aside0.mk (below_step bq hb); have n2_ := Aside0.mk (hbox); have n3_ := Aside0.mk ((gbq : w.heap.size ≤ gb109)); have n4_ := Aside0.mk ((gbq : w.heap.size ≤ gb109)); clear HO_3; clear HB; have HO_3 := n0_; have HB := n1_; have BK109 := n2_; have GW109 := n3_; have GE109 := n4_; clear n0_ n1_ n2_ n3_ n4_; clear hb hbox hg; have hcz17_0 : w16.cell? ⟨gb109, 0, none⟩ = some (.int .i64 0) := (blk_cell BK109.out 0).trans rfl; have hcz17_1 : w16.cell? ⟨gb109, 1, none⟩ = some (.int .i64 0) := (blk_cell BK109.out 1).trans rfl; have hcz17_2 : w16.cell? ⟨gb109, 2, none⟩ = some (.int .i64 0) := (blk_cell BK109.out 2).trans rfl; have hfz17_0 := blk_frozen BK109.out 0; have hfz17_1 := blk_frozen BK109.out 1; have hfz17_2 := blk_frozen BK109.out 2) | ((with_reducible refine gate_callee (f := 12) rfl ?_); refine goesL_ (some 29) rfl rfl Tryz.func12 (by kernel_rfl) rfl #[.int .i64 (wrap64 (x4_1 + 1))] rfl q1 ?_; (with_reducible refine (spec_l10Plain.calls k1 (wrap64 (x4_1 + 1)) t113 _ A13.out).mono ?_); rintro e w18 ⟨rfl, hb⟩; refine ⟨_, rfl, ?_⟩; have n0_ := Aside0.mk (Kd.R_below (by (with_reducible repeat (first | apply Kd.R_alloc | apply Kd.R_drewN | apply Kd.R_drew)); exact (Kd.R_mono (Kd.R_far (p := ⟨gb109, 2, none⟩) (Kd.R_far (p := ⟨gb109, 1, none⟩) (Kd.R_far (p := ⟨gb109, 0, none⟩) (Kd.R_mono HO_3.out (fun k_ hk => (⟨hk, hk.2⟩ : _ ∧ k_ ≠ gb109))) (fun _ hk => hk.2) (.int .i64 t105)) (fun _ hk => hk.2) (.int .i64 t106)) (fun _ hk => hk.2) (.int .i64 t107)) (fun _ h_ => h_.1))) hb); have n1_ := Aside0.mk (blk_below (g := gb109) (o := .cells #[.int .i64 t105, .int .i64 t106, .int .i64 t107] 29 (0, 0)) (by (with_reducible repeat (first | refine blk_drewN ?_ _ | refine blk_drew ?_ | refine blk_alloc ?_ _)); refine blk_put (cs := #[.int .i64 t105, .int .i64 t106, .int .i64 0]) ?_ 2 _ rfl; (with_reducible repeat (first | refine blk_drewN ?_ _ | refine blk_drew ?_ | refine blk_alloc ?_ _)); refine blk_put (cs := #[.int .i64 t105, .int .i64 0, .int .i64 0]) ?_ 1 _ rfl; (with_reducible repeat (first | refine blk_drewN ?_ _ | refine blk_drew ?_ | refine blk_alloc ?_ _)); refine blk_put (cs := #[.int .i64 0, .int .i64 0, .int .i64 0]) ?_ 0 _ rfl; (with_reducible repeat (first | refine blk_drewN ?_ _ | refine blk_drew ?_ | refine blk_alloc ?_ _)); exact BK109.out) hb); have n2_ := Aside0.mk (below_step bq109 hb); clear HO_3; clear BK109; clear HB; have HO_3 := n0_; have BK109 := n1_; have HB := n2_; clear n0_ n1_ n2_; (try clear hb); (try clear hb2); (try clear hk); (try clear hi)) | ((with_reducible refine gate_dst (N := 31) rfl ?_); refine Kd.R_lit Kd.string _ 9 ?hg (N := 31) ?hd (xs := ([(⟨#[108, 105, 110, 101, 32]⟩ : ByteArray) ++ t113] : List ByteArray)) (inner := [.string ((⟨#[108, 105, 110, 101, 32]⟩ : ByteArray) ++ t113)]) (ok := fun _ => True) (okp := fun _ => True) ?hr ?hp (fun _ hk => hk) trivial (Below.refl _ _) (Nat.le_refl _) (by simp) ?_; (case hd => rfl); (case hg => rfl); (case hr => first | (go_simp; done) | (go_simp; rfl)); (case hp => exact (Reps.one (show Kd.M Kd.string _ _ _ ((⟨#[108, 105, 110, 101, 32]⟩ : ByteArray) ++ t113) [.string ((⟨#[108, 105, 110, 101, 32]⟩ : ByteArray) ++ t113)] from rfl) (Reps.none _ _))); intro v115 w19 ho20 hb hg_ hnew_; clear hg_ hnew_; (first | rw [← Ny114.out] at ho20 | (simp only [Int.reduceToNat] at ho20; rw [← Ny114.out] at ho20)); have n0_ := Aside0.mk (Kd.R_below (by (with_reducible repeat (first | apply Kd.R_alloc | apply Kd.R_drewN | apply Kd.R_drew)); exact HO_3.out) hb); have n1_ := Aside0.mk (Kd.R_lower ho20 (below_size bq109)); have n2_ := Aside0.mk (blk_below (g := gb109) (o := .cells #[.int .i64 t105, .int .i64 t106, .int .i64 t107] 29 (0, 0)) (by (with_reducible repeat (first | refine blk_drewN ?_ _ | refine blk_drew ?_ | refine blk_alloc ?_ _)); exact BK109.out) hb); have n3_ := Aside0.mk (below_step bq109 hb); clear HO_3; clear BK109; clear HB; have HO_3 := n0_; have HO116 := n1_; have BK109 := n2_; have HB := n3_; clear n0_ n1_ n2_ n3_; clear hb ho20))
              go_ret
              exact ⟨_, by first | rfl | (simp [errW_none, errW_some] <;> rfl) | (simp [*, errW_none, errW_some] <;> rfl), by (with_reducible repeat (first | apply Kd.R_alloc | apply Kd.R_drewN | apply Kd.R_drew)); exact HO116.out, by repeat (first | (with_reducible first | exact HB.out | apply below_alloc | apply pw_below_drewN | apply below_drew1 | refine below_set ?_ GE109.out) | exact HB.out)⟩
            · rw [if_neg c14] at H
              exact absurd H (by simp)
        · rw [if_neg c5] at H
          exact absurd H (by simp)
      · rw [if_neg c4] at H
        have c4b0 : decide (x4_1 < (l0.length : Int)) = false := decide_eq_false c4
        clear c4
        by_cases c21 : (x3_1.length : Int) > 5
        · rw [if_pos c21] at H
          have c21b0 : decide (5 < (x3_1.length : Int)) = true := decide_eq_true c21
          have c21b1 : decide (5 < x3_1.length) = true := decide_eq_true (by omega)
          clear c21
          obtain ⟨y117, hy117⟩ : ∃ y_ : List ByteArray, y_ = (([(⟨#[116, 111, 111, 32, 109, 97, 110, 121, 32, 116, 97, 115, 107, 115]⟩ : ByteArray)] : List ByteArray)) := ⟨_, rfl⟩
          replace H : (some y117) = some r := by first | (rw [hy117]; with_reducible exact H) | (have H2_ := (Option.bind_some _ _).symm.trans H; rw [hy117]; with_reducible exact H2_) | (have H2_ := (Option.bind_some _ _).symm.trans H; with_reducible exact H2_) | with_reducible exact H | (rw [hy117]; exact H) | exact H
          have Ny117 := Aside0.mk hy117
          clear hy117
          obtain rfl := Option.some.inj H
          obtain ⟨Ao22, co22, eo22⟩ := Kd.R_slice HO_3.out
          subst eo22
          go_wp2_with (first | ((with_reducible refine gate_dst (N := 39) rfl ?_); refine Kd.R_lit Kd.string _ 9 ?hg (N := 39) ?hd (xs := ([(⟨#[116, 111, 111, 32, 109, 97, 110, 121, 32, 116, 97, 115, 107, 115]⟩ : ByteArray)] : List ByteArray)) (inner := [.string (⟨#[116, 111, 111, 32, 109, 97, 110, 121, 32, 116, 97, 115, 107, 115]⟩ : ByteArray)]) (ok := fun _ => True) (okp := fun _ => True) ?hr ?hp (fun _ hk => hk) trivial (Below.refl _ _) (Nat.le_refl _) (by simp) ?_; (case hd => rfl); (case hg => rfl); (case hr => first | (go_simp; done) | (go_simp; rfl)); (case hp => exact (Reps.one (show Kd.M Kd.string _ _ _ (⟨#[116, 111, 111, 32, 109, 97, 110, 121, 32, 116, 97, 115, 107, 115]⟩ : ByteArray) [.string (⟨#[116, 111, 111, 32, 109, 97, 110, 121, 32, 116, 97, 115, 107, 115]⟩ : ByteArray)] from rfl) (Reps.none _ _))); intro v118 w23 ho24 hb hg_ hnew_; clear hg_ hnew_; (first | rw [← Ny117.out] at ho24 | (simp only [Int.reduceToNat] at ho24; rw [← Ny117.out] at ho24)); have n0_ := Aside0.mk (Kd.R_below (by (with_reducible repeat (first | apply Kd.R_alloc | apply Kd.R_drewN | apply Kd.R_drew)); exact HO_3.out) hb); have n1_ := Aside0.mk (Kd.R_lower ho24 (below_size bq)); have n2_ := Aside0.mk (below_step bq hb); clear HO_3; clear HB; have HO_3 := n0_; have HO119 := n1_; have HB := n2_; clear n0_ n1_ n2_; clear hb ho24))
          go_ret
          exact ⟨_, by first | rfl | (simp [errW_none, errW_some] <;> rfl) | (simp [*, errW_none, errW_some] <;> rfl), by (with_reducible repeat (first | apply Kd.R_alloc | apply Kd.R_drewN | apply Kd.R_drew)); exact HO119.out, by repeat (first | (with_reducible first | exact HB.out | apply below_alloc | apply pw_below_drewN | apply below_drew1) | exact HB.out)⟩
        · rw [if_neg c21] at H
          have c21b0 : decide (5 < (x3_1.length : Int)) = false := decide_eq_false c21
          have c21b1 : decide (5 < x3_1.length) = false := decide_eq_false (by omega)
          clear c21
          replace H := Option.bind_eq_some_iff.mp H
          obtain ⟨⟨t120, t121⟩, A250, H⟩ := H
          replace H : ((spec_l10Plain.f k1 t120).bind fun t123 => (if 12 + t123.size ≤ 9223372036854775807 then (if ((⟨#[117, 116, 105, 108, 105, 122, 97, 116, 105, 111, 110, 32]⟩ : ByteArray) ++ t123).size + 1 ≤ 9223372036854775807 then ((spec_l10Plain.f k1 t121).bind fun t124 => (if (((⟨#[117, 116, 105, 108, 105, 122, 97, 116, 105, 111, 110, 32]⟩ : ByteArray) ++ t123) ++ (⟨#[47]⟩ : ByteArray)).size + t124.size ≤ 9223372036854775807 then ((some (([(((⟨#[117, 116, 105, 108, 105, 122, 97, 116, 105, 111, 110, 32]⟩ : ByteArray) ++ t123) ++ (⟨#[47]⟩ : ByteArray)) ++ t124] : List ByteArray) : List ByteArray)).bind fun y125 => ((spec_FirstOverload.f k1 x3_1).bind fun t128 => (if t128 < 0 then (if y125.length < 8796093022208 then (spec_Report.j1 k1 x3_1 (y125 ++ [(⟨#[101, 100, 102, 32, 102, 101, 97, 115, 105, 98, 108, 101]⟩ : ByteArray)])) else (none)) else ((spec_l10Plain.f k1 t128).bind fun t132 => (if 16 + t132.size ≤ 9223372036854775807 then (if y125.length < 8796093022208 then (spec_Report.j1 k1 x3_1 (y125 ++ [(⟨#[101, 100, 102, 32, 111, 118, 101, 114, 108, 111, 97, 100, 32, 97, 116, 32]⟩ : ByteArray) ++ t132])) else (none)) else (none)))))) else (none))) else (none)) else (none))) = some r := H
          have A25 := Aside0.mk A250
          clear A250
          replace H := Option.bind_eq_some_iff.mp H
          obtain ⟨t123, A260, H⟩ := H
          replace H : (if 12 + t123.size ≤ 9223372036854775807 then (if ((⟨#[117, 116, 105, 108, 105, 122, 97, 116, 105, 111, 110, 32]⟩ : ByteArray) ++ t123).size + 1 ≤ 9223372036854775807 then ((spec_l10Plain.f k1 t121).bind fun t124 => (if (((⟨#[117, 116, 105, 108, 105, 122, 97, 116, 105, 111, 110, 32]⟩ : ByteArray) ++ t123) ++ (⟨#[47]⟩ : ByteArray)).size + t124.size ≤ 9223372036854775807 then ((some (([(((⟨#[117, 116, 105, 108, 105, 122, 97, 116, 105, 111, 110, 32]⟩ : ByteArray) ++ t123) ++ (⟨#[47]⟩ : ByteArray)) ++ t124] : List ByteArray) : List ByteArray)).bind fun y125 => ((spec_FirstOverload.f k1 x3_1).bind fun t128 => (if t128 < 0 then (if y125.length < 8796093022208 then (spec_Report.j1 k1 x3_1 (y125 ++ [(⟨#[101, 100, 102, 32, 102, 101, 97, 115, 105, 98, 108, 101]⟩ : ByteArray)])) else (none)) else ((spec_l10Plain.f k1 t128).bind fun t132 => (if 16 + t132.size ≤ 9223372036854775807 then (if y125.length < 8796093022208 then (spec_Report.j1 k1 x3_1 (y125 ++ [(⟨#[101, 100, 102, 32, 111, 118, 101, 114, 108, 111, 97, 100, 32, 97, 116, 32]⟩ : ByteArray) ++ t132])) else (none)) else (none)))))) else (none))) else (none)) else (none)) = some r := H
          have A26 := Aside0.mk A260
          clear A260
          by_cases c27 : 12 + t123.size ≤ 9223372036854775807
          · rw [if_pos c27] at H
            have c27b0 := eq_true c27
            have c27b1 : decide (12 + t123.size ≤ 9223372036854775807) = true := decide_eq_true c27
            try have c27b2 : (9223372036854775807 < 12 + t123.size) = False := eq_false (Nat.not_lt.2 c27)
            by_cases c28 : ((⟨#[117, 116, 105, 108, 105, 122, 97, 116, 105, 111, 110, 32]⟩ : ByteArray) ++ t123).size + 1 ≤ 9223372036854775807
            · rw [if_pos c28] at H
              have c28b0 := eq_true c28
              have c28b1 : decide (((⟨#[117, 116, 105, 108, 105, 122, 97, 116, 105, 111, 110, 32]⟩ : ByteArray) ++ t123).size + 1 ≤ 9223372036854775807) = true := decide_eq_true c28
              try have c28b2 : (9223372036854775807 < ((⟨#[117, 116, 105, 108, 105, 122, 97, 116, 105, 111, 110, 32]⟩ : ByteArray) ++ t123).size + 1) = False := eq_false (Nat.not_lt.2 c28)
              have c28b3 : (9223372036854775807 < (12 + t123.size) + 1) = False := eq_false (Nat.not_lt.2 (by have h_ := c28; simp only [ByteArray.size_append] at h_; exact h_))
              replace H := Option.bind_eq_some_iff.mp H
              obtain ⟨t124, A290, H⟩ := H
              replace H : (if (((⟨#[117, 116, 105, 108, 105, 122, 97, 116, 105, 111, 110, 32]⟩ : ByteArray) ++ t123) ++ (⟨#[47]⟩ : ByteArray)).size + t124.size ≤ 9223372036854775807 then ((some (([(((⟨#[117, 116, 105, 108, 105, 122, 97, 116, 105, 111, 110, 32]⟩ : ByteArray) ++ t123) ++ (⟨#[47]⟩ : ByteArray)) ++ t124] : List ByteArray) : List ByteArray)).bind fun y125 => ((spec_FirstOverload.f k1 x3_1).bind fun t128 => (if t128 < 0 then (if y125.length < 8796093022208 then (spec_Report.j1 k1 x3_1 (y125 ++ [(⟨#[101, 100, 102, 32, 102, 101, 97, 115, 105, 98, 108, 101]⟩ : ByteArray)])) else (none)) else ((spec_l10Plain.f k1 t128).bind fun t132 => (if 16 + t132.size ≤ 9223372036854775807 then (if y125.length < 8796093022208 then (spec_Report.j1 k1 x3_1 (y125 ++ [(⟨#[101, 100, 102, 32, 111, 118, 101, 114, 108, 111, 97, 100, 32, 97, 116, 32]⟩ : ByteArray) ++ t132])) else (none)) else (none)))))) else (none)) = some r := H
              have A29 := Aside0.mk A290
              clear A290
              by_cases c30 : (((⟨#[117, 116, 105, 108, 105, 122, 97, 116, 105, 111, 110, 32]⟩ : ByteArray) ++ t123) ++ (⟨#[47]⟩ : ByteArray)).size + t124.size ≤ 9223372036854775807
              · rw [if_pos c30] at H
                have c30b0 := eq_true c30
                have c30b1 : decide ((((⟨#[117, 116, 105, 108, 105, 122, 97, 116, 105, 111, 110, 32]⟩ : ByteArray) ++ t123) ++ (⟨#[47]⟩ : ByteArray)).size + t124.size ≤ 9223372036854775807) = true := decide_eq_true c30
                try have c30b2 : (9223372036854775807 < (((⟨#[117, 116, 105, 108, 105, 122, 97, 116, 105, 111, 110, 32]⟩ : ByteArray) ++ t123) ++ (⟨#[47]⟩ : ByteArray)).size + t124.size) = False := eq_false (Nat.not_lt.2 c30)
                have c30b3 : (9223372036854775807 < (12 + t123.size + 1) + t124.size) = False := eq_false (Nat.not_lt.2 (by have h_ := c30; simp only [ByteArray.size_append] at h_; exact h_))
                obtain ⟨y125, hy125⟩ : ∃ y_ : List ByteArray, y_ = (([(((⟨#[117, 116, 105, 108, 105, 122, 97, 116, 105, 111, 110, 32]⟩ : ByteArray) ++ t123) ++ (⟨#[47]⟩ : ByteArray)) ++ t124] : List ByteArray)) := ⟨_, rfl⟩
                replace H : ((spec_FirstOverload.f k1 x3_1).bind fun t128 => (if t128 < 0 then (if y125.length < 8796093022208 then (spec_Report.j1 k1 x3_1 (y125 ++ [(⟨#[101, 100, 102, 32, 102, 101, 97, 115, 105, 98, 108, 101]⟩ : ByteArray)])) else (none)) else ((spec_l10Plain.f k1 t128).bind fun t132 => (if 16 + t132.size ≤ 9223372036854775807 then (if y125.length < 8796093022208 then (spec_Report.j1 k1 x3_1 (y125 ++ [(⟨#[101, 100, 102, 32, 111, 118, 101, 114, 108, 111, 97, 100, 32, 97, 116, 32]⟩ : ByteArray) ++ t132])) else (none)) else (none))))) = some r := by first | (rw [hy125]; with_reducible exact H) | (have H2_ := (Option.bind_some _ _).symm.trans H; rw [hy125]; with_reducible exact H2_) | (have H2_ := (Option.bind_some _ _).symm.trans H; with_reducible exact H2_) | with_reducible exact H | (rw [hy125]; exact H) | exact H
                have Ny125 := Aside0.mk hy125
                clear hy125
                replace H := Option.bind_eq_some_iff.mp H
                obtain ⟨t128, A310, H⟩ := H
                replace H : (if t128 < 0 then (if y125.length < 8796093022208 then (spec_Report.j1 k1 x3_1 (y125 ++ [(⟨#[101, 100, 102, 32, 102, 101, 97, 115, 105, 98, 108, 101]⟩ : ByteArray)])) else (none)) else ((spec_l10Plain.f k1 t128).bind fun t132 => (if 16 + t132.size ≤ 9223372036854775807 then (if y125.length < 8796093022208 then (spec_Report.j1 k1 x3_1 (y125 ++ [(⟨#[101, 100, 102, 32, 111, 118, 101, 114, 108, 111, 97, 100, 32, 97, 116, 32]⟩ : ByteArray) ++ t132])) else (none)) else (none)))) = some r := H
                have A31 := Aside0.mk A310
                clear A310
                have HC32 := Aside0.mk H
                clear H
                obtain ⟨Ao33, co33, eo33⟩ := Kd.R_slice HO_3.out
                subst eo33
                try go_wp2_with (first | ((with_reducible refine gate_callee (f := 13) rfl ?_); refine goesL_ (some 41) rfl rfl Tryz.func13 (by kernel_rfl) rfl #[.slice Ao33 x3_1.length co33] rfl q1 ?_; (with_reducible refine (spec_Utilization.calls k1 _ _ x3_1 t120 t121 _ ?side1 ?side2 A25.out).mono ?_); (case side1 => repeat (first | exact (Kd.R_reads' HO_3.out).2.2 | (with_reducible refine Kd.C_alloc ?_ _) | (with_reducible refine Kd.C_drewN ?_ _) | (with_reducible refine Kd.C_drew ?_))); (case side2 => exact (Kd.R_reads' HO_3.out).2.1); rintro e w34 ⟨rfl, hb⟩; refine ⟨_, rfl, ?_⟩; have n0_ := Aside0.mk (Kd.R_below (by (with_reducible repeat (first | apply Kd.R_alloc | apply Kd.R_drewN | apply Kd.R_drew)); exact HO_3.out) hb); have n1_ := Aside0.mk (below_step bq hb); clear HO_3; clear HB; have HO_3 := n0_; have HB := n1_; clear n0_ n1_; (try clear hb); (try clear hb2); (try clear hk); (try clear hi)) | ((with_reducible refine gate_dst (N := 7) rfl ?_); refine box_event ?hg (N := 7) ?hd (cs := #[.int .i64 0, .int .i64 0]) (t := 34) ?hr ?_; (case hd => rfl); (case hg => rfl); (case hr => first | (go_simp; done) | (go_simp; rfl)); intro gb122 hg w35 hbox hb; have n0_ := Aside0.mk (Kd.R_below (by (with_reducible repeat (first | apply Kd.R_alloc | apply Kd.R_drewN | apply Kd.R_drew)); exact HO_3.out) hb); have n1_ := Aside0.mk (below_step bq hb); have n2_ := Aside0.mk (hbox); have n3_ := Aside0.mk ((gbq : w.heap.size ≤ gb122)); have n4_ := Aside0.mk ((gbq : w.heap.size ≤ gb122)); clear HO_3; clear HB; have HO_3 := n0_; have HB := n1_; have BK122 := n2_; have GW122 := n3_; have GE122 := n4_; clear n0_ n1_ n2_ n3_ n4_; clear hb hbox hg; have hcz36_0 : w35.cell? ⟨gb122, 0, none⟩ = some (.int .i64 0) := (blk_cell BK122.out 0).trans rfl; have hcz36_1 : w35.cell? ⟨gb122, 1, none⟩ = some (.int .i64 0) := (blk_cell BK122.out 1).trans rfl; have hfz36_0 := blk_frozen BK122.out 0; have hfz36_1 := blk_frozen BK122.out 1))
                have n0_ : Aside0 (Kd.R k29 29 ((w35.setCell ⟨gb122, 0, none⟩ (.int .i64 t120)).setCell ⟨gb122, 1, none⟩ (.int .i64 t121)) w.heap.size (fun _ => True) (.slice Ao33 x3_1.length co33) x3_1) := ⟨by (with_reducible repeat (first | apply Kd.R_alloc | apply Kd.R_drewN | apply Kd.R_drew)); exact Kd.R_mono (Kd.R_far (p := ⟨gb122, 1, none⟩) (Kd.R_far (p := ⟨gb122, 0, none⟩) (Kd.R_types HO_3.out BK122.out (by decide)) (fun _ hk => hk.2) (.int .i64 t120)) (fun _ hk => hk.2) (.int .i64 t121)) (fun _ hk => trivial)⟩
                have n1_ : Aside0 (((w35.setCell ⟨gb122, 0, none⟩ (.int .i64 t120)).setCell ⟨gb122, 1, none⟩ (.int .i64 t121)).heap[gb122]? = some (.cells #[.int .i64 t120, .int .i64 t121] 34 (0, 0))) := ⟨by (with_reducible repeat (first | refine blk_drewN ?_ _ | refine blk_drew ?_ | refine blk_alloc ?_ _)); refine blk_put (cs := #[.int .i64 t120, .int .i64 0]) ?_ 1 _ rfl; (with_reducible repeat (first | refine blk_drewN ?_ _ | refine blk_drew ?_ | refine blk_alloc ?_ _)); refine blk_put (cs := #[.int .i64 0, .int .i64 0]) ?_ 0 _ rfl; (with_reducible repeat (first | refine blk_drewN ?_ _ | refine blk_drew ?_ | refine blk_alloc ?_ _)); exact BK122.out⟩
                have n2_ : Aside0 (Below w.heap.size w ((w35.setCell ⟨gb122, 0, none⟩ (.int .i64 t120)).setCell ⟨gb122, 1, none⟩ (.int .i64 t121))) := ⟨by repeat (first | (with_reducible first | exact HB.out | apply below_alloc | apply pw_below_drewN | apply below_drew1 | refine below_set ?_ GE122.out) | exact HB.out)⟩
                (try clear HO_3)
                (try clear BK122)
                (try clear HB)
                generalize ((w35.setCell ⟨gb122, 0, none⟩ (.int .i64 t120)).setCell ⟨gb122, 1, none⟩ (.int .i64 t121)) = w37 at n0_ n1_ n2_ ⊢
                have HO_3 := n0_
                have BK122 := n1_
                have HB := n2_
                clear n0_ n1_ n2_
                have n0_ := Aside0.mk (Kd.R_drew HO_3.out)
                have n1_ := Aside0.mk (blk_drew BK122.out)
                have n2_ := Aside0.mk (below_drew1 HB.out)
                clear HO_3
                clear BK122
                clear HB
                have HO_3 := n0_
                have BK122 := n1_
                have HB := n2_
                clear n0_ n1_ n2_
                refine start_ (n := 11) (S := fun w' => w'.cell? ⟨gb122, 0, none⟩ = some (.int .i64 t120) ∧ w'.cell? ⟨gb122, 1, none⟩ = some (.int .i64 t121)) (ds := []) #[false, false, false, false, false, false, false, false, false, false, false] (by kernel_rfl) rfl rfl ⟨(blk_cell BK122.out 0).trans rfl, (blk_cell BK122.out 1).trans rfl⟩ (fun hHeld => ?_); refine with_tabW spec_Report.tab12 spec_Report.bits12 (fun HT_ HW_ => ?_)
                generalize w37.drew = w38 at HO_3 BK122 HB hHeld ⊢
                refine pure_ (i := 0) (N := some 42) (v := ?_) (a' := ?_) #[true, false, false, false, false, false, false, false, false, false, false] rfl rfl (any_of HT_.out (by kernel_rfl)) (fun _ _ _ h => h) (Or.inl ⟨by rfl, ?_⟩) ?_ ?_
                rotate_left
                · intro w'
                  go_simp
                  with_reducible rfl
                rotate_left
                · simp only [Act.put, List.setIfInBounds_toArray, List.set_cons_zero, List.set_cons_succ, i64_w, i32_w]
                  rfl
                refine pure_ (i := 5) (N := some 47) (v := ?_) (a' := ?_) #[true, false, false, false, false, true, false, false, false, false, false] rfl rfl (any_of HT_.out (by kernel_rfl)) (fun _ _ _ h => h) (Or.inl ⟨by rfl, ?_⟩) ?_ ?_
                rotate_left
                · intro w'
                  go_simp
                  with_reducible rfl
                rotate_left
                · simp only [Act.put, List.setIfInBounds_toArray, List.set_cons_zero, List.set_cons_succ, i64_w, i32_w]
                  rfl
                refine take_ (i := 1) (N := some 43) (v := ?_) (a' := ?_) #[true, true, false, false, false, true, false, false, false, false, false] rfl rfl (take_ofW HT_.out HW_.out (by kernel_rfl)) (fun _ _ _ h => h) (Or.inl ⟨by rfl, ?_⟩) hHeld ?_ ?_
                rotate_left
                · rintro w' ⟨s0, s1⟩
                  go_simp
                  with_reducible rfl
                rotate_left
                · simp only [Act.put, List.setIfInBounds_toArray, List.set_cons_zero, List.set_cons_succ, i64_w, i32_w]
                  rfl
                refine take_ (i := 6) (N := some 48) (v := ?_) (a' := ?_) #[true, true, false, false, false, true, true, false, false, false, false] rfl rfl (take_ofW HT_.out HW_.out (by kernel_rfl)) (fun _ _ _ h => h) (Or.inl ⟨by rfl, ?_⟩) hHeld ?_ ?_
                rotate_left
                · rintro w' ⟨s0, s1⟩
                  go_simp
                  with_reducible rfl
                rotate_left
                · simp only [Act.put, List.setIfInBounds_toArray, List.set_cons_zero, List.set_cons_succ, i64_w, i32_w]
                  rfl
                refine one_ (i := 2) (N := some 44) #[true, true, true, false, false, true, true, false, false, false, false] rfl rfl (one_of HT_.out (by kernel_rfl)) (by decide) (fun K hK => ?_)
                refine goes_ Tryz.func12 (by kernel_rfl) rfl #[.int .i64 t120] (by rfl) rfl rfl q1 ?_
                with_reducible refine (spec_l10Plain.calls k1 t120 t123 _ A26.out).mono ?_
                rintro e w39 ⟨rfl, hb⟩
                refine ⟨_, rfl, ?_⟩
                have n0_ := Aside0.mk (Kd.R_below (by (with_reducible repeat (first | apply Kd.R_alloc | apply Kd.R_drewN | apply Kd.R_drew)); exact HO_3.out) hb)
                have n1_ := Aside0.mk (blk_below (g := gb122) (o := .cells #[.int .i64 t120, .int .i64 t121] 34 (0, 0)) q6 hb)
                have n2_ := Aside0.mk (below_step bq122 hb)
                clear HO_3
                clear BK122
                clear HB
                have HO_3 := n0_
                have BK122 := n1_
                have HB := n2_
                clear n0_ n1_ n2_
                (try clear hb)
                (try clear hb2)
                (try clear hk)
                (try clear hi)
                refine hK.out _ _ ⟨(blk_cell BK122.out 0).trans rfl, (blk_cell BK122.out 1).trans rfl⟩ (fun hHeld => ?_)
                clear hK K
                refine norm_ (a' := ?_) ?_ ?_
                rotate_left
                · show Act.put _ (some 44) _ = _
                  simp only [Act.put, List.setIfInBounds_toArray, List.set_cons_zero, List.set_cons_succ, i64_w, i32_w]
                  rfl
                refine pure_ (i := 3) (N := some 45) (v := ?_) (a' := ?_) #[true, true, true, true, false, true, true, false, false, false, false] rfl rfl (any_of HT_.out (by kernel_rfl)) (fun _ _ _ h => h) (Or.inl ⟨by rfl, ?_⟩) ?_ ?_
                rotate_left
                · intro w'
                  go_simp
                  with_reducible rfl
                rotate_left
                · simp only [Act.put, List.setIfInBounds_toArray, List.set_cons_zero, List.set_cons_succ, i64_w, i32_w]
                  rfl
                refine pure_ (i := 4) (N := some 46) (v := ?_) (a' := ?_) #[true, true, true, true, true, true, true, false, false, false, false] rfl rfl (any_of HT_.out (by kernel_rfl)) (fun _ _ _ h => h) (Or.inl ⟨by rfl, ?_⟩) ?_ ?_
                rotate_left
                · intro w'
                  go_simp
                  with_reducible rfl
                rotate_left
                · simp only [Act.put, List.setIfInBounds_toArray, List.set_cons_zero, List.set_cons_succ, i64_w, i32_w]
                  rfl
                refine one_ (i := 7) (N := some 49) #[true, true, true, true, true, true, true, true, false, false, false] rfl rfl (one_of HT_.out (by kernel_rfl)) (by decide) (fun K hK => ?_)
                refine goes_ Tryz.func12 (by kernel_rfl) rfl #[.int .i64 t121] (by rfl) rfl rfl q1 ?_
                with_reducible refine (spec_l10Plain.calls k1 t121 t124 _ A29.out).mono ?_
                rintro e w40 ⟨rfl, hb⟩
                refine ⟨_, rfl, ?_⟩
                have n0_ := Aside0.mk (Kd.R_below (by (with_reducible repeat (first | apply Kd.R_alloc | apply Kd.R_drewN | apply Kd.R_drew)); exact HO_3.out) hb)
                have n1_ := Aside0.mk (blk_below (g := gb122) (o := .cells #[.int .i64 t120, .int .i64 t121] 34 (0, 0)) q6 hb)
                have n2_ := Aside0.mk (below_step bq122 hb)
                clear HO_3
                clear BK122
                clear HB
                have HO_3 := n0_
                have BK122 := n1_
                have HB := n2_
                clear n0_ n1_ n2_
                (try clear hb)
                (try clear hb2)
                (try clear hk)
                (try clear hi)
                refine hK.out _ _ ⟨(blk_cell BK122.out 0).trans rfl, (blk_cell BK122.out 1).trans rfl⟩ (fun hHeld => ?_)
                clear hK K
                refine norm_ (a' := ?_) ?_ ?_
                rotate_left
                · show Act.put _ (some 49) _ = _
                  simp only [Act.put, List.setIfInBounds_toArray, List.set_cons_zero, List.set_cons_succ, i64_w, i32_w]
                  rfl
                refine pure_ (i := 8) (N := some 50) (v := ?_) (a' := ?_) #[true, true, true, true, true, true, true, true, true, false, false] rfl rfl (any_of HT_.out (by kernel_rfl)) (fun _ _ _ h => h) (Or.inl ⟨by rfl, ?_⟩) ?_ ?_
                rotate_left
                · intro w'
                  go_simp
                  with_reducible rfl
                rotate_left
                · simp only [Act.put, List.setIfInBounds_toArray, List.set_cons_zero, List.set_cons_succ, i64_w, i32_w]
                  rfl
                refine one_ (i := 9) (N := some 51) #[true, true, true, true, true, true, true, true, true, true, false] rfl rfl (one_of HT_.out (by kernel_rfl)) (by decide) (fun K hK => ?_)
                refine Kd.R_lit_step Kd.string _ 9 ?hg (N := 51) ?hd (xs := ([(((⟨#[117, 116, 105, 108, 105, 122, 97, 116, 105, 111, 110, 32]⟩ : ByteArray) ++ t123) ++ (⟨#[47]⟩ : ByteArray)) ++ t124] : List ByteArray)) (inner := [.string ((((⟨#[117, 116, 105, 108, 105, 122, 97, 116, 105, 111, 110, 32]⟩ : ByteArray) ++ t123) ++ (⟨#[47]⟩ : ByteArray)) ++ t124)]) (ok := fun _ => True) (okp := fun _ => True) ?hr ?hp (fun _ hk => hk) trivial (Below.refl _ _) (Nat.le_refl _) (by simp) ?_; (case hd => rfl); (case hg => rfl); (case hr => first | (go_simp; done) | (go_simp; rfl)); (case hp => exact (Reps.one (show Kd.M Kd.string _ _ _ ((((⟨#[117, 116, 105, 108, 105, 122, 97, 116, 105, 111, 110, 32]⟩ : ByteArray) ++ t123) ++ (⟨#[47]⟩ : ByteArray)) ++ t124) [.string ((((⟨#[117, 116, 105, 108, 105, 122, 97, 116, 105, 111, 110, 32]⟩ : ByteArray) ++ t123) ++ (⟨#[47]⟩ : ByteArray)) ++ t124)] from rfl) (Reps.none _ _)))
                intro v126 w41 ho42 hb hg_ hnew_
                clear hg_ hnew_
                (first | rw [← Ny125.out] at ho42 | (simp only [Int.reduceToNat] at ho42; rw [← Ny125.out] at ho42))
                have n0_ := Aside0.mk (Kd.R_below (by (with_reducible repeat (first | apply Kd.R_alloc | apply Kd.R_drewN | apply Kd.R_drew)); exact HO_3.out) hb)
                have n1_ := Aside0.mk (Kd.R_lower ho42 (below_size bq122))
                have n2_ := Aside0.mk (blk_below (g := gb122) (o := .cells #[.int .i64 t120, .int .i64 t121] 34 (0, 0)) q6 hb)
                have n3_ := Aside0.mk (below_step bq122 hb)
                clear HO_3
                clear BK122
                clear HB
                have HO_3 := n0_
                have HO127 := n1_
                have BK122 := n2_
                have HB := n3_
                clear n0_ n1_ n2_ n3_
                clear hb ho42
                refine hK.out _ _ ⟨(blk_cell BK122.out 0).trans rfl, (blk_cell BK122.out 1).trans rfl⟩ (fun hHeld => ?_)
                clear hK K
                refine norm_ (a' := ?_) ?_ ?_
                rotate_left
                · show Act.put _ (some 51) _ = _
                  simp only [Act.put, List.setIfInBounds_toArray, List.set_cons_zero, List.set_cons_succ, i64_w, i32_w]
                  rfl
                refine pure_ (i := 10) (N := some 8) (v := ?_) (a' := ?_) #[true, true, true, true, true, true, true, true, true, true, true] rfl rfl (any_of HT_.out (by kernel_rfl)) (fun _ _ _ h => h) (Or.inl ⟨by rfl, ?_⟩) ?_ ?_
                rotate_left
                · intro w'
                  go_simp
                  with_reducible rfl
                rotate_left
                · simp only [Act.put, List.setIfInBounds_toArray, List.set_cons_zero, List.set_cons_succ, i64_w, i32_w]
                  rfl
                refine done_ (done_of HT_.out (by kernel_rfl)) ?_
                go_upto_if 55 with (first | ((with_reducible refine gate_callee (f := 14) rfl ?_); refine goesL_ (some 53) rfl rfl Tryz.func14 (by kernel_rfl) rfl #[.slice Ao33 x3_1.length co33] rfl q1 ?_; (with_reducible refine (spec_FirstOverload.calls k1 _ _ x3_1 t128 _ ?side1 ?side2 A31.out).mono ?_); (case side1 => repeat (first | exact (Kd.R_reads' HO_3.out).2.2 | (with_reducible refine Kd.C_alloc ?_ _) | (with_reducible refine Kd.C_drewN ?_ _) | (with_reducible refine Kd.C_drew ?_))); (case side2 => exact (Kd.R_reads' HO_3.out).2.1); rintro e w43 ⟨rfl, hb⟩; refine ⟨_, rfl, ?_⟩; have n0_ := Aside0.mk (Kd.R_below (by (with_reducible repeat (first | apply Kd.R_alloc | apply Kd.R_drewN | apply Kd.R_drew)); exact HO_3.out) hb); have n1_ := Aside0.mk (Kd.R_below (by (with_reducible repeat (first | apply Kd.R_alloc | apply Kd.R_drewN | apply Kd.R_drew)); exact HO127.out) hb); have n2_ := Aside0.mk (blk_below (g := gb122) (o := .cells #[.int .i64 t120, .int .i64 t121] 34 (0, 0)) q6 hb); have n3_ := Aside0.mk (below_step bq122 hb); clear HO_3; clear HO127; clear BK122; clear HB; have HO_3 := n0_; have HO127 := n1_; have BK122 := n2_; have HB := n3_; clear n0_ n1_ n2_ n3_; (try clear hb); (try clear hb2); (try clear hk); (try clear hi)))
                (try simp only [Act.put, List.setIfInBounds_toArray, List.set_cons_zero, List.set_cons_succ])
                go_cut [8] (fun v8 wc => ∃ (kq : Nat) (x8_31 : List ByteArray), Aside0 (spec_Report.j1 kq x3_1 x8_31 = some r) ∧ Aside0 (kq ≤ k1) ∧ Aside0 (Kd.R k29 29 wc w.heap.size (fun _ => True) (.slice Ao33 x3_1.length co33) x3_1) ∧ Aside0 (Kd.R Kd.string 9 wc w.heap.size (fun _ => True) v8 x8_31) ∧ Aside0 (wc.heap[gb122]? = some (.cells #[.int .i64 t120, .int .i64 t121] 34 (0, 0))) ∧ Aside0 (Below w.heap.size w wc))
                case first =>
                  have H := HC32.out
                  clear HC32
                  by_cases c44 : t128 < 0
                  · rw [if_pos c44] at H
                    have c44b0 : decide (t128 < 0) = true := decide_eq_true c44
                    clear c44
                    (first | rw [c44b0] | (simp only [i64_w, i32_w]; rw [c44b0]) | skip)
                    by_cases c45 : y125.length < 8796093022208
                    · rw [if_pos c45] at H
                      have LMc45 := Aside0.mk c45
                      clear c45
                      obtain ⟨y129, hy129⟩ : ∃ y_ : List ByteArray, y_ = (y125 ++ [(⟨#[101, 100, 102, 32, 102, 101, 97, 115, 105, 98, 108, 101]⟩ : ByteArray)]) := ⟨_, rfl⟩
                      replace H : (spec_Report.j1 k1 x3_1 y129) = some r := by first | (rw [hy129]; with_reducible exact H) | (have H2_ := (Option.bind_some _ _).symm.trans H; rw [hy129]; with_reducible exact H2_) | (have H2_ := (Option.bind_some _ _).symm.trans H; with_reducible exact H2_) | with_reducible exact H | (rw [hy129]; exact H) | exact H
                      have Ny129 := Aside0.mk hy129
                      clear hy129
                      have H' := Aside0.mk H
                      clear H
                      go_wp2_with (first | ((with_reducible refine gate_builtin (b := .append) (xs := #[.tmp 56, .tmp 57]) rfl ?_); at_builtin; refine Kd.R_append Kd.string (w0 := w) w.heap.size rfl (.tmp 56) (.tmp 57) 22 9 (.string ⟨#[]⟩) 16 rfl Tryz.underlying22 info9 rfl (by decide) (by omega) v126 y125 (⟨#[101, 100, 102, 32, 102, 101, 97, 115, 105, 98, 108, 101]⟩ : ByteArray) [.string (⟨#[101, 100, 102, 32, 102, 101, 97, 115, 105, 98, 108, 101]⟩ : ByteArray)] (fun _ => True) (fun _ => False) rfl rfl ?aP (fun _ hk => hk.elim) ?aF ?aO ?aB ?aS ?aL ?_; (case aP => exact rfl); (case aB => exact bq122); (case aF => exact (fun _ _ => trivial)); (case aO => exact (by (with_reducible repeat (first | apply Kd.R_alloc | apply Kd.R_drewN | apply Kd.R_drew)); exact HO127.out)); (case aS => exact (below_size bq122)); (case aL => have := LMc45.out; omega); intro v130 w46 ho hb hg hat; rw [← Ny129.out] at ho; have n0_ := Aside0.mk (Kd.R_over' (by (with_reducible repeat (first | apply Kd.R_alloc | apply Kd.R_drewN | apply Kd.R_drew)); exact HO_3.out) (Kd.R_typed (by (with_reducible repeat (first | apply Kd.R_alloc | apply Kd.R_drewN | apply Kd.R_drew)); exact HO127.out)) (by decide) hg); have n1_ := Aside0.mk (blk_grown (g := gb122) (o := .cells #[.int .i64 t120, .int .i64 t121] 34 (0, 0)) q6 hg (Kd.R_ne HO127.out BK122.out (by decide))); have n2_ := Aside0.mk (hb); have n3_ := Aside0.mk (ho); clear HO_3; clear BK122; clear HB; clear HO127; have HO_3 := n0_; have BK122 := n1_; have HB := n2_; have HO131 := n3_; clear n0_ n1_ n2_ n3_; clear ho hb hg hat))
                      go_meet
                      case rel => exact ⟨_, (y129), H', ⟨by have := HK1.out; first | omega | exact Nat.le_refl _⟩, ⟨by (with_reducible repeat (first | apply Kd.R_alloc | apply Kd.R_drewN | apply Kd.R_drew)); exact HO_3.out⟩, ⟨by (with_reducible repeat (first | apply Kd.R_alloc | apply Kd.R_drewN | apply Kd.R_drew)); exact HO131.out⟩, ⟨by (with_reducible repeat (first | refine blk_drewN ?_ _ | refine blk_drew ?_ | refine blk_alloc ?_ _)); exact BK122.out⟩, ⟨by repeat (first | (with_reducible first | exact HB.out | apply below_alloc | apply pw_below_drewN | apply below_drew1 | refine below_set ?_ GE122.out) | exact HB.out)⟩⟩
                    · rw [if_neg c45] at H
                      exact absurd H (by simp)
                  · rw [if_neg c44] at H
                    have c44b0 : decide (t128 < 0) = false := decide_eq_false c44
                    clear c44
                    (first | rw [c44b0] | (simp only [i64_w, i32_w]; rw [c44b0]) | skip)
                    replace H := Option.bind_eq_some_iff.mp H
                    obtain ⟨t132, A470, H⟩ := H
                    replace H : (if 16 + t132.size ≤ 9223372036854775807 then (if y125.length < 8796093022208 then (spec_Report.j1 k1 x3_1 (y125 ++ [(⟨#[101, 100, 102, 32, 111, 118, 101, 114, 108, 111, 97, 100, 32, 97, 116, 32]⟩ : ByteArray) ++ t132])) else (none)) else (none)) = some r := H
                    have A47 := Aside0.mk A470
                    clear A470
                    by_cases c48 : 16 + t132.size ≤ 9223372036854775807
                    · rw [if_pos c48] at H
                      have c48b0 := eq_true c48
                      have c48b1 : decide (16 + t132.size ≤ 9223372036854775807) = true := decide_eq_true c48
                      try have c48b2 : (9223372036854775807 < 16 + t132.size) = False := eq_false (Nat.not_lt.2 c48)
                      by_cases c49 : y125.length < 8796093022208
                      · rw [if_pos c49] at H
                        have LMc49 := Aside0.mk c49
                        clear c49
                        obtain ⟨y133, hy133⟩ : ∃ y_ : List ByteArray, y_ = (y125 ++ [(⟨#[101, 100, 102, 32, 111, 118, 101, 114, 108, 111, 97, 100, 32, 97, 116, 32]⟩ : ByteArray) ++ t132]) := ⟨_, rfl⟩
                        replace H : (spec_Report.j1 k1 x3_1 y133) = some r := by first | (rw [hy133]; with_reducible exact H) | (have H2_ := (Option.bind_some _ _).symm.trans H; rw [hy133]; with_reducible exact H2_) | (have H2_ := (Option.bind_some _ _).symm.trans H; with_reducible exact H2_) | with_reducible exact H | (rw [hy133]; exact H) | exact H
                        have Ny133 := Aside0.mk hy133
                        clear hy133
                        have H' := Aside0.mk H
                        clear H
                        go_wp2_with (first | ((with_reducible refine gate_callee (f := 12) rfl ?_); refine goesL_ (some 61) rfl rfl Tryz.func12 (by kernel_rfl) rfl #[.int .i64 t128] rfl q1 ?_; (with_reducible refine (spec_l10Plain.calls k1 t128 t132 _ A47.out).mono ?_); rintro e w50 ⟨rfl, hb⟩; refine ⟨_, rfl, ?_⟩; have n0_ := Aside0.mk (Kd.R_below (by (with_reducible repeat (first | apply Kd.R_alloc | apply Kd.R_drewN | apply Kd.R_drew)); exact HO_3.out) hb); have n1_ := Aside0.mk (Kd.R_below (by (with_reducible repeat (first | apply Kd.R_alloc | apply Kd.R_drewN | apply Kd.R_drew)); exact HO127.out) hb); have n2_ := Aside0.mk (blk_below (g := gb122) (o := .cells #[.int .i64 t120, .int .i64 t121] 34 (0, 0)) q6 hb); have n3_ := Aside0.mk (below_step bq122 hb); clear HO_3; clear HO127; clear BK122; clear HB; have HO_3 := n0_; have HO127 := n1_; have BK122 := n2_; have HB := n3_; clear n0_ n1_ n2_ n3_; (try clear hb); (try clear hb2); (try clear hk); (try clear hi)) | ((with_reducible refine gate_builtin (b := .append) (xs := #[.tmp 59, .tmp 63]) rfl ?_); at_builtin; refine Kd.R_append Kd.string (w0 := w) w.heap.size rfl (.tmp 59) (.tmp 63) 22 9 (.string ⟨#[]⟩) 16 rfl Tryz.underlying22 info9 rfl (by decide) (by omega) v126 y125 ((⟨#[101, 100, 102, 32, 111, 118, 101, 114, 108, 111, 97, 100, 32, 97, 116, 32]⟩ : ByteArray) ++ t132) [.string ((⟨#[101, 100, 102, 32, 111, 118, 101, 114, 108, 111, 97, 100, 32, 97, 116, 32]⟩ : ByteArray) ++ t132)] (fun _ => True) (fun _ => False) rfl rfl ?aP (fun _ hk => hk.elim) ?aF ?aO ?aB ?aS ?aL ?_; (case aP => exact rfl); (case aB => exact bq122); (case aF => exact (fun _ _ => trivial)); (case aO => exact (by (with_reducible repeat (first | apply Kd.R_alloc | apply Kd.R_drewN | apply Kd.R_drew)); exact HO127.out)); (case aS => exact (below_size bq122)); (case aL => have := LMc49.out; omega); intro v134 w51 ho hb hg hat; rw [← Ny133.out] at ho; have n0_ := Aside0.mk (Kd.R_over' (by (with_reducible repeat (first | apply Kd.R_alloc | apply Kd.R_drewN | apply Kd.R_drew)); exact HO_3.out) (Kd.R_typed (by (with_reducible repeat (first | apply Kd.R_alloc | apply Kd.R_drewN | apply Kd.R_drew)); exact HO127.out)) (by decide) hg); have n1_ := Aside0.mk (blk_grown (g := gb122) (o := .cells #[.int .i64 t120, .int .i64 t121] 34 (0, 0)) q6 hg (Kd.R_ne HO127.out BK122.out (by decide))); have n2_ := Aside0.mk (hb); have n3_ := Aside0.mk (ho); clear HO_3; clear BK122; clear HB; clear HO127; have HO_3 := n0_; have BK122 := n1_; have HB := n2_; have HO135 := n3_; clear n0_ n1_ n2_ n3_; clear ho hb hg hat))
                        go_meet
                        case rel => exact ⟨_, (y133), H', ⟨by have := HK1.out; first | omega | exact Nat.le_refl _⟩, ⟨by (with_reducible repeat (first | apply Kd.R_alloc | apply Kd.R_drewN | apply Kd.R_drew)); exact HO_3.out⟩, ⟨by (with_reducible repeat (first | apply Kd.R_alloc | apply Kd.R_drewN | apply Kd.R_drew)); exact HO135.out⟩, ⟨by (with_reducible repeat (first | refine blk_drewN ?_ _ | refine blk_drew ?_ | refine blk_alloc ?_ _)); exact BK122.out⟩, ⟨by repeat (first | (with_reducible first | exact HB.out | apply below_alloc | apply pw_below_drewN | apply below_drew1 | refine below_set ?_ GE122.out) | exact HB.out)⟩⟩
                      · rw [if_neg c49] at H
                        exact absurd H (by simp)
                    · rw [if_neg c48] at H
                      exact absurd H (by simp)
                case rest =>
                  clear HC32
                  try clear c1
                  try clear p1
                  try clear q1
                  try clear hx1
                  try clear c2
                  try clear p2
                  try clear c3
                  try clear c4
                  try clear c4b0
                  try clear c5
                  try clear c5b0
                  try clear p6
                  try clear c7
                  try clear c8
                  try clear p10
                  try clear q10
                  try clear hx10
                  try clear c11
                  try clear c12
                  try clear c13
                  try clear c14
                  try clear c14b0
                  try clear c14b1
                  try clear c14b2
                  try clear c21
                  try clear c21b0
                  try clear c21b1
                  try clear c27
                  try clear c27b0
                  try clear c27b1
                  try clear c27b2
                  try clear c28
                  try clear c28b0
                  try clear c28b1
                  try clear c28b2
                  try clear c30
                  try clear c30b0
                  try clear c30b1
                  try clear c30b2
                  try clear c44
                  try clear c44b0
                  try clear c45
                  try clear c48
                  try clear c48b0
                  try clear c48b1
                  try clear c48b2
                  try clear c49
                  try clear hcz11_0
                  try clear hcz11_1
                  try clear hcz11_2
                  try clear hcz17_0
                  try clear hcz17_1
                  try clear hcz17_2
                  try clear hcz36_0
                  try clear hcz36_1
                  try clear hfz11_0
                  try clear hfz11_1
                  try clear hfz11_2
                  try clear hfz17_0
                  try clear hfz17_1
                  try clear hfz17_2
                  try clear hfz36_0
                  try clear hfz36_1
                  try clear hx104_0
                  try clear p104
                  try clear p2
                  try clear q104
                  obtain ⟨kq, x8_31, HA, HJ31, HO_3, HO_8, BK122, HB⟩ := hcut
                  cases kq with
                  | zero => exact absurd HA.out (by simp [spec_Report.j1])
                  | succ kj31 =>
                    have H := HA.out
                    clear HA
                    simp only [spec_Report.j1] at H
                    replace H := Option.bind_eq_some_iff.mp H
                    obtain ⟨t136, A520, H⟩ := H
                    replace H : ((spec_ResponseTimes.f kj31 x3_1 t136).bind fun t139 => ((spec_l10Times.f kj31 t139).bind fun t142 => (if 8 + t142.size ≤ 9223372036854775807 then (if x8_31.length < 8796093022208 then ((some (x8_31 ++ [(⟨#[114, 101, 115, 112, 111, 110, 115, 101]⟩ : ByteArray) ++ t142] : List ByteArray)).bind fun y143 => ((spec_MinCores.f kj31 x3_1).bind fun t146 => ((spec_l10Plain.f kj31 t146).bind fun t147 => (if 6 + t147.size ≤ 9223372036854775807 then (if y143.length < 8796093022208 then (some (y143 ++ [(⟨#[99, 111, 114, 101, 115, 32]⟩ : ByteArray) ++ t147])) else (none)) else (none))))) else (none)) else (none)))) = some r := H
                    have A52 := Aside0.mk A520
                    clear A520
                    replace H := Option.bind_eq_some_iff.mp H
                    obtain ⟨t139, A530, H⟩ := H
                    replace H : ((spec_l10Times.f kj31 t139).bind fun t142 => (if 8 + t142.size ≤ 9223372036854775807 then (if x8_31.length < 8796093022208 then ((some (x8_31 ++ [(⟨#[114, 101, 115, 112, 111, 110, 115, 101]⟩ : ByteArray) ++ t142] : List ByteArray)).bind fun y143 => ((spec_MinCores.f kj31 x3_1).bind fun t146 => ((spec_l10Plain.f kj31 t146).bind fun t147 => (if 6 + t147.size ≤ 9223372036854775807 then (if y143.length < 8796093022208 then (some (y143 ++ [(⟨#[99, 111, 114, 101, 115, 32]⟩ : ByteArray) ++ t147])) else (none)) else (none))))) else (none)) else (none))) = some r := H
                    have A53 := Aside0.mk A530
                    clear A530
                    replace H := Option.bind_eq_some_iff.mp H
                    obtain ⟨t142, A540, H⟩ := H
                    replace H : (if 8 + t142.size ≤ 9223372036854775807 then (if x8_31.length < 8796093022208 then ((some (x8_31 ++ [(⟨#[114, 101, 115, 112, 111, 110, 115, 101]⟩ : ByteArray) ++ t142] : List ByteArray)).bind fun y143 => ((spec_MinCores.f kj31 x3_1).bind fun t146 => ((spec_l10Plain.f kj31 t146).bind fun t147 => (if 6 + t147.size ≤ 9223372036854775807 then (if y143.length < 8796093022208 then (some (y143 ++ [(⟨#[99, 111, 114, 101, 115, 32]⟩ : ByteArray) ++ t147])) else (none)) else (none))))) else (none)) else (none)) = some r := H
                    have A54 := Aside0.mk A540
                    clear A540
                    by_cases c55 : 8 + t142.size ≤ 9223372036854775807
                    · rw [if_pos c55] at H
                      have c55b0 := eq_true c55
                      have c55b1 : decide (8 + t142.size ≤ 9223372036854775807) = true := decide_eq_true c55
                      try have c55b2 : (9223372036854775807 < 8 + t142.size) = False := eq_false (Nat.not_lt.2 c55)
                      by_cases c56 : x8_31.length < 8796093022208
                      · rw [if_pos c56] at H
                        have LMc56 := Aside0.mk c56
                        clear c56
                        obtain ⟨y143, hy143⟩ : ∃ y_ : List ByteArray, y_ = (x8_31 ++ [(⟨#[114, 101, 115, 112, 111, 110, 115, 101]⟩ : ByteArray) ++ t142]) := ⟨_, rfl⟩
                        replace H : ((spec_MinCores.f kj31 x3_1).bind fun t146 => ((spec_l10Plain.f kj31 t146).bind fun t147 => (if 6 + t147.size ≤ 9223372036854775807 then (if y143.length < 8796093022208 then (some (y143 ++ [(⟨#[99, 111, 114, 101, 115, 32]⟩ : ByteArray) ++ t147])) else (none)) else (none)))) = some r := by first | (rw [hy143]; with_reducible exact H) | (have H2_ := (Option.bind_some _ _).symm.trans H; rw [hy143]; with_reducible exact H2_) | (have H2_ := (Option.bind_some _ _).symm.trans H; with_reducible exact H2_) | with_reducible exact H | (rw [hy143]; exact H) | exact H
                        have Ny143 := Aside0.mk hy143
                        clear hy143
                        replace H := Option.bind_eq_some_iff.mp H
                        obtain ⟨t146, A570, H⟩ := H
                        replace H : ((spec_l10Plain.f kj31 t146).bind fun t147 => (if 6 + t147.size ≤ 9223372036854775807 then (if y143.length < 8796093022208 then (some (y143 ++ [(⟨#[99, 111, 114, 101, 115, 32]⟩ : ByteArray) ++ t147])) else (none)) else (none))) = some r := H
                        have A57 := Aside0.mk A570
                        clear A570
                        replace H := Option.bind_eq_some_iff.mp H
                        obtain ⟨t147, A580, H⟩ := H
                        replace H : (if 6 + t147.size ≤ 9223372036854775807 then (if y143.length < 8796093022208 then (some (y143 ++ [(⟨#[99, 111, 114, 101, 115, 32]⟩ : ByteArray) ++ t147])) else (none)) else (none)) = some r := H
                        have A58 := Aside0.mk A580
                        clear A580
                        by_cases c59 : 6 + t147.size ≤ 9223372036854775807
                        · rw [if_pos c59] at H
                          have c59b0 := eq_true c59
                          have c59b1 : decide (6 + t147.size ≤ 9223372036854775807) = true := decide_eq_true c59
                          try have c59b2 : (9223372036854775807 < 6 + t147.size) = False := eq_false (Nat.not_lt.2 c59)
                          by_cases c60 : y143.length < 8796093022208
                          · rw [if_pos c60] at H
                            have LMc60 := Aside0.mk c60
                            clear c60
                            obtain ⟨y148, hy148⟩ : ∃ y_ : List ByteArray, y_ = (y143 ++ [(⟨#[99, 111, 114, 101, 115, 32]⟩ : ByteArray) ++ t147]) := ⟨_, rfl⟩
                            replace H : (some y148) = some r := by first | (rw [hy148]; with_reducible exact H) | (have H2_ := (Option.bind_some _ _).symm.trans H; rw [hy148]; with_reducible exact H2_) | (have H2_ := (Option.bind_some _ _).symm.trans H; with_reducible exact H2_) | with_reducible exact H | (rw [hy148]; exact H) | exact H
                            have Ny148 := Aside0.mk hy148
                            clear hy148
                            obtain rfl := Option.some.inj H
                            go_wp2_with (first | ((with_reducible refine gate_callee (f := 17) rfl ?_); refine goesL_ (some 68) rfl rfl Tryz.func17 (by kernel_rfl) rfl #[.slice Ao33 x3_1.length co33] rfl q1 ?_; (with_reducible refine (spec_DeadlineMonotonic.calls kj31 _ _ x3_1 t136 _ ?side1 ?side2 A52.out).mono ?_); (case side1 => repeat (first | exact (Kd.R_reads' HO_3.out).2.2 | (with_reducible refine Kd.C_alloc ?_ _) | (with_reducible refine Kd.C_drewN ?_ _) | (with_reducible refine Kd.C_drew ?_))); (case side2 => exact (Kd.R_reads' HO_3.out).2.1); rintro e w61 ⟨v137, rfl, ho0, hb⟩; refine ⟨_, rfl, ?_⟩; have n0_ := Aside0.mk (Kd.R_below (by (with_reducible repeat (first | apply Kd.R_alloc | apply Kd.R_drewN | apply Kd.R_drew)); exact HO_3.out) hb); have n1_ := Aside0.mk (Kd.R_below (by (with_reducible repeat (first | apply Kd.R_alloc | apply Kd.R_drewN | apply Kd.R_drew)); exact HO_8.out) hb); have n2_ := Aside0.mk (Kd.R_lower ho0 (below_size bq122)); have n3_ := Aside0.mk (blk_below (g := gb122) (o := .cells #[.int .i64 t120, .int .i64 t121] 34 (0, 0)) q6 hb); have n4_ := Aside0.mk (below_step bq122 hb); clear HO_3; clear HO_8; clear BK122; clear HB; have HO_3 := n0_; have HO_8 := n1_; have HO138 := n2_; have BK122 := n3_; have HB := n4_; clear n0_ n1_ n2_ n3_ n4_; (try clear hb); (try clear hb2); (try clear hk); (try clear hi); (try clear ho0); obtain ⟨Ao62, co62, eo62⟩ := Kd.R_slice HO138.out; subst eo62) | ((with_reducible refine gate_callee (f := 16) rfl ?_); refine goesL_ (some 69) rfl rfl Tryz.func16 (by kernel_rfl) rfl #[.slice Ao33 x3_1.length co33, .slice Ao62 t136.length co62] rfl q1 ?_; (with_reducible refine (spec_ResponseTimes.calls kj31 _ _ x3_1 _ _ t136 t139 _ ?side1 ?side2 ?side3 ?side4 A53.out).mono ?_); (case side1 => repeat (first | exact (Kd.R_reads' HO_3.out).2.2 | (with_reducible refine Kd.C_alloc ?_ _) | (with_reducible refine Kd.C_drewN ?_ _) | (with_reducible refine Kd.C_drew ?_))); (case side2 => exact (Kd.R_reads' HO_3.out).2.1); (case side3 => repeat (first | exact (Kd.R_reads' HO138.out).2.2 | (with_reducible refine Kd.C_alloc ?_ _) | (with_reducible refine Kd.C_drewN ?_ _) | (with_reducible refine Kd.C_drew ?_))); (case side4 => exact (Kd.R_reads' HO138.out).2.1); rintro e w63 ⟨v140, rfl, ho0, hb⟩; refine ⟨_, rfl, ?_⟩; have n0_ := Aside0.mk (Kd.R_below (by (with_reducible repeat (first | apply Kd.R_alloc | apply Kd.R_drewN | apply Kd.R_drew)); exact HO_3.out) hb); have n1_ := Aside0.mk (Kd.R_below (by (with_reducible repeat (first | apply Kd.R_alloc | apply Kd.R_drewN | apply Kd.R_drew)); exact HO_8.out) hb); have n2_ := Aside0.mk (Kd.R_elder' (by (with_reducible repeat (first | apply Kd.R_alloc | apply Kd.R_drewN | apply Kd.R_drew)); exact HO138.out) (Kd.R_base ho0) hb); have n3_ := Aside0.mk (Kd.R_lower (Kd.R_new' ho0 (Kd.R_lt (by (with_reducible repeat (first | apply Kd.R_alloc | apply Kd.R_drewN | apply Kd.R_drew)); exact HO138.out))) (below_size bq122)); have n4_ := Aside0.mk (blk_below (g := gb122) (o := .cells #[.int .i64 t120, .int .i64 t121] 34 (0, 0)) q6 hb); have n5_ := Aside0.mk (below_step bq122 hb); clear HO_3; clear HO_8; clear HO138; clear BK122; clear HB; have HO_3 := n0_; have HO_8 := n1_; have HO138 := n2_; have HO141 := n3_; have BK122 := n4_; have HB := n5_; clear n0_ n1_ n2_ n3_ n4_ n5_; (try clear hb); (try clear hb2); (try clear hk); (try clear hi); (try clear ho0); obtain ⟨Ao64, co64, eo64⟩ := Kd.R_slice HO141.out; subst eo64) | ((with_reducible refine gate_callee (f := 15) rfl ?_); refine goesL_ (some 70) rfl rfl Tryz.func15 (by kernel_rfl) rfl #[.slice Ao64 t139.length co64] rfl q1 ?_; (with_reducible refine (spec_l10Times.calls kj31 _ _ t139 t142 _ ?side1 ?side2 A54.out).mono ?_); (case side1 => repeat (first | exact (Kd.R_reads' HO141.out).2.2 | (with_reducible refine Kd.C_alloc ?_ _) | (with_reducible refine Kd.C_drewN ?_ _) | (with_reducible refine Kd.C_drew ?_))); (case side2 => exact (Kd.R_reads' HO141.out).2.1); rintro e w65 ⟨rfl, hb⟩; refine ⟨_, rfl, ?_⟩; have n0_ := Aside0.mk (Kd.R_below (by (with_reducible repeat (first | apply Kd.R_alloc | apply Kd.R_drewN | apply Kd.R_drew)); exact HO_3.out) hb); have n1_ := Aside0.mk (Kd.R_below (by (with_reducible repeat (first | apply Kd.R_alloc | apply Kd.R_drewN | apply Kd.R_drew)); exact HO_8.out) hb); have n2_ := Aside0.mk (Kd.R_below (by (with_reducible repeat (first | apply Kd.R_alloc | apply Kd.R_drewN | apply Kd.R_drew)); exact HO138.out) hb); have n3_ := Aside0.mk (Kd.R_below (by (with_reducible repeat (first | apply Kd.R_alloc | apply Kd.R_drewN | apply Kd.R_drew)); exact HO141.out) hb); have n4_ := Aside0.mk (blk_below (g := gb122) (o := .cells #[.int .i64 t120, .int .i64 t121] 34 (0, 0)) q6 hb); have n5_ := Aside0.mk (below_step bq122 hb); clear HO_3; clear HO_8; clear HO138; clear HO141; clear BK122; clear HB; have HO_3 := n0_; have HO_8 := n1_; have HO138 := n2_; have HO141 := n3_; have BK122 := n4_; have HB := n5_; clear n0_ n1_ n2_ n3_ n4_ n5_; (try clear hb); (try clear hb2); (try clear hk); (try clear hi)) | ((with_reducible refine gate_builtin (b := .append) (xs := #[.tmp 65, .tmp 72]) rfl ?_); at_builtin; refine Kd.R_append Kd.string (w0 := w) w.heap.size rfl (.tmp 65) (.tmp 72) 22 9 (.string ⟨#[]⟩) 16 rfl Tryz.underlying22 info9 rfl (by decide) (by omega) u8 x8_31 ((⟨#[114, 101, 115, 112, 111, 110, 115, 101]⟩ : ByteArray) ++ t142) [.string ((⟨#[114, 101, 115, 112, 111, 110, 115, 101]⟩ : ByteArray) ++ t142)] (fun _ => True) (fun _ => False) rfl rfl ?aP (fun _ hk => hk.elim) ?aF ?aO ?aB ?aS ?aL ?_; (case aP => exact rfl); (case aB => exact bq122); (case aF => exact (fun _ _ => trivial)); (case aO => exact (by (with_reducible repeat (first | apply Kd.R_alloc | apply Kd.R_drewN | apply Kd.R_drew)); exact HO_8.out)); (case aS => exact (below_size bq122)); (case aL => have := LMc56.out; omega); intro v144 w66 ho hb hg hat; rw [← Ny143.out] at ho; have n0_ := Aside0.mk (Kd.R_over' (by (with_reducible repeat (first | apply Kd.R_alloc | apply Kd.R_drewN | apply Kd.R_drew)); exact HO_3.out) (Kd.R_typed (by (with_reducible repeat (first | apply Kd.R_alloc | apply Kd.R_drewN | apply Kd.R_drew)); exact HO_8.out)) (by decide) hg); have n1_ := Aside0.mk (blk_grown (g := gb122) (o := .cells #[.int .i64 t120, .int .i64 t121] 34 (0, 0)) q6 hg (Kd.R_ne HO_8.out BK122.out (by decide))); have n2_ := Aside0.mk (Kd.R_over' (by (with_reducible repeat (first | apply Kd.R_alloc | apply Kd.R_drewN | apply Kd.R_drew)); exact HO138.out) (Kd.R_typed (by (with_reducible repeat (first | apply Kd.R_alloc | apply Kd.R_drewN | apply Kd.R_drew)); exact HO_8.out)) (by decide) hg); have n3_ := Aside0.mk (Kd.R_over' (by (with_reducible repeat (first | apply Kd.R_alloc | apply Kd.R_drewN | apply Kd.R_drew)); exact HO141.out) (Kd.R_typed (by (with_reducible repeat (first | apply Kd.R_alloc | apply Kd.R_drewN | apply Kd.R_drew)); exact HO_8.out)) (by decide) hg); have n4_ := Aside0.mk (hb); have n5_ := Aside0.mk (ho); clear HO_3; clear BK122; clear HO138; clear HO141; clear HB; clear HO_8; have HO_3 := n0_; have BK122 := n1_; have HO138 := n2_; have HO141 := n3_; have HB := n4_; have HO145 := n5_; clear n0_ n1_ n2_ n3_ n4_ n5_; clear ho hb hg hat) | ((with_reducible refine gate_callee (f := 18) rfl ?_); refine goesL_ (some 76) rfl rfl Tryz.func18 (by kernel_rfl) rfl #[.slice Ao33 x3_1.length co33] rfl q1 ?_; (with_reducible refine (spec_MinCores.calls kj31 _ _ x3_1 t146 _ ?side1 ?side2 A57.out).mono ?_); (case side1 => repeat (first | exact (Kd.R_reads' HO_3.out).2.2 | (with_reducible refine Kd.C_alloc ?_ _) | (with_reducible refine Kd.C_drewN ?_ _) | (with_reducible refine Kd.C_drew ?_))); (case side2 => exact (Kd.R_reads' HO_3.out).2.1); rintro e w67 ⟨rfl, hb⟩; refine ⟨_, rfl, ?_⟩; have n0_ := Aside0.mk (Kd.R_below (by (with_reducible repeat (first | apply Kd.R_alloc | apply Kd.R_drewN | apply Kd.R_drew)); exact HO_3.out) hb); have n1_ := Aside0.mk (Kd.R_below (by (with_reducible repeat (first | apply Kd.R_alloc | apply Kd.R_drewN | apply Kd.R_drew)); exact HO138.out) hb); have n2_ := Aside0.mk (Kd.R_below (by (with_reducible repeat (first | apply Kd.R_alloc | apply Kd.R_drewN | apply Kd.R_drew)); exact HO141.out) hb); have n3_ := Aside0.mk (Kd.R_below (by (with_reducible repeat (first | apply Kd.R_alloc | apply Kd.R_drewN | apply Kd.R_drew)); exact HO145.out) hb); have n4_ := Aside0.mk (blk_below (g := gb122) (o := .cells #[.int .i64 t120, .int .i64 t121] 34 (0, 0)) q6 hb); have n5_ := Aside0.mk (below_step bq122 hb); clear HO_3; clear HO138; clear HO141; clear HO145; clear BK122; clear HB; have HO_3 := n0_; have HO138 := n1_; have HO141 := n2_; have HO145 := n3_; have BK122 := n4_; have HB := n5_; clear n0_ n1_ n2_ n3_ n4_ n5_; (try clear hb); (try clear hb2); (try clear hk); (try clear hi)) | ((with_reducible refine gate_callee (f := 12) rfl ?_); refine goesL_ (some 77) rfl rfl Tryz.func12 (by kernel_rfl) rfl #[.int .i64 t146] rfl q1 ?_; (with_reducible refine (spec_l10Plain.calls kj31 t146 t147 _ A58.out).mono ?_); rintro e w68 ⟨rfl, hb⟩; refine ⟨_, rfl, ?_⟩; have n0_ := Aside0.mk (Kd.R_below (by (with_reducible repeat (first | apply Kd.R_alloc | apply Kd.R_drewN | apply Kd.R_drew)); exact HO_3.out) hb); have n1_ := Aside0.mk (Kd.R_below (by (with_reducible repeat (first | apply Kd.R_alloc | apply Kd.R_drewN | apply Kd.R_drew)); exact HO138.out) hb); have n2_ := Aside0.mk (Kd.R_below (by (with_reducible repeat (first | apply Kd.R_alloc | apply Kd.R_drewN | apply Kd.R_drew)); exact HO141.out) hb); have n3_ := Aside0.mk (Kd.R_below (by (with_reducible repeat (first | apply Kd.R_alloc | apply Kd.R_drewN | apply Kd.R_drew)); exact HO145.out) hb); have n4_ := Aside0.mk (blk_below (g := gb122) (o := .cells #[.int .i64 t120, .int .i64 t121] 34 (0, 0)) q6 hb); have n5_ := Aside0.mk (below_step bq122 hb); clear HO_3; clear HO138; clear HO141; clear HO145; clear BK122; clear HB; have HO_3 := n0_; have HO138 := n1_; have HO141 := n2_; have HO145 := n3_; have BK122 := n4_; have HB := n5_; clear n0_ n1_ n2_ n3_ n4_ n5_; (try clear hb); (try clear hb2); (try clear hk); (try clear hi)) | ((with_reducible refine gate_builtin (b := .append) (xs := #[.tmp 74, .tmp 79]) rfl ?_); at_builtin; refine Kd.R_append Kd.string (w0 := w) w.heap.size rfl (.tmp 74) (.tmp 79) 22 9 (.string ⟨#[]⟩) 16 rfl Tryz.underlying22 info9 rfl (by decide) (by omega) v144 y143 ((⟨#[99, 111, 114, 101, 115, 32]⟩ : ByteArray) ++ t147) [.string ((⟨#[99, 111, 114, 101, 115, 32]⟩ : ByteArray) ++ t147)] (fun _ => True) (fun _ => False) rfl rfl ?aP (fun _ hk => hk.elim) ?aF ?aO ?aB ?aS ?aL ?_; (case aP => exact rfl); (case aB => exact bq122); (case aF => exact (fun _ _ => trivial)); (case aO => exact (by (with_reducible repeat (first | apply Kd.R_alloc | apply Kd.R_drewN | apply Kd.R_drew)); exact HO145.out)); (case aS => exact (below_size bq122)); (case aL => have := LMc60.out; omega); intro v149 w69 ho hb hg hat; rw [← Ny148.out] at ho; have n0_ := Aside0.mk (Kd.R_over' (by (with_reducible repeat (first | apply Kd.R_alloc | apply Kd.R_drewN | apply Kd.R_drew)); exact HO_3.out) (Kd.R_typed (by (with_reducible repeat (first | apply Kd.R_alloc | apply Kd.R_drewN | apply Kd.R_drew)); exact HO145.out)) (by decide) hg); have n1_ := Aside0.mk (blk_grown (g := gb122) (o := .cells #[.int .i64 t120, .int .i64 t121] 34 (0, 0)) q6 hg (Kd.R_ne HO145.out BK122.out (by decide))); have n2_ := Aside0.mk (Kd.R_over' (by (with_reducible repeat (first | apply Kd.R_alloc | apply Kd.R_drewN | apply Kd.R_drew)); exact HO138.out) (Kd.R_typed (by (with_reducible repeat (first | apply Kd.R_alloc | apply Kd.R_drewN | apply Kd.R_drew)); exact HO145.out)) (by decide) hg); have n3_ := Aside0.mk (Kd.R_over' (by (with_reducible repeat (first | apply Kd.R_alloc | apply Kd.R_drewN | apply Kd.R_drew)); exact HO141.out) (Kd.R_typed (by (with_reducible repeat (first | apply Kd.R_alloc | apply Kd.R_drewN | apply Kd.R_drew)); exact HO145.out)) (by decide) hg); have n4_ := Aside0.mk (hb); have n5_ := Aside0.mk (ho); clear HO_3; clear BK122; clear HO138; clear HO141; clear HB; clear HO145; have HO_3 := n0_; have BK122 := n1_; have HO138 := n2_; have HO141 := n3_; have HB := n4_; have HO150 := n5_; clear n0_ n1_ n2_ n3_ n4_ n5_; clear ho hb hg hat))
                            go_ret
                            exact ⟨_, by first | rfl | (simp [errW_none, errW_some] <;> rfl) | (simp [*, errW_none, errW_some] <;> rfl), by (with_reducible repeat (first | apply Kd.R_alloc | apply Kd.R_drewN | apply Kd.R_drew)); exact HO150.out, by repeat (first | (with_reducible first | exact HB.out | apply below_alloc | apply pw_below_drewN | apply below_drew1 | refine below_set ?_ GE122.out) | exact HB.out)⟩
                          · rw [if_neg c60] at H
                            exact absurd H (by simp)
                        · rw [if_neg c59] at H
                          exact absurd H (by simp)
                      · rw [if_neg c56] at H
                        exact absurd H (by simp)
                    · rw [if_neg c55] at H
                      exact absurd H (by simp)
              · rw [if_neg c30] at H
                exact absurd H (by simp)
            · rw [if_neg c28] at H
              exact absurd H (by simp)
          · rw [if_neg c27] at H
            exact absurd H (by simp)

end Go.Proofs.YtkgloicnfphmoaaGreatDoor.Print
