/- Functions of the translation as plain Lean functions, and their contracts: written by a program. No condition. -/
import Derived.Test.YtcpgejgppiclmaaPB
import Derived.Test.YtcpgejgppiclmaaPK60
import Derived.Test.YtcpgejgppiclmaaPK7fe
import Derived.Test.YtcpgejgppiclmaaPKfff
namespace Go.Proofs.Ytcpgejgppiclmaa.Print
open Go.RowKit Go.Proofs.YtcpgejgppiclmaaW.PrintWords Go.Proofs.YtcpgejgppiclmaaW.PrintLast Go.Proofs.YtcpgejgppiclmaaW.PrintMore
attribute [local go_sem] max2_int min2_int max_two min_two max_three min_three max_four min_four   -- for this text's walks alone
set_option linter.unusedVariables false
set_option linter.unusedSimpArgs false

/-! ### spec_MinFeasibleDeadline: function 39 -/
mutual
def spec_MinFeasibleDeadline.j0 : Nat → List (S81) → Int → Bool → Option (Int)
  | 0, _, _, _ => none
  | k + 1, x0, x1, x17 => if x17 = true then (some (-1)) else (if 0 ≤ x1 then (if x1 < (x0.length : Int) then (spec_MinFeasibleDeadline.l0 k x0 x1 ((rd_T81 x0 x1).f0)) else (none)) else (none))
def spec_MinFeasibleDeadline.l0 : Nat → List (S81) → Int → Int → Option (Int)
  | 0, _, _, _ => none
  | k + 1, x0, x1, x5 => if 0 ≤ x1 then (if x1 < (x0.length : Int) then (if x5 ≤ ((rd_T81 x0 x1).f2) then ((some (([] : List (S81)) : List (S81))).bind fun y105 => (if y105.length + x0.length < 5864062014805 then ((some (y105 ++ x0 : List (S81))).bind fun y108 => (if x1 < (y108.length : Int) then ((spec_l2Edf.f k (y108.set (x1 : Int).toNat (⟨(rd_T81 y108 x1).f0, x5, (rd_T81 y108 x1).f2⟩ : S81))).bind fun t112 => (if t112 = true then (some x5) else (spec_MinFeasibleDeadline.l0 k x0 x1 (wrap64 (x5 + 1))))) else (none))) else (none))) else (some 0)) else (none)) else (none)
end
def spec_MinFeasibleDeadline.f (k : Nat) (l0 : List (S81)) (a1 : Int) : Option (Int) := (spec_SetValid.f k l0).bind fun t101 => (if t101 = true then ((spec_l1In.f a1 0 (wrap64 ((l0.length : Int) - 1))).bind fun t102 => (spec_MinFeasibleDeadline.j0 k l0 a1 (!t102))) else (spec_MinFeasibleDeadline.j0 k l0 a1 true))
theorem spec_MinFeasibleDeadline.mono_l : ∀ k, (∀ y0 y1 y2, LeO (spec_MinFeasibleDeadline.j0 k y0 y1 y2) (spec_MinFeasibleDeadline.j0 (k + 1) y0 y1 y2)) ∧ (∀ y0 y1 y2, LeO (spec_MinFeasibleDeadline.l0 k y0 y1 y2) (spec_MinFeasibleDeadline.l0 (k + 1) y0 y1 y2))
  | 0 => ⟨fun _ _ _ r h => by simp [spec_MinFeasibleDeadline.j0] at h, fun _ _ _ r h => by simp [spec_MinFeasibleDeadline.l0] at h⟩
  | k + 1 => by
    obtain ⟨ih0, ih1⟩ := spec_MinFeasibleDeadline.mono_l k
    refine ⟨?_, ?_⟩
    · intro y0 y1 y2
      unfold spec_MinFeasibleDeadline.j0
      repeat' first
      | (with_reducible exact ih0 _ _ _)
      | (with_reducible exact ih1 _ _ _)
      | (with_reducible exact spec_SetValid.mono _ _)
      | (with_reducible exact spec_l2Edf.mono _ _)
      | (with_reducible exact LeO.refl _)
      | (with_reducible exact LeO.none _)
      | (with_reducible refine LeO.ite ?_ ?_)
      | (with_reducible refine LeO.bind ?_ (fun _ => ?_))
      | exact ih0 _ _ _
      | exact ih1 _ _ _
      | exact spec_SetValid.mono _ _
      | exact spec_l2Edf.mono _ _
      | exact LeO.none _
      | refine LeO.ite ?_ ?_
      | refine LeO.bind ?_ (fun _ => ?_)
    · intro y0 y1 y2
      unfold spec_MinFeasibleDeadline.l0
      repeat' first
      | (with_reducible exact ih0 _ _ _)
      | (with_reducible exact ih1 _ _ _)
      | (with_reducible exact spec_SetValid.mono _ _)
      | (with_reducible exact spec_l2Edf.mono _ _)
      | (with_reducible exact LeO.refl _)
      | (with_reducible exact LeO.none _)
      | (with_reducible refine LeO.ite ?_ ?_)
      | (with_reducible refine LeO.bind ?_ (fun _ => ?_))
      | exact ih0 _ _ _
      | exact ih1 _ _ _
      | exact spec_SetValid.mono _ _
      | exact spec_l2Edf.mono _ _
      | exact LeO.none _
      | refine LeO.ite ?_ ?_
      | refine LeO.bind ?_ (fun _ => ?_)
theorem spec_MinFeasibleDeadline.mono : ∀ a0 a1 k, LeO (spec_MinFeasibleDeadline.f k a0 a1) (spec_MinFeasibleDeadline.f (k + 1) a0 a1) := by
  intro a0 a1 k
  obtain ⟨ih0, ih1⟩ := spec_MinFeasibleDeadline.mono_l k
  unfold spec_MinFeasibleDeadline.f
  repeat' first
      | (with_reducible exact ih0 _ _ _)
      | (with_reducible exact ih1 _ _ _)
      | (with_reducible exact spec_SetValid.mono _ _)
      | (with_reducible exact spec_l2Edf.mono _ _)
      | (with_reducible exact LeO.refl _)
      | (with_reducible exact LeO.none _)
      | (with_reducible refine LeO.ite ?_ ?_)
      | (with_reducible refine LeO.bind ?_ (fun _ => ?_))
      | exact ih0 _ _ _
      | exact ih1 _ _ _
      | exact spec_SetValid.mono _ _
      | exact spec_l2Edf.mono _ _
      | exact LeO.none _
      | refine LeO.ite ?_ ?_
      | refine LeO.bind ?_ (fun _ => ?_)
set_option maxHeartbeats 8000000 in
set_option maxRecDepth 100000 in
theorem spec_MinFeasibleDeadline.calls (k : Nat) (A0 : Option Addr) (c0 : Nat) (l0 : List (S81)) (a1 : Int) (r : Int) (w : World) (hr0 : Kd.C k81 w A0 l0.length l0) (hc0 : l0.length ≤ c0) (h : spec_MinFeasibleDeadline.f k l0 a1 = some r) :
    Calls Try.prog 39 #[.slice A0 l0.length c0, .int .i64 a1] w fun e w' => e = .returned (.int .i64 r) ∧ Below w.heap.size w w' := by
  have HR0 := Aside0.mk hr0
  have HC0 := Aside0.mk hc0
  clear hr0 hc0
  have HB := Aside0.mk (Below.refl w.heap.size w)
  have H : ((spec_SetValid.f k l0).bind fun t101 => (if t101 = true then ((spec_l1In.f a1 0 (wrap64 ((l0.length : Int) - 1))).bind fun t102 => (spec_MinFeasibleDeadline.j0 k l0 a1 (!t102))) else (spec_MinFeasibleDeadline.j0 k l0 a1 true))) = some r := h
  clear h
  have HC3 := Aside0.mk H
  clear H
  go_enter Try.func39, Try.ntmps39
  go_upto_region 1 with (fail)
  go_cut [17] (fun v17 wc => ∃ (kq : Nat) (x17_2 : Bool), v17 = .bool x17_2 ∧ Aside0 (spec_MinFeasibleDeadline.j0 kq l0 a1 x17_2 = some r) ∧ Aside0 (kq ≤ k) ∧ Aside0 (Below w.heap.size w wc))
  case first =>
    have H := HC3.out
    clear HC3
    replace H := Option.bind_eq_some_iff.mp H
    obtain ⟨t101, A40, H⟩ := H
    replace H : (if t101 = true then ((spec_l1In.f a1 0 (wrap64 ((l0.length : Int) - 1))).bind fun t102 => (spec_MinFeasibleDeadline.j0 k l0 a1 (!t102))) else (spec_MinFeasibleDeadline.j0 k l0 a1 true)) = some r := H
    have A4 := Aside0.mk A40
    clear A40
    by_cases c5 : t101 = true
    · subst c5
      have H1 : ((spec_l1In.f a1 0 (wrap64 ((l0.length : Int) - 1))).bind fun t102 => (spec_MinFeasibleDeadline.j0 k l0 a1 (!t102))) = some r := by rw [if_pos rfl] at H; exact H
      clear H
      have H := H1
      clear H1
      replace H := Option.bind_eq_some_iff.mp H
      obtain ⟨t102, A60, H⟩ := H
      replace H : (spec_MinFeasibleDeadline.j0 k l0 a1 (!t102)) = some r := H
      have A6 := Aside0.mk A60
      clear A60
      have H' := Aside0.mk H
      clear H
      go_wp2_with (first | ((with_reducible refine gate_callee (f := 65) rfl ?_); refine goesL_ (some 8) rfl rfl Try.func65 (by kernel_rfl) rfl #[.slice A0 l0.length c0] rfl (by (try simp only [List.map_toArray, List.map_cons, List.map_nil]); first | done | rfl | (simp only [List.length_drop, List.length_take]; rfl)) ?_; (with_reducible refine (spec_SetValid.calls k _ _ l0 true _ ?side1 ?side2 A4.out).mono ?_); (case side1 => repeat (first | exact (Kd.C_below HR0.out HB.out) | (with_reducible refine Kd.C_alloc ?_ _) | (with_reducible refine Kd.C_drewN ?_ _) | (with_reducible refine Kd.C_drew ?_))); (case side2 => exact HC0.out); rintro e w7 ⟨rfl, hb⟩; refine ⟨_, rfl, ?_⟩; have n0_ := Aside0.mk (below_step (by repeat (first | (with_reducible first | exact HB.out | apply below_alloc | apply pw_below_drewN | apply below_drew1) | exact HB.out)) hb); clear HB; have HB := n0_; clear n0_; (try clear hb); (try clear hb2); (try clear hk); (try clear hi)) | (go_at_call 57; (with_reducible refine (spec_l1In.calls a1 0 (wrap64 ((l0.length : Int) - 1)) t102 _ A6.out).mono ?_); rintro e w' ⟨rfl, ⟨nd, rfl⟩⟩))
      go_meet
      case rel => exact ⟨_, (!t102), (by first | rfl | (simp; done) | (simp [*]; done) | (simp only [i64_w, i32_w]; done) | (simp [*, i64_w, i32_w]; done)), H', ⟨by first | omega | exact Nat.le_refl _⟩, ⟨by repeat (first | (with_reducible first | exact HB.out | apply below_alloc | apply pw_below_drewN | apply below_drew1) | exact HB.out)⟩⟩
    · replace c5 := Bool.eq_false_iff.mpr c5
      subst c5
      have H1 : (spec_MinFeasibleDeadline.j0 k l0 a1 true) = some r := by rw [if_neg (show ¬ (false = true) by decide)] at H; exact H
      clear H
      have H := H1
      clear H1
      have H' := Aside0.mk H
      clear H
      go_wp2_with (first | ((with_reducible refine gate_callee (f := 65) rfl ?_); refine goesL_ (some 8) rfl rfl Try.func65 (by kernel_rfl) rfl #[.slice A0 l0.length c0] rfl (by (try simp only [List.map_toArray, List.map_cons, List.map_nil]); first | done | rfl | (simp only [List.length_drop, List.length_take]; rfl)) ?_; (with_reducible refine (spec_SetValid.calls k _ _ l0 false _ ?side1 ?side2 A4.out).mono ?_); (case side1 => repeat (first | exact (Kd.C_below HR0.out HB.out) | (with_reducible refine Kd.C_alloc ?_ _) | (with_reducible refine Kd.C_drewN ?_ _) | (with_reducible refine Kd.C_drew ?_))); (case side2 => exact HC0.out); rintro e w8 ⟨rfl, hb⟩; refine ⟨_, rfl, ?_⟩; have n0_ := Aside0.mk (below_step (by repeat (first | (with_reducible first | exact HB.out | apply below_alloc | apply pw_below_drewN | apply below_drew1) | exact HB.out)) hb); clear HB; have HB := n0_; clear n0_; (try clear hb); (try clear hb2); (try clear hk); (try clear hi)))
      go_meet
      case rel => exact ⟨_, (true), (by first | rfl | (simp; done) | (simp [*]; done) | (simp only [i64_w, i32_w]; done) | (simp [*, i64_w, i32_w]; done)), H', ⟨by first | omega | exact Nat.le_refl _⟩, ⟨by repeat (first | (with_reducible first | exact HB.out | apply below_alloc | apply pw_below_drewN | apply below_drew1) | exact HB.out)⟩⟩
  case rest =>
    clear HC3
    try clear p2
    try clear c3
    try clear c5
    try clear c6
    try clear p6
    obtain ⟨kq, x17_2, rfl, HA, HJ2, HB⟩ := hcut
    cases kq with
    | zero => exact absurd HA.out (by simp [spec_MinFeasibleDeadline.j0])
    | succ kj2 =>
      have H := HA.out
      clear HA
      simp only [spec_MinFeasibleDeadline.j0] at H
      by_cases c9 : x17_2 = true
      · subst c9
        have H1 : (some (-1)) = some r := by rw [if_pos rfl] at H; exact H
        clear H
        have H := H1
        clear H1
        obtain rfl := Option.some.inj H
        go_wp2
        go_ret
        exact ⟨by first | rfl | (simp [errW_none, errW_some] <;> rfl) | (simp [*, errW_none, errW_some] <;> rfl), by repeat (first | (with_reducible first | exact HB.out | apply below_alloc | apply pw_below_drewN | apply below_drew1) | exact HB.out)⟩
      · replace c9 := Bool.eq_false_iff.mpr c9
        subst c9
        have H1 : (if 0 ≤ a1 then (if a1 < (l0.length : Int) then (spec_MinFeasibleDeadline.l0 kj2 l0 a1 ((rd_T81 l0 a1).f0)) else (none)) else (none)) = some r := by rw [if_neg (show ¬ (false = true) by decide)] at H; exact H
        clear H
        have H := H1
        clear H1
        by_cases c10 : 0 ≤ a1
        · rw [if_pos c10] at H
          have c10b0 : decide (0 ≤ a1) = true := decide_eq_true c10
          clear c10
          by_cases c11 : a1 < (l0.length : Int)
          · rw [if_pos c11] at H
            have c11b0 : decide (a1 < (l0.length : Int)) = true := decide_eq_true c11
            clear c11
            have H' := Aside0.mk H
            clear H
            have p103 : 0 ≤ (a1 : Int) := of_decide_eq_true (by first | (with_reducible assumption) | assumption)
            have q103 : a1 < (l0.length : Int) := of_decide_eq_true (by first | (with_reducible assumption) | assumption)
            obtain ⟨ad103, e103, hx103_0, hx103_1, hx103_2⟩ := at_T81 HR0.out a1 p103 q103
            cases e103
            replace hx103_0 := (HB.out.cell (World.block_lt_of_cell? w _ hx103_0)).trans hx103_0
            replace hx103_1 := (HB.out.cell (World.block_lt_of_cell? w _ hx103_1)).trans hx103_1
            replace hx103_2 := (HB.out.cell (World.block_lt_of_cell? w _ hx103_2)).trans hx103_2
            replace p103 := eq_true p103
            replace q103 := eq_true q103
            go_wp2
            go_loopg [5] kj2 (fun kq v5 w' => ∃ (x5_2 : Int), v5 = .int .i64 x5_2 ∧ Aside0 (spec_MinFeasibleDeadline.l0 kq l0 a1 x5_2 = some r) ∧ Aside0 (kq ≤ kj2) ∧ Aside0 (Below w.heap.size w w'))
            case atStart => exact ⟨((rd_T81 l0 a1).f0), (by first | rfl | (simp; done) | (simp [*]; done) | (simp only [i64_w, i32_w]; done) | (simp [*, i64_w, i32_w]; done)), H', ⟨Nat.le_refl _⟩, ⟨by repeat (first | (with_reducible first | exact HB.out | apply below_alloc | apply pw_below_drewN | apply below_drew1) | exact HB.out)⟩⟩
            case round =>
              clear H'
              try clear c1
              try clear p1
              try clear q1
              try clear hx1
              try clear p2
              try clear c3
              try clear c5
              try clear c6
              try clear p6
              try clear c9
              try clear c10
              try clear c10b0
              try clear p10
              try clear q10
              try clear hx10
              try clear c11
              try clear c11b0
              try clear hx103_0
              try clear hx103_1
              try clear hx103_2
              try clear p103
              try clear p2
              try clear p6
              try clear q103
              obtain ⟨x5_2, rfl, HA, HK2, HB⟩ := hrel
              cases gk with
              | zero => exact absurd HA.out (by simp [spec_MinFeasibleDeadline.l0])
              | succ k2 =>
                have H := HA.out
                clear HA
                simp only [spec_MinFeasibleDeadline.l0] at H
                by_cases c12 : 0 ≤ a1
                · rw [if_pos c12] at H
                  have c12b0 : decide (0 ≤ a1) = true := decide_eq_true c12
                  clear c12
                  by_cases c13 : a1 < (l0.length : Int)
                  · rw [if_pos c13] at H
                    have c13b0 : decide (a1 < (l0.length : Int)) = true := decide_eq_true c13
                    clear c13
                    by_cases c14 : x5_2 ≤ ((rd_T81 l0 a1).f2)
                    · rw [if_pos c14] at H
                      have c14b0 : decide (x5_2 ≤ ((rd_T81 l0 a1).f2)) = true := decide_eq_true c14
                      clear c14
                      obtain ⟨y105, hy105⟩ : ∃ y_ : List (S81), y_ = (([] : List (S81))) := ⟨_, rfl⟩
                      replace H : (if y105.length + l0.length < 5864062014805 then ((some (y105 ++ l0 : List (S81))).bind fun y108 => (if a1 < (y108.length : Int) then ((spec_l2Edf.f k2 (y108.set (a1 : Int).toNat (⟨(rd_T81 y108 a1).f0, x5_2, (rd_T81 y108 a1).f2⟩ : S81))).bind fun t112 => (if t112 = true then (some x5_2) else (spec_MinFeasibleDeadline.l0 k2 l0 a1 (wrap64 (x5_2 + 1))))) else (none))) else (none)) = some r := by first | (rw [hy105]; with_reducible exact H) | (have H2_ := (Option.bind_some _ _).symm.trans H; rw [hy105]; with_reducible exact H2_) | (have H2_ := (Option.bind_some _ _).symm.trans H; with_reducible exact H2_) | with_reducible exact H | (rw [hy105]; exact H) | exact H
                      have Ny105 := Aside0.mk hy105
                      clear hy105
                      by_cases c15 : y105.length + l0.length < 5864062014805
                      · rw [if_pos c15] at H
                        have LMc15 := Aside0.mk c15
                        clear c15
                        obtain ⟨y108, hy108⟩ : ∃ y_ : List (S81), y_ = (y105 ++ l0) := ⟨_, rfl⟩
                        replace H : (if a1 < (y108.length : Int) then ((spec_l2Edf.f k2 (y108.set (a1 : Int).toNat (⟨(rd_T81 y108 a1).f0, x5_2, (rd_T81 y108 a1).f2⟩ : S81))).bind fun t112 => (if t112 = true then (some x5_2) else (spec_MinFeasibleDeadline.l0 k2 l0 a1 (wrap64 (x5_2 + 1))))) else (none)) = some r := by first | (rw [hy108]; with_reducible exact H) | (have H2_ := (Option.bind_some _ _).symm.trans H; rw [hy108]; with_reducible exact H2_) | (have H2_ := (Option.bind_some _ _).symm.trans H; with_reducible exact H2_) | with_reducible exact H | (rw [hy108]; exact H) | exact H
                        have Ny108 := Aside0.mk hy108
                        clear hy108
                        by_cases c16 : a1 < (y108.length : Int)
                        · rw [if_pos c16] at H
                          have c16b0 : decide (a1 < (y108.length : Int)) = true := decide_eq_true c16
                          clear c16
                          obtain ⟨y111, hy111⟩ : ∃ y_ : List (S81), y_ = (y108.set (a1 : Int).toNat (⟨(rd_T81 y108 a1).f0, x5_2, (rd_T81 y108 a1).f2⟩ : S81)) := ⟨_, rfl⟩
                          replace H : ((spec_l2Edf.f k2 y111).bind fun t112 => (if t112 = true then (some x5_2) else (spec_MinFeasibleDeadline.l0 k2 l0 a1 (wrap64 (x5_2 + 1))))) = some r := by first | (rw [hy111]; with_reducible exact H) | (have H2_ := (Option.bind_some _ _).symm.trans H; rw [hy111]; with_reducible exact H2_) | (have H2_ := (Option.bind_some _ _).symm.trans H; with_reducible exact H2_) | with_reducible exact H | (rw [hy111]; exact H) | exact H
                          have Ny111 := Aside0.mk hy111
                          clear hy111
                          replace H := Option.bind_eq_some_iff.mp H
                          obtain ⟨t112, A180, H⟩ := H
                          replace H : (if t112 = true then (some x5_2) else (spec_MinFeasibleDeadline.l0 k2 l0 a1 (wrap64 (x5_2 + 1)))) = some r := H
                          have A18 := Aside0.mk A180
                          clear A180
                          by_cases c19 : t112 = true
                          · subst c19
                            have H1 : (some x5_2) = some r := by rw [if_pos rfl] at H; exact H
                            clear H
                            have H := H1
                            clear H1
                            obtain rfl := Option.some.inj H
                            have p104 : 0 ≤ (a1 : Int) := of_decide_eq_true (by first | (with_reducible assumption) | assumption)
                            have q104 : a1 < (l0.length : Int) := of_decide_eq_true (by first | (with_reducible assumption) | assumption)
                            obtain ⟨ad104, e104, hx104_0, hx104_1, hx104_2⟩ := at_T81 HR0.out a1 p104 q104
                            obtain rfl : ad103 = ad104 := (by injection e104)
                            replace hx104_0 := (HB.out.cell (World.block_lt_of_cell? w _ hx104_0)).trans hx104_0
                            replace hx104_1 := (HB.out.cell (World.block_lt_of_cell? w _ hx104_1)).trans hx104_1
                            replace hx104_2 := (HB.out.cell (World.block_lt_of_cell? w _ hx104_2)).trans hx104_2
                            replace p104 := eq_true p104
                            replace q104 := eq_true q104
                            go_wp2_with (first | ((with_reducible refine gate_dst (N := 32) rfl ?_); (try (refine gate_guard (by rfl) ?_; dsimp only)); refine Kd.R_lit k81 _ 81 ?hg (N := 32) ?hd (xs := ([] : List (S81))) (inner := []) (ok := fun _ => True) (okp := fun _ => True) ?hr ?hp (fun _ hk => hk) trivial (Below.refl _ _) (Nat.le_refl _) (by simp) ?_; (case hd => rfl); (case hg => rfl); (case hr => first | (go_simp; done) | (go_simp; rfl)); (case hp => exact (Reps.none _ _)); intro v106 w20 ho21 hb hg_ hnew_; clear hg_ hnew_; (first | rw [← Ny105.out] at ho21 | (simp only [Int.reduceToNat] at ho21; rw [← Ny105.out] at ho21)); have n0_ := Aside0.mk (Kd.R_lower ho21 (below_size (by repeat (first | (with_reducible first | exact HB.out | apply below_alloc | apply pw_below_drewN | apply below_drew1) | exact HB.out)))); have n1_ := Aside0.mk (below_step (by repeat (first | (with_reducible first | exact HB.out | apply below_alloc | apply pw_below_drewN | apply below_drew1) | exact HB.out)) hb); clear HB; have HO107 := n0_; have HB := n1_; clear n0_ n1_; clear hb ho21) | ((with_reducible refine gate_builtin (b := .append) (xs := #[.tmp 32, .tmp 33]) rfl ?_); (try (refine gate_guard (by rfl) ?_; dsimp only)); at_builtin; refine Kd.R_append_rows k81 (w0 := w) w.heap.size rfl (.tmp 32) (.tmp 33) 40 81 (.agg #[(.int .i64 0), (.int .i64 0), (.int .i64 0)]) 24 rfl Try.underlying40 info81 rfl (by decide) (by omega) v106 y105 l0 _ _ _ (fun _ => True) (fun _ => False) rfl rfl ?aO ?aR (fun _ _ h => h) (fun _ h => h.elim) ?aF ?aB ?aS ?aL ?_; (case aR => repeat (first | exact (Kd.C_below HR0.out HB.out) | (with_reducible refine Kd.C_alloc ?_ _) | (with_reducible refine Kd.C_drewN ?_ _) | (with_reducible refine Kd.C_drew ?_))); (case aB => exact (by repeat (first | (with_reducible first | exact HB.out | apply below_alloc | apply pw_below_drewN | apply below_drew1) | exact HB.out))); (case aF => exact (fun _ _ => trivial)); (case aO => exact (by (with_reducible repeat (first | apply Kd.R_alloc | apply Kd.R_drewN | apply Kd.R_drew)); exact HO107.out)); (case aS => exact (below_size (by repeat (first | (with_reducible first | exact HB.out | apply below_alloc | apply pw_below_drewN | apply below_drew1) | exact HB.out)))); (case aL => have := LMc15.out; omega); intro v109 w22 ho hb hg hat; rw [← Ny108.out] at ho; have n0_ := Aside0.mk (hb); have n1_ := Aside0.mk (ho); clear HB; clear HO107; have HB := n0_; have HO110 := n1_; clear n0_ n1_; clear ho hb hg hat; have p17 : 0 ≤ (a1 : Int) := of_decide_eq_true (by first | (with_reducible assumption) | assumption); have q17 : (a1 : Int) < ((y108.length : Int) : Int) := of_decide_eq_true (by first | (with_reducible assumption) | assumption); obtain ⟨go17, co17, eo17, gb17, gl17, cl17, HG17⟩ := Kd.R_form HO110.out (by omega); (first | cases eo17 | (injection eo17 with ea_ en_ ec_; (first | subst ea_ | (injection ea_ with ea_; subst ea_)); subst ec_; clear en_)); have GB17 := Aside0.mk gb17; have GG17 := Aside0.mk HG17; clear gb17 gl17 HG17; obtain ⟨ce17, hcl17, hM17, hcc17, hfr17⟩ := Kd.R_elem HO110.out z81 (a1 : Int) p17 q17; obtain rfl := k81_openM hM17; have hx17_0 : w22.cell? ⟨go17, (a1 : Int).toNat * 3, none⟩ = some (.int .i64 ((rd_T81 y108 a1).f0)) := hcc17 0 _ rfl; have hx17_1 : w22.cell? ⟨go17, (a1 : Int).toNat * 3 + 1, none⟩ = some (.int .i64 ((rd_T81 y108 a1).f1)) := hcc17 1 _ rfl; have hx17_2 : w22.cell? ⟨go17, (a1 : Int).toNat * 3 + 2, none⟩ = some (.int .i64 ((rd_T81 y108 a1).f2)) := hcc17 2 _ rfl; have hf17_0 : w22.frozen? ⟨go17, (a1 : Int).toNat * 3, none⟩ = false := hfr17 0; have hf17_1 : w22.frozen? ⟨go17, (a1 : Int).toNat * 3 + 1, none⟩ = false := hfr17 1; have hf17_2 : w22.frozen? ⟨go17, (a1 : Int).toNat * 3 + 2, none⟩ = false := hfr17 2; clear hcl17 hcc17 hfr17 hM17; replace p17 := eq_true p17; replace q17 := eq_true q17; have HX23 := Aside0.mk (show Kd.R k81 81 w22 w.heap.size (fun _ => True) (.slice (some ⟨go17, 0, none⟩) y108.length co17) y108 from (by (with_reducible repeat (first | apply Kd.R_alloc | apply Kd.R_drewN | apply Kd.R_drew)); exact HO110.out)); obtain ⟨ce23, hcl23, hM23, hcc23, hfr23⟩ := Kd.R_elem HX23.out z81 (a1 : Int) (of_decide_eq_true (by first | (with_reducible assumption) | assumption)) (by have h_ : (a1 : Int) < ((y108.length : Int) : Int) := of_decide_eq_true (by first | (with_reducible assumption) | assumption); first | exact h_ | (have e_ := (Kd.R_reads' HO110.out).1; omega) | simpa using h_); obtain rfl := k81_openM hM23; have HP23 := Kd.R_seg HX23.out (a1 : Int) (of_decide_eq_true (by first | (with_reducible assumption) | assumption)) (by have h_ : (a1 : Int) < ((y108.length : Int) : Int) := of_decide_eq_true (by first | (with_reducible assumption) | assumption); first | exact h_ | (have e_ := (Kd.R_reads' HO110.out).1; omega) | simpa using h_) (seg := [.int .i64 x5_2]) (j := 1) hcl23 hcc23 (show 2 ≤ 3 from by decide) (x' := (⟨(rd_T81 y108 a1).f0, x5_2, (rd_T81 y108 a1).f2⟩ : S81)) (k81_mkM _ _ _ (⟨(rd_T81 y108 a1).f0, x5_2, (rd_T81 y108 a1).f2⟩ : S81) ) (fun _ hk => hk); have hx23_1 := hcc23 1 _ rfl; (try simp only [show (k81).sz = 3 from rfl, Nat.mul_one, Nat.add_zero] at hx23_1); have hf23_1 := hfr23 1; (try simp only [show (k81).sz = 3 from rfl, Nat.mul_one, Nat.add_zero] at hf23_1); clear hcl23 hcc23 hfr23 hM23) | ((with_reducible refine gate_store (t := 3) (p := 39) rfl ?_); refine store_event (t := 3) (p := 39) (v := ?vo_w24) (w1 := (w22.setCell ⟨go17, (a1 : Int).toNat * 3 + 1, none⟩ (.int .i64 x5_2))) ?hg ?ho ?hn ?hr ?_; (case ho => rfl); (case hg => rfl); (case hn => rfl); (case hr => first | (go_simp; done) | (go_simp; rfl)); intro w24 hw; have hg : w22.grownBy w24 (some go17) := (by rw [hw]; exact HP23.2); have hp_ : Kd.R k81 81 w24 w.heap.size (fun _ => True) (.slice (some ⟨go17, 0, none⟩) y108.length co17) y111 := (by rw [hw, Ny111.out]; exact HP23.1); clear HP23; have n0_ := Aside0.mk (hp_); have n1_ := Aside0.mk ((by rw [hw]; exact below_set (HB.out) GB17.out : Below w.heap.size w w24)); clear HO110; clear HB; have HO110 := n0_; have HB := n1_; clear n0_ n1_; clear hg hw hp_) | ((with_reducible refine gate_callee (f := 75) rfl ?_); refine goesL_ (some 41) rfl rfl Try.func75 (by kernel_rfl) rfl #[.slice (some ⟨go17, 0, none⟩) y111.length co17] rfl (by (try simp only [List.map_toArray, List.map_cons, List.map_nil]); first | done | (rw [show y111.length = y108.length from (Kd.R_reads' HO110.out).1.symm] <;> rfl) | rfl | (simp only [List.length_drop, List.length_take]; rfl)) ?_; (with_reducible refine (spec_l2Edf.calls k2 _ _ y111 true _ ?side1 ?side2 A18.out).mono ?_); (case side1 => repeat (first | exact (Kd.R_reads' HO110.out).2.2 | (with_reducible refine Kd.C_alloc ?_ _) | (with_reducible refine Kd.C_drewN ?_ _) | (with_reducible refine Kd.C_drew ?_))); (case side2 => rw [show y111.length = y108.length from (Kd.R_reads' HO110.out).1.symm]; exact (Kd.R_reads' HO110.out).2.1); rintro e w' ⟨rfl, ⟨nd, rfl⟩⟩; refine ⟨_, rfl, ?_⟩))
                            go_ret
                            exact ⟨by first | rfl | (simp [errW_none, errW_some] <;> rfl) | (simp [*, errW_none, errW_some] <;> rfl), by repeat (first | (with_reducible first | exact HB.out | apply below_alloc | apply pw_below_drewN | apply below_drew1) | exact HB.out)⟩
                          · replace c19 := Bool.eq_false_iff.mpr c19
                            subst c19
                            have H1 : (spec_MinFeasibleDeadline.l0 k2 l0 a1 (wrap64 (x5_2 + 1))) = some r := by rw [if_neg (show ¬ (false = true) by decide)] at H; exact H
                            clear H
                            have H := H1
                            clear H1
                            have H' := Aside0.mk H
                            clear H
                            have p104 : 0 ≤ (a1 : Int) := of_decide_eq_true (by first | (with_reducible assumption) | assumption)
                            have q104 : a1 < (l0.length : Int) := of_decide_eq_true (by first | (with_reducible assumption) | assumption)
                            obtain ⟨ad104, e104, hx104_0, hx104_1, hx104_2⟩ := at_T81 HR0.out a1 p104 q104
                            obtain rfl : ad103 = ad104 := (by injection e104)
                            replace hx104_0 := (HB.out.cell (World.block_lt_of_cell? w _ hx104_0)).trans hx104_0
                            replace hx104_1 := (HB.out.cell (World.block_lt_of_cell? w _ hx104_1)).trans hx104_1
                            replace hx104_2 := (HB.out.cell (World.block_lt_of_cell? w _ hx104_2)).trans hx104_2
                            replace p104 := eq_true p104
                            replace q104 := eq_true q104
                            go_wp2_with (first | ((with_reducible refine gate_dst (N := 32) rfl ?_); (try (refine gate_guard (by rfl) ?_; dsimp only)); refine Kd.R_lit k81 _ 81 ?hg (N := 32) ?hd (xs := ([] : List (S81))) (inner := []) (ok := fun _ => True) (okp := fun _ => True) ?hr ?hp (fun _ hk => hk) trivial (Below.refl _ _) (Nat.le_refl _) (by simp) ?_; (case hd => rfl); (case hg => rfl); (case hr => first | (go_simp; done) | (go_simp; rfl)); (case hp => exact (Reps.none _ _)); intro v106 w25 ho26 hb hg_ hnew_; clear hg_ hnew_; (first | rw [← Ny105.out] at ho26 | (simp only [Int.reduceToNat] at ho26; rw [← Ny105.out] at ho26)); have n0_ := Aside0.mk (Kd.R_lower ho26 (below_size (by repeat (first | (with_reducible first | exact HB.out | apply below_alloc | apply pw_below_drewN | apply below_drew1) | exact HB.out)))); have n1_ := Aside0.mk (below_step (by repeat (first | (with_reducible first | exact HB.out | apply below_alloc | apply pw_below_drewN | apply below_drew1) | exact HB.out)) hb); clear HB; have HO107 := n0_; have HB := n1_; clear n0_ n1_; clear hb ho26) | ((with_reducible refine gate_builtin (b := .append) (xs := #[.tmp 32, .tmp 33]) rfl ?_); (try (refine gate_guard (by rfl) ?_; dsimp only)); at_builtin; refine Kd.R_append_rows k81 (w0 := w) w.heap.size rfl (.tmp 32) (.tmp 33) 40 81 (.agg #[(.int .i64 0), (.int .i64 0), (.int .i64 0)]) 24 rfl Try.underlying40 info81 rfl (by decide) (by omega) v106 y105 l0 _ _ _ (fun _ => True) (fun _ => False) rfl rfl ?aO ?aR (fun _ _ h => h) (fun _ h => h.elim) ?aF ?aB ?aS ?aL ?_; (case aR => repeat (first | exact (Kd.C_below HR0.out HB.out) | (with_reducible refine Kd.C_alloc ?_ _) | (with_reducible refine Kd.C_drewN ?_ _) | (with_reducible refine Kd.C_drew ?_))); (case aB => exact (by repeat (first | (with_reducible first | exact HB.out | apply below_alloc | apply pw_below_drewN | apply below_drew1) | exact HB.out))); (case aF => exact (fun _ _ => trivial)); (case aO => exact (by (with_reducible repeat (first | apply Kd.R_alloc | apply Kd.R_drewN | apply Kd.R_drew)); exact HO107.out)); (case aS => exact (below_size (by repeat (first | (with_reducible first | exact HB.out | apply below_alloc | apply pw_below_drewN | apply below_drew1) | exact HB.out)))); (case aL => have := LMc15.out; omega); intro v109 w27 ho hb hg hat; rw [← Ny108.out] at ho; have n0_ := Aside0.mk (hb); have n1_ := Aside0.mk (ho); clear HB; clear HO107; have HB := n0_; have HO110 := n1_; clear n0_ n1_; clear ho hb hg hat; have p17 : 0 ≤ (a1 : Int) := of_decide_eq_true (by first | (with_reducible assumption) | assumption); have q17 : (a1 : Int) < ((y108.length : Int) : Int) := of_decide_eq_true (by first | (with_reducible assumption) | assumption); obtain ⟨go17, co17, eo17, gb17, gl17, cl17, HG17⟩ := Kd.R_form HO110.out (by omega); (first | cases eo17 | (injection eo17 with ea_ en_ ec_; (first | subst ea_ | (injection ea_ with ea_; subst ea_)); subst ec_; clear en_)); have GB17 := Aside0.mk gb17; have GG17 := Aside0.mk HG17; clear gb17 gl17 HG17; obtain ⟨ce17, hcl17, hM17, hcc17, hfr17⟩ := Kd.R_elem HO110.out z81 (a1 : Int) p17 q17; obtain rfl := k81_openM hM17; have hx17_0 : w27.cell? ⟨go17, (a1 : Int).toNat * 3, none⟩ = some (.int .i64 ((rd_T81 y108 a1).f0)) := hcc17 0 _ rfl; have hx17_1 : w27.cell? ⟨go17, (a1 : Int).toNat * 3 + 1, none⟩ = some (.int .i64 ((rd_T81 y108 a1).f1)) := hcc17 1 _ rfl; have hx17_2 : w27.cell? ⟨go17, (a1 : Int).toNat * 3 + 2, none⟩ = some (.int .i64 ((rd_T81 y108 a1).f2)) := hcc17 2 _ rfl; have hf17_0 : w27.frozen? ⟨go17, (a1 : Int).toNat * 3, none⟩ = false := hfr17 0; have hf17_1 : w27.frozen? ⟨go17, (a1 : Int).toNat * 3 + 1, none⟩ = false := hfr17 1; have hf17_2 : w27.frozen? ⟨go17, (a1 : Int).toNat * 3 + 2, none⟩ = false := hfr17 2; clear hcl17 hcc17 hfr17 hM17; replace p17 := eq_true p17; replace q17 := eq_true q17; have HX28 := Aside0.mk (show Kd.R k81 81 w27 w.heap.size (fun _ => True) (.slice (some ⟨go17, 0, none⟩) y108.length co17) y108 from (by (with_reducible repeat (first | apply Kd.R_alloc | apply Kd.R_drewN | apply Kd.R_drew)); exact HO110.out)); obtain ⟨ce28, hcl28, hM28, hcc28, hfr28⟩ := Kd.R_elem HX28.out z81 (a1 : Int) (of_decide_eq_true (by first | (with_reducible assumption) | assumption)) (by have h_ : (a1 : Int) < ((y108.length : Int) : Int) := of_decide_eq_true (by first | (with_reducible assumption) | assumption); first | exact h_ | (have e_ := (Kd.R_reads' HO110.out).1; omega) | simpa using h_); obtain rfl := k81_openM hM28; have HP28 := Kd.R_seg HX28.out (a1 : Int) (of_decide_eq_true (by first | (with_reducible assumption) | assumption)) (by have h_ : (a1 : Int) < ((y108.length : Int) : Int) := of_decide_eq_true (by first | (with_reducible assumption) | assumption); first | exact h_ | (have e_ := (Kd.R_reads' HO110.out).1; omega) | simpa using h_) (seg := [.int .i64 x5_2]) (j := 1) hcl28 hcc28 (show 2 ≤ 3 from by decide) (x' := (⟨(rd_T81 y108 a1).f0, x5_2, (rd_T81 y108 a1).f2⟩ : S81)) (k81_mkM _ _ _ (⟨(rd_T81 y108 a1).f0, x5_2, (rd_T81 y108 a1).f2⟩ : S81) ) (fun _ hk => hk); have hx28_1 := hcc28 1 _ rfl; (try simp only [show (k81).sz = 3 from rfl, Nat.mul_one, Nat.add_zero] at hx28_1); have hf28_1 := hfr28 1; (try simp only [show (k81).sz = 3 from rfl, Nat.mul_one, Nat.add_zero] at hf28_1); clear hcl28 hcc28 hfr28 hM28) | ((with_reducible refine gate_store (t := 3) (p := 39) rfl ?_); refine store_event (t := 3) (p := 39) (v := ?vo_w29) (w1 := (w27.setCell ⟨go17, (a1 : Int).toNat * 3 + 1, none⟩ (.int .i64 x5_2))) ?hg ?ho ?hn ?hr ?_; (case ho => rfl); (case hg => rfl); (case hn => rfl); (case hr => first | (go_simp; done) | (go_simp; rfl)); intro w29 hw; have hg : w27.grownBy w29 (some go17) := (by rw [hw]; exact HP28.2); have hp_ : Kd.R k81 81 w29 w.heap.size (fun _ => True) (.slice (some ⟨go17, 0, none⟩) y108.length co17) y111 := (by rw [hw, Ny111.out]; exact HP28.1); clear HP28; have n0_ := Aside0.mk (hp_); have n1_ := Aside0.mk ((by rw [hw]; exact below_set (HB.out) GB17.out : Below w.heap.size w w29)); clear HO110; clear HB; have HO110 := n0_; have HB := n1_; clear n0_ n1_; clear hg hw hp_) | ((with_reducible refine gate_callee (f := 75) rfl ?_); refine goesL_ (some 41) rfl rfl Try.func75 (by kernel_rfl) rfl #[.slice (some ⟨go17, 0, none⟩) y111.length co17] rfl (by (try simp only [List.map_toArray, List.map_cons, List.map_nil]); first | done | (rw [show y111.length = y108.length from (Kd.R_reads' HO110.out).1.symm] <;> rfl) | rfl | (simp only [List.length_drop, List.length_take]; rfl)) ?_; (with_reducible refine (spec_l2Edf.calls k2 _ _ y111 false _ ?side1 ?side2 A18.out).mono ?_); (case side1 => repeat (first | exact (Kd.R_reads' HO110.out).2.2 | (with_reducible refine Kd.C_alloc ?_ _) | (with_reducible refine Kd.C_drewN ?_ _) | (with_reducible refine Kd.C_drew ?_))); (case side2 => rw [show y111.length = y108.length from (Kd.R_reads' HO110.out).1.symm]; exact (Kd.R_reads' HO110.out).2.1); rintro e w' ⟨rfl, ⟨nd, rfl⟩⟩; refine ⟨_, rfl, ?_⟩))
                            go_roundg k2
                            case measure => have := HJ2.out; have := HK2.out; omega
                            case rel => exact ⟨(wrap64 (x5_2 + 1)), (by first | rfl | (simp; done) | (simp [*]; done) | (simp only [i64_w, i32_w]; done) | (simp [*, i64_w, i32_w]; done)), H', ⟨by have := HJ2.out; have := HK2.out; omega⟩, ⟨by repeat (first | (with_reducible first | exact HB.out | apply below_alloc | apply pw_below_drewN | apply below_drew1) | exact HB.out)⟩⟩
                        · rw [if_neg c16] at H
                          exact absurd H (by simp)
                      · rw [if_neg c15] at H
                        exact absurd H (by simp)
                    · rw [if_neg c14] at H
                      have c14b0 : decide (x5_2 ≤ ((rd_T81 l0 a1).f2)) = false := decide_eq_false c14
                      clear c14
                      obtain rfl := Option.some.inj H
                      have p104 : 0 ≤ (a1 : Int) := of_decide_eq_true (by first | (with_reducible assumption) | assumption)
                      have q104 : a1 < (l0.length : Int) := of_decide_eq_true (by first | (with_reducible assumption) | assumption)
                      obtain ⟨ad104, e104, hx104_0, hx104_1, hx104_2⟩ := at_T81 HR0.out a1 p104 q104
                      obtain rfl : ad103 = ad104 := (by injection e104)
                      replace hx104_0 := (HB.out.cell (World.block_lt_of_cell? w _ hx104_0)).trans hx104_0
                      replace hx104_1 := (HB.out.cell (World.block_lt_of_cell? w _ hx104_1)).trans hx104_1
                      replace hx104_2 := (HB.out.cell (World.block_lt_of_cell? w _ hx104_2)).trans hx104_2
                      replace p104 := eq_true p104
                      replace q104 := eq_true q104
                      go_wp2
                      go_ret
                      exact ⟨by first | rfl | (simp [errW_none, errW_some] <;> rfl) | (simp [*, errW_none, errW_some] <;> rfl), by repeat (first | (with_reducible first | exact HB.out | apply below_alloc | apply pw_below_drewN | apply below_drew1) | exact HB.out)⟩
                  · rw [if_neg c13] at H
                    exact absurd H (by simp)
                · rw [if_neg c12] at H
                  exact absurd H (by simp)
          · rw [if_neg c11] at H
            exact absurd H (by simp)
        · rw [if_neg c10] at H
          exact absurd H (by simp)

/-! ### impl_MinFeasibleDeadline: function 40 -/
def impl_MinFeasibleDeadline.l0 : Nat → List (S81) → Int → Int → Int → Int → Option (Int)
  | 0, _, _, _, _, _ => none
  | k + 1, x0, x1, x104000, x104001, x104002 => if x104001 ≤ x104002 then ((impl_changed.f x0 x1 x104000 x104001 x104002).bind fun t104 => ((impl_feasible.f k t104).bind fun t107 => (if t107 = true then (some x104001) else (impl_MinFeasibleDeadline.l0 k x0 x1 x104000 (wrap64 (x104001 + 1)) x104002)))) else (some 0)
def impl_MinFeasibleDeadline.f (k : Nat) (l0 : List (S81)) (a1 : Int) : Option (Int) := (impl_isTask.f l0 a1).bind fun t101 => (if t101 = true then (if 0 ≤ a1 then (if a1 < (l0.length : Int) then (impl_MinFeasibleDeadline.l0 k l0 a1 ((rd_T81 l0 a1).f0) ((rd_T81 l0 a1).f0) ((rd_T81 l0 a1).f2)) else (none)) else (none)) else (some (-1)))
theorem impl_MinFeasibleDeadline.mono_l : ∀ k, (∀ y0 y1 y2 y3 y4, LeO (impl_MinFeasibleDeadline.l0 k y0 y1 y2 y3 y4) (impl_MinFeasibleDeadline.l0 (k + 1) y0 y1 y2 y3 y4))
  | 0 => fun _ _ _ _ _ r h => by simp [impl_MinFeasibleDeadline.l0] at h
  | k + 1 => by
    have ih0 := impl_MinFeasibleDeadline.mono_l k
    · intro y0 y1 y2 y3 y4
      unfold impl_MinFeasibleDeadline.l0
      repeat' first
      | (with_reducible exact ih0 _ _ _ _ _)
      | (with_reducible exact impl_feasible.mono _ _)
      | (with_reducible exact LeO.refl _)
      | (with_reducible exact LeO.none _)
      | (with_reducible refine LeO.ite ?_ ?_)
      | (with_reducible refine LeO.bind ?_ (fun _ => ?_))
      | exact ih0 _ _ _ _ _
      | exact impl_feasible.mono _ _
      | exact LeO.none _
      | refine LeO.ite ?_ ?_
      | refine LeO.bind ?_ (fun _ => ?_)
theorem impl_MinFeasibleDeadline.mono : ∀ a0 a1 k, LeO (impl_MinFeasibleDeadline.f k a0 a1) (impl_MinFeasibleDeadline.f (k + 1) a0 a1) := by
  intro a0 a1 k
  have ih0 := impl_MinFeasibleDeadline.mono_l k
  unfold impl_MinFeasibleDeadline.f
  repeat' first
      | (with_reducible exact ih0 _ _ _ _ _)
      | (with_reducible exact impl_feasible.mono _ _)
      | (with_reducible exact LeO.refl _)
      | (with_reducible exact LeO.none _)
      | (with_reducible refine LeO.ite ?_ ?_)
      | (with_reducible refine LeO.bind ?_ (fun _ => ?_))
      | exact ih0 _ _ _ _ _
      | exact impl_feasible.mono _ _
      | exact LeO.none _
      | refine LeO.ite ?_ ?_
      | refine LeO.bind ?_ (fun _ => ?_)
set_option maxHeartbeats 8000000 in
set_option maxRecDepth 100000 in
theorem impl_MinFeasibleDeadline.calls (k : Nat) (A0 : Option Addr) (c0 : Nat) (l0 : List (S81)) (a1 : Int) (r : Int) (w : World) (hr0 : Kd.C k81 w A0 l0.length l0) (hc0 : l0.length ≤ c0) (h : impl_MinFeasibleDeadline.f k l0 a1 = some r) :
    Calls Try.prog 40 #[.slice A0 l0.length c0, .int .i64 a1] w fun e w' => e = .returned (.int .i64 r) ∧ Below w.heap.size w w' := by
  have hu81 := Try.underlying81
  have HR0 := Aside0.mk hr0
  have HC0 := Aside0.mk hc0
  clear hr0 hc0
  have HB := Aside0.mk (Below.refl w.heap.size w)
  have H : ((impl_isTask.f l0 a1).bind fun t101 => (if t101 = true then (if 0 ≤ a1 then (if a1 < (l0.length : Int) then (impl_MinFeasibleDeadline.l0 k l0 a1 ((rd_T81 l0 a1).f0) ((rd_T81 l0 a1).f0) ((rd_T81 l0 a1).f2)) else (none)) else (none)) else (some (-1)))) = some r := h
  clear h
  replace H := Option.bind_eq_some_iff.mp H
  obtain ⟨t101, A30, H⟩ := H
  replace H : (if t101 = true then (if 0 ≤ a1 then (if a1 < (l0.length : Int) then (impl_MinFeasibleDeadline.l0 k l0 a1 ((rd_T81 l0 a1).f0) ((rd_T81 l0 a1).f0) ((rd_T81 l0 a1).f2)) else (none)) else (none)) else (some (-1))) = some r := H
  have A3 := Aside0.mk A30
  clear A30
  by_cases c4 : t101 = true
  · subst c4
    have H1 : (if 0 ≤ a1 then (if a1 < (l0.length : Int) then (impl_MinFeasibleDeadline.l0 k l0 a1 ((rd_T81 l0 a1).f0) ((rd_T81 l0 a1).f0) ((rd_T81 l0 a1).f2)) else (none)) else (none)) = some r := by rw [if_pos rfl] at H; exact H
    clear H
    have H := H1
    clear H1
    by_cases c5 : 0 ≤ a1
    · rw [if_pos c5] at H
      have c5b0 : decide (0 ≤ a1) = true := decide_eq_true c5
      clear c5
      by_cases c6 : a1 < (l0.length : Int)
      · rw [if_pos c6] at H
        have c6b0 : decide (a1 < (l0.length : Int)) = true := decide_eq_true c6
        clear c6
        have H' := Aside0.mk H
        clear H
        go_enter Try.func40, Try.ntmps40
        go_wp2_with (first | ((with_reducible refine gate_callee (f := 76) rfl ?_); refine goesL_ (some 8) rfl rfl Try.func76 (by kernel_rfl) rfl #[.slice A0 l0.length c0, .int .i64 a1] rfl (by (try simp only [List.map_toArray, List.map_cons, List.map_nil]); first | done | rfl | (simp only [List.length_drop, List.length_take]; rfl)) ?_; (with_reducible refine (impl_isTask.calls _ _ l0 a1 true _ ?side1 ?side2 A3.out).mono ?_); (case side1 => repeat (first | exact HR0.out | (with_reducible refine Kd.C_alloc ?_ _) | (with_reducible refine Kd.C_drewN ?_ _) | (with_reducible refine Kd.C_drew ?_))); (case side2 => exact HC0.out); rintro e w7 ⟨rfl, hb⟩; refine ⟨_, rfl, ?_⟩; have n0_ := Aside0.mk (below_step (by repeat (first | (with_reducible first | exact HB.out | apply below_alloc | apply pw_below_drewN | apply below_drew1) | exact HB.out)) hb); clear HB; have HB := n0_; clear n0_; (try clear hb); (try clear hb2); (try clear hk); (try clear hi); have p102 : 0 ≤ (a1 : Int) := of_decide_eq_true (by first | (with_reducible assumption) | assumption); have q102 : a1 < (l0.length : Int) := of_decide_eq_true (by first | (with_reducible assumption) | assumption); obtain ⟨ad102, e102, hx102_0, hx102_1, hx102_2⟩ := at_T81 HR0.out a1 p102 q102; cases e102; replace hx102_0 := (HB.out.cell (World.block_lt_of_cell? w _ hx102_0)).trans hx102_0; replace hx102_1 := (HB.out.cell (World.block_lt_of_cell? w _ hx102_1)).trans hx102_1; replace hx102_2 := (HB.out.cell (World.block_lt_of_cell? w _ hx102_2)).trans hx102_2; replace p102 := eq_true p102; replace q102 := eq_true q102) | ((with_reducible refine gate_dst (N := 5) rfl ?_); refine box_event ?hg (N := 5) ?hd (cs := #[.int .i64 0, .int .i64 0, .int .i64 0]) (t := 81) ?hr ?_; (case hd => rfl); (case hg => rfl); (case hr => first | (go_simp; done) | (go_simp; rfl)); intro gb103 hg w8 hbox hb; have n0_ := Aside0.mk (below_step (by repeat (first | (with_reducible first | exact HB.out | apply below_alloc | apply pw_below_drewN | apply below_drew1) | exact HB.out)) hb); have n1_ := Aside0.mk (hbox); have n2_ := Aside0.mk ((by rw [hg]; exact (below_size (by repeat (first | (with_reducible first | exact HB.out | apply below_alloc | apply pw_below_drewN | apply below_drew1) | exact HB.out))) : w.heap.size ≤ gb103)); have n3_ := Aside0.mk ((by rw [hg]; exact (below_size (by repeat (first | (with_reducible first | exact HB.out | apply below_alloc | apply pw_below_drewN | apply below_drew1) | exact HB.out))) : w.heap.size ≤ gb103)); clear HB; have HB := n0_; have BK103 := n1_; have GW103 := n2_; have GE103 := n3_; clear n0_ n1_ n2_ n3_; clear hb hbox hg; have hcz9_0 : w8.cell? ⟨gb103, 0, none⟩ = some (.int .i64 0) := (blk_cell BK103.out 0).trans rfl; have hcz9_1 : w8.cell? ⟨gb103, 1, none⟩ = some (.int .i64 0) := (blk_cell BK103.out 1).trans rfl; have hcz9_2 : w8.cell? ⟨gb103, 2, none⟩ = some (.int .i64 0) := (blk_cell BK103.out 2).trans rfl; have hfz9_0 := blk_frozen BK103.out 0; have hfz9_1 := blk_frozen BK103.out 1; have hfz9_2 := blk_frozen BK103.out 2))
        go_loopg [] k (fun kq w' => ∃ (x104001_1 : Int), Aside0 (impl_MinFeasibleDeadline.l0 kq l0 a1 ((rd_T81 l0 a1).f0) x104001_1 ((rd_T81 l0 a1).f2) = some r) ∧ Aside0 (kq ≤ k) ∧ Aside0 (w'.heap[gb103]? = some (.cells #[.int .i64 ((rd_T81 l0 a1).f0), .int .i64 x104001_1, .int .i64 ((rd_T81 l0 a1).f2)] 81 (0, 0))) ∧ Aside0 (Below w.heap.size w w'))
        case atStart => exact ⟨((rd_T81 l0 a1).f0), H', ⟨Nat.le_refl _⟩, ⟨by (with_reducible repeat (first | refine blk_drewN ?_ _ | refine blk_drew ?_ | refine blk_alloc ?_ _)); refine blk_put (cs := #[.int .i64 ((rd_T81 l0 a1).f0), .int .i64 ((rd_T81 l0 a1).f1), .int .i64 ((rd_T81 l0 a1).f2)]) ?_ 1 _ rfl; (with_reducible repeat (first | refine blk_drewN ?_ _ | refine blk_drew ?_ | refine blk_alloc ?_ _)); refine blk_put (cs := #[.int .i64 ((rd_T81 l0 a1).f0), .int .i64 ((rd_T81 l0 a1).f1), .int .i64 0]) ?_ 2 _ rfl; (with_reducible repeat (first | refine blk_drewN ?_ _ | refine blk_drew ?_ | refine blk_alloc ?_ _)); refine blk_put (cs := #[.int .i64 ((rd_T81 l0 a1).f0), .int .i64 0, .int .i64 0]) ?_ 1 _ rfl; (with_reducible repeat (first | refine blk_drewN ?_ _ | refine blk_drew ?_ | refine blk_alloc ?_ _)); refine blk_put (cs := #[.int .i64 0, .int .i64 0, .int .i64 0]) ?_ 0 _ rfl; (with_reducible repeat (first | refine blk_drewN ?_ _ | refine blk_drew ?_ | refine blk_alloc ?_ _)); exact BK103.out⟩, ⟨by repeat (first | (with_reducible first | exact HB.out | apply below_alloc | apply pw_below_drewN | apply below_drew1 | refine below_set ?_ GE103.out) | exact HB.out)⟩⟩
        case round =>
          clear H'
          try clear p1
          try clear q1
          try clear hx1
          try clear p2
          try clear c4
          try clear c5
          try clear c5b0
          try clear c6
          try clear c6b0
          try clear c7
          try clear hcz9_0
          try clear hcz9_1
          try clear hcz9_2
          try clear hfz9_0
          try clear hfz9_1
          try clear hfz9_2
          try clear hx102_0
          try clear hx102_1
          try clear hx102_2
          try clear p102
          try clear q102
          obtain ⟨x104001_1, HA, HK1, BK103, HB⟩ := hrel
          cases gk with
          | zero => exact absurd HA.out (by simp [impl_MinFeasibleDeadline.l0])
          | succ k1 =>
            have H := HA.out
            clear HA
            simp only [impl_MinFeasibleDeadline.l0] at H
            by_cases c10 : x104001_1 ≤ ((rd_T81 l0 a1).f2)
            · rw [if_pos c10] at H
              have c10b0 : decide (x104001_1 ≤ ((rd_T81 l0 a1).f2)) = true := decide_eq_true c10
              clear c10
              replace H := Option.bind_eq_some_iff.mp H
              obtain ⟨t104, A110, H⟩ := H
              replace H : ((impl_feasible.f k1 t104).bind fun t107 => (if t107 = true then (some x104001_1) else (impl_MinFeasibleDeadline.l0 k1 l0 a1 ((rd_T81 l0 a1).f0) (wrap64 (x104001_1 + 1)) ((rd_T81 l0 a1).f2)))) = some r := H
              have A11 := Aside0.mk A110
              clear A110
              replace H := Option.bind_eq_some_iff.mp H
              obtain ⟨t107, A120, H⟩ := H
              replace H : (if t107 = true then (some x104001_1) else (impl_MinFeasibleDeadline.l0 k1 l0 a1 ((rd_T81 l0 a1).f0) (wrap64 (x104001_1 + 1)) ((rd_T81 l0 a1).f2))) = some r := H
              have A12 := Aside0.mk A120
              clear A120
              by_cases c13 : t107 = true
              · subst c13
                have H1 : (some x104001_1) = some r := by rw [if_pos rfl] at H; exact H
                clear H
                have H := H1
                clear H1
                obtain rfl := Option.some.inj H
                have hcz14_0 : wr.cell? ⟨gb103, 0, none⟩ = some (.int .i64 ((rd_T81 l0 a1).f0)) := (blk_cell BK103.out 0).trans rfl
                have hcz14_1 : wr.cell? ⟨gb103, 1, none⟩ = some (.int .i64 x104001_1) := (blk_cell BK103.out 1).trans rfl
                have hcz14_2 : wr.cell? ⟨gb103, 2, none⟩ = some (.int .i64 ((rd_T81 l0 a1).f2)) := (blk_cell BK103.out 2).trans rfl
                have hfz14_0 := blk_frozen BK103.out 0
                have hfz14_1 := blk_frozen BK103.out 1
                have hfz14_2 := blk_frozen BK103.out 2
                go_wp2_with (first | ((with_reducible refine gate_callee (f := 78) rfl ?_); refine goesL_ (some 29) rfl rfl Try.func78 (by kernel_rfl) rfl #[.slice (some ad102) l0.length c0, .int .i64 a1, .agg #[.int .i64 ((rd_T81 l0 a1).f0), .int .i64 x104001_1, .int .i64 ((rd_T81 l0 a1).f2)]] rfl (by (try simp only [List.map_toArray, List.map_cons, List.map_nil]); first | done | rfl | (simp only [List.length_drop, List.length_take]; rfl)) ?_; (with_reducible refine (impl_changed.calls _ _ l0 a1 ((rd_T81 l0 a1).f0) x104001_1 ((rd_T81 l0 a1).f2) t104 _ ?side1 ?side2 A11.out).mono ?_); (case side1 => repeat (first | exact (Kd.C_below HR0.out HB.out) | (with_reducible refine Kd.C_alloc ?_ _) | (with_reducible refine Kd.C_drewN ?_ _) | (with_reducible refine Kd.C_drew ?_))); (case side2 => exact HC0.out); rintro e w15 ⟨v105, rfl, ho0, hb⟩; refine ⟨_, rfl, ?_⟩; have n0_ := Aside0.mk (Kd.V_lower (Kd.V_mono (ok' := fun k_ => k_ ≠ gb103) ho0 (fun k_ hk_ => (Kd.freshB (g := gb103) (o := .cells #[.int .i64 ((rd_T81 l0 a1).f0), .int .i64 x104001_1, .int .i64 ((rd_T81 l0 a1).f2)] 81 (0, 0)) (by (with_reducible repeat (first | refine blk_drewN ?_ _ | refine blk_drew ?_ | refine blk_alloc ?_ _)); exact BK103.out) k_ hk_))) (below_size (by repeat (first | (with_reducible first | exact HB.out | apply below_alloc | apply pw_below_drewN | apply below_drew1 | refine below_set ?_ GE103.out) | exact HB.out)))); have n1_ := Aside0.mk (blk_below (g := gb103) (o := .cells #[.int .i64 ((rd_T81 l0 a1).f0), .int .i64 x104001_1, .int .i64 ((rd_T81 l0 a1).f2)] 81 (0, 0)) (by (with_reducible repeat (first | refine blk_drewN ?_ _ | refine blk_drew ?_ | refine blk_alloc ?_ _)); exact BK103.out) hb); have n2_ := Aside0.mk (below_step (by repeat (first | (with_reducible first | exact HB.out | apply below_alloc | apply pw_below_drewN | apply below_drew1 | refine below_set ?_ GE103.out) | exact HB.out)) hb); clear BK103; clear HB; have HO106 := n0_; have BK103 := n1_; have HB := n2_; clear n0_ n1_ n2_; (try clear hb); (try clear hb2); (try clear hk); (try clear hi); (try clear ho0); obtain ⟨Ao16, co16, eo16⟩ := Kd.V_slice HO106.out; subst eo16) | ((with_reducible refine gate_callee (f := 77) rfl ?_); refine goesL_ (some 30) rfl rfl Try.func77 (by kernel_rfl) rfl #[.slice Ao16 t104.length co16] rfl (by (try simp only [List.map_toArray, List.map_cons, List.map_nil]); first | done | rfl | (simp only [List.length_drop, List.length_take]; rfl)) ?_; (with_reducible refine (impl_feasible.calls k1 _ _ t104 true _ ?side1 ?side2 A12.out).mono ?_); (case side1 => repeat (first | exact (Kd.V_reads' HO106.out).2.2 | (with_reducible refine Kd.C_alloc ?_ _) | (with_reducible refine Kd.C_drewN ?_ _) | (with_reducible refine Kd.C_drew ?_))); (case side2 => exact (Kd.V_reads' HO106.out).2.1); rintro e w17 ⟨rfl, hb⟩; refine ⟨_, rfl, ?_⟩; have n0_ := Aside0.mk (Kd.V_below (by (with_reducible repeat (first | apply Kd.V_alloc | apply Kd.V_drewN | apply Kd.V_drew)); exact HO106.out) hb); have n1_ := Aside0.mk (blk_below (g := gb103) (o := .cells #[.int .i64 ((rd_T81 l0 a1).f0), .int .i64 x104001_1, .int .i64 ((rd_T81 l0 a1).f2)] 81 (0, 0)) (by (with_reducible repeat (first | refine blk_drewN ?_ _ | refine blk_drew ?_ | refine blk_alloc ?_ _)); exact BK103.out) hb); have n2_ := Aside0.mk (below_step (by repeat (first | (with_reducible first | exact HB.out | apply below_alloc | apply pw_below_drewN | apply below_drew1 | refine below_set ?_ GE103.out) | exact HB.out)) hb); clear HO106; clear BK103; clear HB; have HO106 := n0_; have BK103 := n1_; have HB := n2_; clear n0_ n1_ n2_; (try clear hb); (try clear hb2); (try clear hk); (try clear hi); have hcz18_0 : w17.cell? ⟨gb103, 0, none⟩ = some (.int .i64 ((rd_T81 l0 a1).f0)) := (blk_cell BK103.out 0).trans rfl; have hcz18_1 : w17.cell? ⟨gb103, 1, none⟩ = some (.int .i64 x104001_1) := (blk_cell BK103.out 1).trans rfl; have hcz18_2 : w17.cell? ⟨gb103, 2, none⟩ = some (.int .i64 ((rd_T81 l0 a1).f2)) := (blk_cell BK103.out 2).trans rfl; have hfz18_0 := blk_frozen BK103.out 0; have hfz18_1 := blk_frozen BK103.out 1; have hfz18_2 := blk_frozen BK103.out 2))
                go_ret
                exact ⟨by first | rfl | (simp [errW_none, errW_some] <;> rfl) | (simp [*, errW_none, errW_some] <;> rfl), by repeat (first | (with_reducible first | exact HB.out | apply below_alloc | apply pw_below_drewN | apply below_drew1 | refine below_set ?_ GE103.out) | exact HB.out)⟩
              · replace c13 := Bool.eq_false_iff.mpr c13
                subst c13
                have H1 : (impl_MinFeasibleDeadline.l0 k1 l0 a1 ((rd_T81 l0 a1).f0) (wrap64 (x104001_1 + 1)) ((rd_T81 l0 a1).f2)) = some r := by rw [if_neg (show ¬ (false = true) by decide)] at H; exact H
                clear H
                have H := H1
                clear H1
                have H' := Aside0.mk H
                clear H
                have hcz19_0 : wr.cell? ⟨gb103, 0, none⟩ = some (.int .i64 ((rd_T81 l0 a1).f0)) := (blk_cell BK103.out 0).trans rfl
                have hcz19_1 : wr.cell? ⟨gb103, 1, none⟩ = some (.int .i64 x104001_1) := (blk_cell BK103.out 1).trans rfl
                have hcz19_2 : wr.cell? ⟨gb103, 2, none⟩ = some (.int .i64 ((rd_T81 l0 a1).f2)) := (blk_cell BK103.out 2).trans rfl
                have hfz19_0 := blk_frozen BK103.out 0
                have hfz19_1 := blk_frozen BK103.out 1
                have hfz19_2 := blk_frozen BK103.out 2
                go_wp2_with (first | ((with_reducible refine gate_callee (f := 78) rfl ?_); refine goesL_ (some 29) rfl rfl Try.func78 (by kernel_rfl) rfl #[.slice (some ad102) l0.length c0, .int .i64 a1, .agg #[.int .i64 ((rd_T81 l0 a1).f0), .int .i64 x104001_1, .int .i64 ((rd_T81 l0 a1).f2)]] rfl (by (try simp only [List.map_toArray, List.map_cons, List.map_nil]); first | done | rfl | (simp only [List.length_drop, List.length_take]; rfl)) ?_; (with_reducible refine (impl_changed.calls _ _ l0 a1 ((rd_T81 l0 a1).f0) x104001_1 ((rd_T81 l0 a1).f2) t104 _ ?side1 ?side2 A11.out).mono ?_); (case side1 => repeat (first | exact (Kd.C_below HR0.out HB.out) | (with_reducible refine Kd.C_alloc ?_ _) | (with_reducible refine Kd.C_drewN ?_ _) | (with_reducible refine Kd.C_drew ?_))); (case side2 => exact HC0.out); rintro e w20 ⟨v105, rfl, ho0, hb⟩; refine ⟨_, rfl, ?_⟩; have n0_ := Aside0.mk (Kd.V_lower (Kd.V_mono (ok' := fun k_ => k_ ≠ gb103) ho0 (fun k_ hk_ => (Kd.freshB (g := gb103) (o := .cells #[.int .i64 ((rd_T81 l0 a1).f0), .int .i64 x104001_1, .int .i64 ((rd_T81 l0 a1).f2)] 81 (0, 0)) (by (with_reducible repeat (first | refine blk_drewN ?_ _ | refine blk_drew ?_ | refine blk_alloc ?_ _)); exact BK103.out) k_ hk_))) (below_size (by repeat (first | (with_reducible first | exact HB.out | apply below_alloc | apply pw_below_drewN | apply below_drew1 | refine below_set ?_ GE103.out) | exact HB.out)))); have n1_ := Aside0.mk (blk_below (g := gb103) (o := .cells #[.int .i64 ((rd_T81 l0 a1).f0), .int .i64 x104001_1, .int .i64 ((rd_T81 l0 a1).f2)] 81 (0, 0)) (by (with_reducible repeat (first | refine blk_drewN ?_ _ | refine blk_drew ?_ | refine blk_alloc ?_ _)); exact BK103.out) hb); have n2_ := Aside0.mk (below_step (by repeat (first | (with_reducible first | exact HB.out | apply below_alloc | apply pw_below_drewN | apply below_drew1 | refine below_set ?_ GE103.out) | exact HB.out)) hb); clear BK103; clear HB; have HO106 := n0_; have BK103 := n1_; have HB := n2_; clear n0_ n1_ n2_; (try clear hb); (try clear hb2); (try clear hk); (try clear hi); (try clear ho0); obtain ⟨Ao21, co21, eo21⟩ := Kd.V_slice HO106.out; subst eo21) | ((with_reducible refine gate_callee (f := 77) rfl ?_); refine goesL_ (some 30) rfl rfl Try.func77 (by kernel_rfl) rfl #[.slice Ao21 t104.length co21] rfl (by (try simp only [List.map_toArray, List.map_cons, List.map_nil]); first | done | rfl | (simp only [List.length_drop, List.length_take]; rfl)) ?_; (with_reducible refine (impl_feasible.calls k1 _ _ t104 false _ ?side1 ?side2 A12.out).mono ?_); (case side1 => repeat (first | exact (Kd.V_reads' HO106.out).2.2 | (with_reducible refine Kd.C_alloc ?_ _) | (with_reducible refine Kd.C_drewN ?_ _) | (with_reducible refine Kd.C_drew ?_))); (case side2 => exact (Kd.V_reads' HO106.out).2.1); rintro e w22 ⟨rfl, hb⟩; refine ⟨_, rfl, ?_⟩; have n0_ := Aside0.mk (Kd.V_below (by (with_reducible repeat (first | apply Kd.V_alloc | apply Kd.V_drewN | apply Kd.V_drew)); exact HO106.out) hb); have n1_ := Aside0.mk (blk_below (g := gb103) (o := .cells #[.int .i64 ((rd_T81 l0 a1).f0), .int .i64 x104001_1, .int .i64 ((rd_T81 l0 a1).f2)] 81 (0, 0)) (by (with_reducible repeat (first | refine blk_drewN ?_ _ | refine blk_drew ?_ | refine blk_alloc ?_ _)); exact BK103.out) hb); have n2_ := Aside0.mk (below_step (by repeat (first | (with_reducible first | exact HB.out | apply below_alloc | apply pw_below_drewN | apply below_drew1 | refine below_set ?_ GE103.out) | exact HB.out)) hb); clear HO106; clear BK103; clear HB; have HO106 := n0_; have BK103 := n1_; have HB := n2_; clear n0_ n1_ n2_; (try clear hb); (try clear hb2); (try clear hk); (try clear hi); have hcz23_0 : w22.cell? ⟨gb103, 0, none⟩ = some (.int .i64 ((rd_T81 l0 a1).f0)) := (blk_cell BK103.out 0).trans rfl; have hcz23_1 : w22.cell? ⟨gb103, 1, none⟩ = some (.int .i64 x104001_1) := (blk_cell BK103.out 1).trans rfl; have hcz23_2 : w22.cell? ⟨gb103, 2, none⟩ = some (.int .i64 ((rd_T81 l0 a1).f2)) := (blk_cell BK103.out 2).trans rfl; have hfz23_0 := blk_frozen BK103.out 0; have hfz23_1 := blk_frozen BK103.out 1; have hfz23_2 := blk_frozen BK103.out 2))
                go_roundg k1
                case measure => have := HK1.out; omega
                case rel => exact ⟨(wrap64 (x104001_1 + 1)), H', ⟨by have := HK1.out; omega⟩, ⟨by (with_reducible repeat (first | refine blk_drewN ?_ _ | refine blk_drew ?_ | refine blk_alloc ?_ _)); refine blk_put (cs := #[.int .i64 ((rd_T81 l0 a1).f0), .int .i64 x104001_1, .int .i64 ((rd_T81 l0 a1).f2)]) ?_ 1 _ rfl; (with_reducible repeat (first | refine blk_drewN ?_ _ | refine blk_drew ?_ | refine blk_alloc ?_ _)); exact BK103.out⟩, ⟨by repeat (first | (with_reducible first | exact HB.out | apply below_alloc | apply pw_below_drewN | apply below_drew1 | refine below_set ?_ GE103.out) | exact HB.out)⟩⟩
            · rw [if_neg c10] at H
              have c10b0 : decide (x104001_1 ≤ ((rd_T81 l0 a1).f2)) = false := decide_eq_false c10
              clear c10
              obtain rfl := Option.some.inj H
              have hcz24_0 : wr.cell? ⟨gb103, 0, none⟩ = some (.int .i64 ((rd_T81 l0 a1).f0)) := (blk_cell BK103.out 0).trans rfl
              have hcz24_1 : wr.cell? ⟨gb103, 1, none⟩ = some (.int .i64 x104001_1) := (blk_cell BK103.out 1).trans rfl
              have hcz24_2 : wr.cell? ⟨gb103, 2, none⟩ = some (.int .i64 ((rd_T81 l0 a1).f2)) := (blk_cell BK103.out 2).trans rfl
              have hfz24_0 := blk_frozen BK103.out 0
              have hfz24_1 := blk_frozen BK103.out 1
              have hfz24_2 := blk_frozen BK103.out 2
              go_wp2
              go_ret
              exact ⟨by first | rfl | (simp [errW_none, errW_some] <;> rfl) | (simp [*, errW_none, errW_some] <;> rfl), by repeat (first | (with_reducible first | exact HB.out | apply below_alloc | apply pw_below_drewN | apply below_drew1 | refine below_set ?_ GE103.out) | exact HB.out)⟩
      · rw [if_neg c6] at H
        exact absurd H (by simp)
    · rw [if_neg c5] at H
      exact absurd H (by simp)
  · replace c4 := Bool.eq_false_iff.mpr c4
    subst c4
    have H1 : (some (-1)) = some r := by rw [if_neg (show ¬ (false = true) by decide)] at H; exact H
    clear H
    have H := H1
    clear H1
    obtain rfl := Option.some.inj H
    go_enter Try.func40, Try.ntmps40
    go_wp2_with (first | ((with_reducible refine gate_callee (f := 76) rfl ?_); refine goesL_ (some 8) rfl rfl Try.func76 (by kernel_rfl) rfl #[.slice A0 l0.length c0, .int .i64 a1] rfl (by (try simp only [List.map_toArray, List.map_cons, List.map_nil]); first | done | rfl | (simp only [List.length_drop, List.length_take]; rfl)) ?_; (with_reducible refine (impl_isTask.calls _ _ l0 a1 false _ ?side1 ?side2 A3.out).mono ?_); (case side1 => repeat (first | exact HR0.out | (with_reducible refine Kd.C_alloc ?_ _) | (with_reducible refine Kd.C_drewN ?_ _) | (with_reducible refine Kd.C_drew ?_))); (case side2 => exact HC0.out); rintro e w25 ⟨rfl, hb⟩; refine ⟨_, rfl, ?_⟩; have n0_ := Aside0.mk (below_step (by repeat (first | (with_reducible first | exact HB.out | apply below_alloc | apply pw_below_drewN | apply below_drew1) | exact HB.out)) hb); clear HB; have HB := n0_; clear n0_; (try clear hb); (try clear hb2); (try clear hk); (try clear hi)))
    go_ret
    exact ⟨by first | rfl | (simp [errW_none, errW_some] <;> rfl) | (simp [*, errW_none, errW_some] <;> rfl), by repeat (first | (with_reducible first | exact HB.out | apply below_alloc | apply pw_below_drewN | apply below_drew1) | exact HB.out)⟩

/-! ### laws_FnExactMinFeasibleDeadline: function 8 -/
def laws_FnExactMinFeasibleDeadline.f (k : Nat) (l0 : List (S83)) (a1 : Int) : Option (Bool) := (laws_szTaskS.f l0 1048576).bind fun t101 => (if t101 < 0 then (some true) else ((laws_toTaskS.f k l0).bind fun t102 => ((spec_MinFeasibleDeadline.f k t102 a1).bind fun t105 => ((laws_toTaskS.f k l0).bind fun t106 => ((impl_MinFeasibleDeadline.f k t106 a1).bind fun t109 => (if t109 = t105 then ((laws_toTaskS.f k l0).bind fun t110 => ((laws_eqTaskS.f k t106 t110).bind fun t113 => (if t113 = true then (some true) else (some false)))) else (some false)))))))
theorem laws_FnExactMinFeasibleDeadline.mono : ∀ a0 a1 k, LeO (laws_FnExactMinFeasibleDeadline.f k a0 a1) (laws_FnExactMinFeasibleDeadline.f (k + 1) a0 a1) := by
  intro a0 a1 k
  unfold laws_FnExactMinFeasibleDeadline.f
  repeat' first
      | (with_reducible exact impl_MinFeasibleDeadline.mono _ _ _)
      | (with_reducible exact laws_eqTaskS.mono _ _ _)
      | (with_reducible exact laws_toTaskS.mono _ _)
      | (with_reducible exact spec_MinFeasibleDeadline.mono _ _ _)
      | (with_reducible exact LeO.refl _)
      | (with_reducible exact LeO.none _)
      | (with_reducible refine LeO.ite ?_ ?_)
      | (with_reducible refine LeO.bind ?_ (fun _ => ?_))
      | exact impl_MinFeasibleDeadline.mono _ _ _
      | exact laws_eqTaskS.mono _ _ _
      | exact laws_toTaskS.mono _ _
      | exact spec_MinFeasibleDeadline.mono _ _ _
      | exact LeO.none _
      | refine LeO.ite ?_ ?_
      | refine LeO.bind ?_ (fun _ => ?_)
set_option maxHeartbeats 8000000 in
set_option maxRecDepth 100000 in
theorem laws_FnExactMinFeasibleDeadline.calls (k : Nat) (A0 : Option Addr) (c0 : Nat) (l0 : List (S83)) (a1 : Int) (r : Bool) (w : World) (hr0 : Kd.C k83 w A0 l0.length l0) (hc0 : l0.length ≤ c0) (h : laws_FnExactMinFeasibleDeadline.f k l0 a1 = some r) :
    Calls Try.prog 8 #[.slice A0 l0.length c0, .int .i64 a1] w fun e w' => e = .returned (.bool r) ∧ Below w.heap.size w w' := by
  have HR0 := Aside0.mk hr0
  have HC0 := Aside0.mk hc0
  clear hr0 hc0
  have HB := Aside0.mk (Below.refl w.heap.size w)
  have H : ((laws_szTaskS.f l0 1048576).bind fun t101 => (if t101 < 0 then (some true) else ((laws_toTaskS.f k l0).bind fun t102 => ((spec_MinFeasibleDeadline.f k t102 a1).bind fun t105 => ((laws_toTaskS.f k l0).bind fun t106 => ((impl_MinFeasibleDeadline.f k t106 a1).bind fun t109 => (if t109 = t105 then ((laws_toTaskS.f k l0).bind fun t110 => ((laws_eqTaskS.f k t106 t110).bind fun t113 => (if t113 = true then (some true) else (some false)))) else (some false)))))))) = some r := h
  clear h
  replace H := Option.bind_eq_some_iff.mp H
  obtain ⟨t101, A30, H⟩ := H
  replace H : (if t101 < 0 then (some true) else ((laws_toTaskS.f k l0).bind fun t102 => ((spec_MinFeasibleDeadline.f k t102 a1).bind fun t105 => ((laws_toTaskS.f k l0).bind fun t106 => ((impl_MinFeasibleDeadline.f k t106 a1).bind fun t109 => (if t109 = t105 then ((laws_toTaskS.f k l0).bind fun t110 => ((laws_eqTaskS.f k t106 t110).bind fun t113 => (if t113 = true then (some true) else (some false)))) else (some false))))))) = some r := H
  have A3 := Aside0.mk A30
  clear A30
  by_cases c4 : t101 < 0
  · rw [if_pos c4] at H
    have c4b0 : decide (t101 < 0) = true := decide_eq_true c4
    clear c4
    obtain rfl := Option.some.inj H
    go_enter Try.func8, Try.ntmps8
    go_wp2_with (first | ((with_reducible refine gate_callee (f := 25) rfl ?_); refine goesL_ (some 11) rfl rfl Try.func25 (by kernel_rfl) rfl #[.slice A0 l0.length c0, .int .i64 1048576] rfl (by (try simp only [List.map_toArray, List.map_cons, List.map_nil]); first | done | rfl | (simp only [List.length_drop, List.length_take]; rfl)) ?_; (with_reducible refine (laws_szTaskS.calls _ _ l0 1048576 t101 _ ?side1 ?side2 A3.out).mono ?_); (case side1 => repeat (first | exact HR0.out | (with_reducible refine Kd.C_alloc ?_ _) | (with_reducible refine Kd.C_drewN ?_ _) | (with_reducible refine Kd.C_drew ?_))); (case side2 => exact HC0.out); rintro e w' ⟨rfl, ⟨nd, rfl⟩⟩; refine ⟨_, rfl, ?_⟩))
    go_ret
    exact ⟨by first | rfl | (simp [errW_none, errW_some] <;> rfl) | (simp [*, errW_none, errW_some] <;> rfl), by repeat (first | (with_reducible first | exact HB.out | apply below_alloc | apply pw_below_drewN | apply below_drew1) | exact HB.out)⟩
  · rw [if_neg c4] at H
    have c4b0 : decide (t101 < 0) = false := decide_eq_false c4
    clear c4
    replace H := Option.bind_eq_some_iff.mp H
    obtain ⟨t102, A50, H⟩ := H
    replace H : ((spec_MinFeasibleDeadline.f k t102 a1).bind fun t105 => ((laws_toTaskS.f k l0).bind fun t106 => ((impl_MinFeasibleDeadline.f k t106 a1).bind fun t109 => (if t109 = t105 then ((laws_toTaskS.f k l0).bind fun t110 => ((laws_eqTaskS.f k t106 t110).bind fun t113 => (if t113 = true then (some true) else (some false)))) else (some false))))) = some r := H
    have A5 := Aside0.mk A50
    clear A50
    replace H := Option.bind_eq_some_iff.mp H
    obtain ⟨t105, A60, H⟩ := H
    replace H : ((laws_toTaskS.f k l0).bind fun t106 => ((impl_MinFeasibleDeadline.f k t106 a1).bind fun t109 => (if t109 = t105 then ((laws_toTaskS.f k l0).bind fun t110 => ((laws_eqTaskS.f k t106 t110).bind fun t113 => (if t113 = true then (some true) else (some false)))) else (some false)))) = some r := H
    have A6 := Aside0.mk A60
    clear A60
    replace H := Option.bind_eq_some_iff.mp H
    obtain ⟨t106, A70, H⟩ := H
    replace H : ((impl_MinFeasibleDeadline.f k t106 a1).bind fun t109 => (if t109 = t105 then ((laws_toTaskS.f k l0).bind fun t110 => ((laws_eqTaskS.f k t106 t110).bind fun t113 => (if t113 = true then (some true) else (some false)))) else (some false))) = some r := H
    have A7 := Aside0.mk A70
    clear A70
    replace H := Option.bind_eq_some_iff.mp H
    obtain ⟨t109, A80, H⟩ := H
    replace H : (if t109 = t105 then ((laws_toTaskS.f k l0).bind fun t110 => ((laws_eqTaskS.f k t106 t110).bind fun t113 => (if t113 = true then (some true) else (some false)))) else (some false)) = some r := H
    have A8 := Aside0.mk A80
    clear A80
    by_cases c9 : t109 = t105
    · rw [if_pos c9] at H
      have c9b0 : (t109 == t105) = true := beq_iff_eq.mpr c9
      have c9b1 : (t109 != t105) = false := bne_eq_false_iff_eq.mpr c9
      clear c9
      replace H := Option.bind_eq_some_iff.mp H
      obtain ⟨t110, A100, H⟩ := H
      replace H : ((laws_eqTaskS.f k t106 t110).bind fun t113 => (if t113 = true then (some true) else (some false))) = some r := H
      have A10 := Aside0.mk A100
      clear A100
      replace H := Option.bind_eq_some_iff.mp H
      obtain ⟨t113, A110, H⟩ := H
      replace H : (if t113 = true then (some true) else (some false)) = some r := H
      have A11 := Aside0.mk A110
      clear A110
      by_cases c12 : t113 = true
      · subst c12
        have H1 : (some true) = some r := by rw [if_pos rfl] at H; exact H
        clear H
        have H := H1
        clear H1
        obtain rfl := Option.some.inj H
        go_enter Try.func8, Try.ntmps8
        go_wp2_with (first | ((with_reducible refine gate_callee (f := 25) rfl ?_); refine goesL_ (some 11) rfl rfl Try.func25 (by kernel_rfl) rfl #[.slice A0 l0.length c0, .int .i64 1048576] rfl (by (try simp only [List.map_toArray, List.map_cons, List.map_nil]); first | done | rfl | (simp only [List.length_drop, List.length_take]; rfl)) ?_; (with_reducible refine (laws_szTaskS.calls _ _ l0 1048576 t101 _ ?side1 ?side2 A3.out).mono ?_); (case side1 => repeat (first | exact HR0.out | (with_reducible refine Kd.C_alloc ?_ _) | (with_reducible refine Kd.C_drewN ?_ _) | (with_reducible refine Kd.C_drew ?_))); (case side2 => exact HC0.out); rintro e w' ⟨rfl, ⟨nd, rfl⟩⟩; refine ⟨_, rfl, ?_⟩) | ((with_reducible refine gate_callee (f := 27) rfl ?_); refine goesL_ (some 15) rfl rfl Try.func27 (by kernel_rfl) rfl #[.slice A0 l0.length c0] rfl (by (try simp only [List.map_toArray, List.map_cons, List.map_nil]); first | done | rfl | (simp only [List.length_drop, List.length_take]; rfl)) ?_; (with_reducible refine (laws_toTaskS.calls k _ _ l0 t102 _ ?side1 ?side2 A5.out).mono ?_); (case side1 => repeat (first | exact HR0.out | (with_reducible refine Kd.C_alloc ?_ _) | (with_reducible refine Kd.C_drewN ?_ _) | (with_reducible refine Kd.C_drew ?_))); (case side2 => exact HC0.out); rintro e w13 ⟨v103, rfl, ho0, hb⟩; refine ⟨_, rfl, ?_⟩; have n0_ := Aside0.mk (Kd.R_lower ho0 (below_size (by repeat (first | (with_reducible first | exact HB.out | apply below_alloc | apply pw_below_drewN | apply below_drew1) | exact HB.out)))); have n1_ := Aside0.mk (below_step (by repeat (first | (with_reducible first | exact HB.out | apply below_alloc | apply pw_below_drewN | apply below_drew1) | exact HB.out)) hb); clear HB; have HO104 := n0_; have HB := n1_; clear n0_ n1_; (try clear hb); (try clear hb2); (try clear hk); (try clear hi); (try clear ho0); obtain ⟨Ao14, co14, eo14⟩ := Kd.R_slice HO104.out; subst eo14) | ((with_reducible refine gate_callee (f := 39) rfl ?_); refine goesL_ (some 17) rfl rfl Try.func39 (by kernel_rfl) rfl #[.slice Ao14 t102.length co14, .int .i64 a1] rfl (by (try simp only [List.map_toArray, List.map_cons, List.map_nil]); first | done | rfl | (simp only [List.length_drop, List.length_take]; rfl)) ?_; (with_reducible refine (spec_MinFeasibleDeadline.calls k _ _ t102 a1 t105 _ ?side1 ?side2 A6.out).mono ?_); (case side1 => repeat (first | exact (Kd.R_reads' HO104.out).2.2 | (with_reducible refine Kd.C_alloc ?_ _) | (with_reducible refine Kd.C_drewN ?_ _) | (with_reducible refine Kd.C_drew ?_))); (case side2 => exact (Kd.R_reads' HO104.out).2.1); rintro e w15 ⟨rfl, hb⟩; refine ⟨_, rfl, ?_⟩; have n0_ := Aside0.mk (Kd.R_below (by (with_reducible repeat (first | apply Kd.R_alloc | apply Kd.R_drewN | apply Kd.R_drew)); exact HO104.out) hb); have n1_ := Aside0.mk (below_step (by repeat (first | (with_reducible first | exact HB.out | apply below_alloc | apply pw_below_drewN | apply below_drew1) | exact HB.out)) hb); clear HO104; clear HB; have HO104 := n0_; have HB := n1_; clear n0_ n1_; (try clear hb); (try clear hb2); (try clear hk); (try clear hi)) | ((with_reducible refine gate_callee (f := 27) rfl ?_); refine goesL_ (some 19) rfl rfl Try.func27 (by kernel_rfl) rfl #[.slice A0 l0.length c0] rfl (by (try simp only [List.map_toArray, List.map_cons, List.map_nil]); first | done | rfl | (simp only [List.length_drop, List.length_take]; rfl)) ?_; (with_reducible refine (laws_toTaskS.calls k _ _ l0 t106 _ ?side1 ?side2 A7.out).mono ?_); (case side1 => repeat (first | exact (Kd.C_below HR0.out HB.out) | (with_reducible refine Kd.C_alloc ?_ _) | (with_reducible refine Kd.C_drewN ?_ _) | (with_reducible refine Kd.C_drew ?_))); (case side2 => exact HC0.out); rintro e w16 ⟨v107, rfl, ho0, hb⟩; refine ⟨_, rfl, ?_⟩; have n0_ := Aside0.mk (Kd.R_elder' (by (with_reducible repeat (first | apply Kd.R_alloc | apply Kd.R_drewN | apply Kd.R_drew)); exact HO104.out) (Kd.R_base ho0) hb); have n1_ := Aside0.mk (Kd.R_lower (Kd.R_new' ho0 (Kd.R_lt (by (with_reducible repeat (first | apply Kd.R_alloc | apply Kd.R_drewN | apply Kd.R_drew)); exact HO104.out))) (below_size (by repeat (first | (with_reducible first | exact HB.out | apply below_alloc | apply pw_below_drewN | apply below_drew1) | exact HB.out)))); have n2_ := Aside0.mk (below_step (by repeat (first | (with_reducible first | exact HB.out | apply below_alloc | apply pw_below_drewN | apply below_drew1) | exact HB.out)) hb); clear HO104; clear HB; have HO104 := n0_; have HO108 := n1_; have HB := n2_; clear n0_ n1_ n2_; (try clear hb); (try clear hb2); (try clear hk); (try clear hi); (try clear ho0); obtain ⟨Ao17, co17, eo17⟩ := Kd.R_slice HO108.out; subst eo17) | ((with_reducible refine gate_callee (f := 40) rfl ?_); refine goesL_ (some 22) rfl rfl Try.func40 (by kernel_rfl) rfl #[.slice Ao17 t106.length co17, .int .i64 a1] rfl (by (try simp only [List.map_toArray, List.map_cons, List.map_nil]); first | done | rfl | (simp only [List.length_drop, List.length_take]; rfl)) ?_; (with_reducible refine (impl_MinFeasibleDeadline.calls k _ _ t106 a1 t109 _ ?side1 ?side2 A8.out).mono ?_); (case side1 => repeat (first | exact (Kd.R_reads' HO108.out).2.2 | (with_reducible refine Kd.C_alloc ?_ _) | (with_reducible refine Kd.C_drewN ?_ _) | (with_reducible refine Kd.C_drew ?_))); (case side2 => exact (Kd.R_reads' HO108.out).2.1); rintro e w18 ⟨rfl, hb⟩; refine ⟨_, rfl, ?_⟩; have n0_ := Aside0.mk (Kd.R_below (by (with_reducible repeat (first | apply Kd.R_alloc | apply Kd.R_drewN | apply Kd.R_drew)); exact HO104.out) hb); have n1_ := Aside0.mk (Kd.R_below (by (with_reducible repeat (first | apply Kd.R_alloc | apply Kd.R_drewN | apply Kd.R_drew)); exact HO108.out) hb); have n2_ := Aside0.mk (below_step (by repeat (first | (with_reducible first | exact HB.out | apply below_alloc | apply pw_below_drewN | apply below_drew1) | exact HB.out)) hb); clear HO104; clear HO108; clear HB; have HO104 := n0_; have HO108 := n1_; have HB := n2_; clear n0_ n1_ n2_; (try clear hb); (try clear hb2); (try clear hk); (try clear hi)) | ((with_reducible refine gate_callee (f := 27) rfl ?_); refine goesL_ (some 28) rfl rfl Try.func27 (by kernel_rfl) rfl #[.slice A0 l0.length c0] rfl (by (try simp only [List.map_toArray, List.map_cons, List.map_nil]); first | done | rfl | (simp only [List.length_drop, List.length_take]; rfl)) ?_; (with_reducible refine (laws_toTaskS.calls k _ _ l0 t110 _ ?side1 ?side2 A10.out).mono ?_); (case side1 => repeat (first | exact (Kd.C_below HR0.out HB.out) | (with_reducible refine Kd.C_alloc ?_ _) | (with_reducible refine Kd.C_drewN ?_ _) | (with_reducible refine Kd.C_drew ?_))); (case side2 => exact HC0.out); rintro e w19 ⟨v111, rfl, ho0, hb⟩; refine ⟨_, rfl, ?_⟩; have n0_ := Aside0.mk (Kd.R_elder' (by (with_reducible repeat (first | apply Kd.R_alloc | apply Kd.R_drewN | apply Kd.R_drew)); exact HO104.out) (Kd.R_base ho0) hb); have n1_ := Aside0.mk (Kd.R_elder' (by (with_reducible repeat (first | apply Kd.R_alloc | apply Kd.R_drewN | apply Kd.R_drew)); exact HO108.out) (Kd.R_base ho0) hb); have n2_ := Aside0.mk (Kd.R_lower (Kd.R_new' (Kd.R_new' ho0 (Kd.R_lt (by (with_reducible repeat (first | apply Kd.R_alloc | apply Kd.R_drewN | apply Kd.R_drew)); exact HO104.out))) (Kd.R_lt (by (with_reducible repeat (first | apply Kd.R_alloc | apply Kd.R_drewN | apply Kd.R_drew)); exact HO108.out))) (below_size (by repeat (first | (with_reducible first | exact HB.out | apply below_alloc | apply pw_below_drewN | apply below_drew1) | exact HB.out)))); have n3_ := Aside0.mk (below_step (by repeat (first | (with_reducible first | exact HB.out | apply below_alloc | apply pw_below_drewN | apply below_drew1) | exact HB.out)) hb); clear HO104; clear HO108; clear HB; have HO104 := n0_; have HO108 := n1_; have HO112 := n2_; have HB := n3_; clear n0_ n1_ n2_ n3_; (try clear hb); (try clear hb2); (try clear hk); (try clear hi); (try clear ho0); obtain ⟨Ao20, co20, eo20⟩ := Kd.R_slice HO112.out; subst eo20) | ((with_reducible refine gate_callee (f := 30) rfl ?_); refine goesL_ (some 29) rfl rfl Try.func30 (by kernel_rfl) rfl #[.slice Ao17 t106.length co17, .slice Ao20 t110.length co20] rfl (by (try simp only [List.map_toArray, List.map_cons, List.map_nil]); first | done | rfl | (simp only [List.length_drop, List.length_take]; rfl)) ?_; (with_reducible refine (laws_eqTaskS.calls k _ _ t106 _ _ t110 true _ ?side1 ?side2 ?side3 ?side4 A11.out).mono ?_); (case side1 => repeat (first | exact (Kd.R_reads' HO108.out).2.2 | (with_reducible refine Kd.C_alloc ?_ _) | (with_reducible refine Kd.C_drewN ?_ _) | (with_reducible refine Kd.C_drew ?_))); (case side2 => exact (Kd.R_reads' HO108.out).2.1); (case side3 => repeat (first | exact (Kd.R_reads' HO112.out).2.2 | (with_reducible refine Kd.C_alloc ?_ _) | (with_reducible refine Kd.C_drewN ?_ _) | (with_reducible refine Kd.C_drew ?_))); (case side4 => exact (Kd.R_reads' HO112.out).2.1); rintro e w21 ⟨rfl, hb⟩; refine ⟨_, rfl, ?_⟩; have n0_ := Aside0.mk (Kd.R_below (by (with_reducible repeat (first | apply Kd.R_alloc | apply Kd.R_drewN | apply Kd.R_drew)); exact HO104.out) hb); have n1_ := Aside0.mk (Kd.R_below (by (with_reducible repeat (first | apply Kd.R_alloc | apply Kd.R_drewN | apply Kd.R_drew)); exact HO108.out) hb); have n2_ := Aside0.mk (Kd.R_below (by (with_reducible repeat (first | apply Kd.R_alloc | apply Kd.R_drewN | apply Kd.R_drew)); exact HO112.out) hb); have n3_ := Aside0.mk (below_step (by repeat (first | (with_reducible first | exact HB.out | apply below_alloc | apply pw_below_drewN | apply below_drew1) | exact HB.out)) hb); clear HO104; clear HO108; clear HO112; clear HB; have HO104 := n0_; have HO108 := n1_; have HO112 := n2_; have HB := n3_; clear n0_ n1_ n2_ n3_; (try clear hb); (try clear hb2); (try clear hk); (try clear hi)))
        go_ret
        exact ⟨by first | rfl | (simp [errW_none, errW_some] <;> rfl) | (simp [*, errW_none, errW_some] <;> rfl), by repeat (first | (with_reducible first | exact HB.out | apply below_alloc | apply pw_below_drewN | apply below_drew1) | exact HB.out)⟩
      · replace c12 := Bool.eq_false_iff.mpr c12
        subst c12
        have H1 : (some false) = some r := by rw [if_neg (show ¬ (false = true) by decide)] at H; exact H
        clear H
        have H := H1
        clear H1
        obtain rfl := Option.some.inj H
        go_enter Try.func8, Try.ntmps8
        go_wp2_with (first | ((with_reducible refine gate_callee (f := 25) rfl ?_); refine goesL_ (some 11) rfl rfl Try.func25 (by kernel_rfl) rfl #[.slice A0 l0.length c0, .int .i64 1048576] rfl (by (try simp only [List.map_toArray, List.map_cons, List.map_nil]); first | done | rfl | (simp only [List.length_drop, List.length_take]; rfl)) ?_; (with_reducible refine (laws_szTaskS.calls _ _ l0 1048576 t101 _ ?side1 ?side2 A3.out).mono ?_); (case side1 => repeat (first | exact HR0.out | (with_reducible refine Kd.C_alloc ?_ _) | (with_reducible refine Kd.C_drewN ?_ _) | (with_reducible refine Kd.C_drew ?_))); (case side2 => exact HC0.out); rintro e w' ⟨rfl, ⟨nd, rfl⟩⟩; refine ⟨_, rfl, ?_⟩) | ((with_reducible refine gate_callee (f := 27) rfl ?_); refine goesL_ (some 15) rfl rfl Try.func27 (by kernel_rfl) rfl #[.slice A0 l0.length c0] rfl (by (try simp only [List.map_toArray, List.map_cons, List.map_nil]); first | done | rfl | (simp only [List.length_drop, List.length_take]; rfl)) ?_; (with_reducible refine (laws_toTaskS.calls k _ _ l0 t102 _ ?side1 ?side2 A5.out).mono ?_); (case side1 => repeat (first | exact HR0.out | (with_reducible refine Kd.C_alloc ?_ _) | (with_reducible refine Kd.C_drewN ?_ _) | (with_reducible refine Kd.C_drew ?_))); (case side2 => exact HC0.out); rintro e w22 ⟨v103, rfl, ho0, hb⟩; refine ⟨_, rfl, ?_⟩; have n0_ := Aside0.mk (Kd.R_lower ho0 (below_size (by repeat (first | (with_reducible first | exact HB.out | apply below_alloc | apply pw_below_drewN | apply below_drew1) | exact HB.out)))); have n1_ := Aside0.mk (below_step (by repeat (first | (with_reducible first | exact HB.out | apply below_alloc | apply pw_below_drewN | apply below_drew1) | exact HB.out)) hb); clear HB; have HO104 := n0_; have HB := n1_; clear n0_ n1_; (try clear hb); (try clear hb2); (try clear hk); (try clear hi); (try clear ho0); obtain ⟨Ao23, co23, eo23⟩ := Kd.R_slice HO104.out; subst eo23) | ((with_reducible refine gate_callee (f := 39) rfl ?_); refine goesL_ (some 17) rfl rfl Try.func39 (by kernel_rfl) rfl #[.slice Ao23 t102.length co23, .int .i64 a1] rfl (by (try simp only [List.map_toArray, List.map_cons, List.map_nil]); first | done | rfl | (simp only [List.length_drop, List.length_take]; rfl)) ?_; (with_reducible refine (spec_MinFeasibleDeadline.calls k _ _ t102 a1 t105 _ ?side1 ?side2 A6.out).mono ?_); (case side1 => repeat (first | exact (Kd.R_reads' HO104.out).2.2 | (with_reducible refine Kd.C_alloc ?_ _) | (with_reducible refine Kd.C_drewN ?_ _) | (with_reducible refine Kd.C_drew ?_))); (case side2 => exact (Kd.R_reads' HO104.out).2.1); rintro e w24 ⟨rfl, hb⟩; refine ⟨_, rfl, ?_⟩; have n0_ := Aside0.mk (Kd.R_below (by (with_reducible repeat (first | apply Kd.R_alloc | apply Kd.R_drewN | apply Kd.R_drew)); exact HO104.out) hb); have n1_ := Aside0.mk (below_step (by repeat (first | (with_reducible first | exact HB.out | apply below_alloc | apply pw_below_drewN | apply below_drew1) | exact HB.out)) hb); clear HO104; clear HB; have HO104 := n0_; have HB := n1_; clear n0_ n1_; (try clear hb); (try clear hb2); (try clear hk); (try clear hi)) | ((with_reducible refine gate_callee (f := 27) rfl ?_); refine goesL_ (some 19) rfl rfl Try.func27 (by kernel_rfl) rfl #[.slice A0 l0.length c0] rfl (by (try simp only [List.map_toArray, List.map_cons, List.map_nil]); first | done | rfl | (simp only [List.length_drop, List.length_take]; rfl)) ?_; (with_reducible refine (laws_toTaskS.calls k _ _ l0 t106 _ ?side1 ?side2 A7.out).mono ?_); (case side1 => repeat (first | exact (Kd.C_below HR0.out HB.out) | (with_reducible refine Kd.C_alloc ?_ _) | (with_reducible refine Kd.C_drewN ?_ _) | (with_reducible refine Kd.C_drew ?_))); (case side2 => exact HC0.out); rintro e w25 ⟨v107, rfl, ho0, hb⟩; refine ⟨_, rfl, ?_⟩; have n0_ := Aside0.mk (Kd.R_elder' (by (with_reducible repeat (first | apply Kd.R_alloc | apply Kd.R_drewN | apply Kd.R_drew)); exact HO104.out) (Kd.R_base ho0) hb); have n1_ := Aside0.mk (Kd.R_lower (Kd.R_new' ho0 (Kd.R_lt (by (with_reducible repeat (first | apply Kd.R_alloc | apply Kd.R_drewN | apply Kd.R_drew)); exact HO104.out))) (below_size (by repeat (first | (with_reducible first | exact HB.out | apply below_alloc | apply pw_below_drewN | apply below_drew1) | exact HB.out)))); have n2_ := Aside0.mk (below_step (by repeat (first | (with_reducible first | exact HB.out | apply below_alloc | apply pw_below_drewN | apply below_drew1) | exact HB.out)) hb); clear HO104; clear HB; have HO104 := n0_; have HO108 := n1_; have HB := n2_; clear n0_ n1_ n2_; (try clear hb); (try clear hb2); (try clear hk); (try clear hi); (try clear ho0); obtain ⟨Ao26, co26, eo26⟩ := Kd.R_slice HO108.out; subst eo26) | ((with_reducible refine gate_callee (f := 40) rfl ?_); refine goesL_ (some 22) rfl rfl Try.func40 (by kernel_rfl) rfl #[.slice Ao26 t106.length co26, .int .i64 a1] rfl (by (try simp only [List.map_toArray, List.map_cons, List.map_nil]); first | done | rfl | (simp only [List.length_drop, List.length_take]; rfl)) ?_; (with_reducible refine (impl_MinFeasibleDeadline.calls k _ _ t106 a1 t109 _ ?side1 ?side2 A8.out).mono ?_); (case side1 => repeat (first | exact (Kd.R_reads' HO108.out).2.2 | (with_reducible refine Kd.C_alloc ?_ _) | (with_reducible refine Kd.C_drewN ?_ _) | (with_reducible refine Kd.C_drew ?_))); (case side2 => exact (Kd.R_reads' HO108.out).2.1); rintro e w27 ⟨rfl, hb⟩; refine ⟨_, rfl, ?_⟩; have n0_ := Aside0.mk (Kd.R_below (by (with_reducible repeat (first | apply Kd.R_alloc | apply Kd.R_drewN | apply Kd.R_drew)); exact HO104.out) hb); have n1_ := Aside0.mk (Kd.R_below (by (with_reducible repeat (first | apply Kd.R_alloc | apply Kd.R_drewN | apply Kd.R_drew)); exact HO108.out) hb); have n2_ := Aside0.mk (below_step (by repeat (first | (with_reducible first | exact HB.out | apply below_alloc | apply pw_below_drewN | apply below_drew1) | exact HB.out)) hb); clear HO104; clear HO108; clear HB; have HO104 := n0_; have HO108 := n1_; have HB := n2_; clear n0_ n1_ n2_; (try clear hb); (try clear hb2); (try clear hk); (try clear hi)) | ((with_reducible refine gate_callee (f := 27) rfl ?_); refine goesL_ (some 28) rfl rfl Try.func27 (by kernel_rfl) rfl #[.slice A0 l0.length c0] rfl (by (try simp only [List.map_toArray, List.map_cons, List.map_nil]); first | done | rfl | (simp only [List.length_drop, List.length_take]; rfl)) ?_; (with_reducible refine (laws_toTaskS.calls k _ _ l0 t110 _ ?side1 ?side2 A10.out).mono ?_); (case side1 => repeat (first | exact (Kd.C_below HR0.out HB.out) | (with_reducible refine Kd.C_alloc ?_ _) | (with_reducible refine Kd.C_drewN ?_ _) | (with_reducible refine Kd.C_drew ?_))); (case side2 => exact HC0.out); rintro e w28 ⟨v111, rfl, ho0, hb⟩; refine ⟨_, rfl, ?_⟩; have n0_ := Aside0.mk (Kd.R_elder' (by (with_reducible repeat (first | apply Kd.R_alloc | apply Kd.R_drewN | apply Kd.R_drew)); exact HO104.out) (Kd.R_base ho0) hb); have n1_ := Aside0.mk (Kd.R_elder' (by (with_reducible repeat (first | apply Kd.R_alloc | apply Kd.R_drewN | apply Kd.R_drew)); exact HO108.out) (Kd.R_base ho0) hb); have n2_ := Aside0.mk (Kd.R_lower (Kd.R_new' (Kd.R_new' ho0 (Kd.R_lt (by (with_reducible repeat (first | apply Kd.R_alloc | apply Kd.R_drewN | apply Kd.R_drew)); exact HO104.out))) (Kd.R_lt (by (with_reducible repeat (first | apply Kd.R_alloc | apply Kd.R_drewN | apply Kd.R_drew)); exact HO108.out))) (below_size (by repeat (first | (with_reducible first | exact HB.out | apply below_alloc | apply pw_below_drewN | apply below_drew1) | exact HB.out)))); have n3_ := Aside0.mk (below_step (by repeat (first | (with_reducible first | exact HB.out | apply below_alloc | apply pw_below_drewN | apply below_drew1) | exact HB.out)) hb); clear HO104; clear HO108; clear HB; have HO104 := n0_; have HO108 := n1_; have HO112 := n2_; have HB := n3_; clear n0_ n1_ n2_ n3_; (try clear hb); (try clear hb2); (try clear hk); (try clear hi); (try clear ho0); obtain ⟨Ao29, co29, eo29⟩ := Kd.R_slice HO112.out; subst eo29) | ((with_reducible refine gate_callee (f := 30) rfl ?_); refine goesL_ (some 29) rfl rfl Try.func30 (by kernel_rfl) rfl #[.slice Ao26 t106.length co26, .slice Ao29 t110.length co29] rfl (by (try simp only [List.map_toArray, List.map_cons, List.map_nil]); first | done | rfl | (simp only [List.length_drop, List.length_take]; rfl)) ?_; (with_reducible refine (laws_eqTaskS.calls k _ _ t106 _ _ t110 false _ ?side1 ?side2 ?side3 ?side4 A11.out).mono ?_); (case side1 => repeat (first | exact (Kd.R_reads' HO108.out).2.2 | (with_reducible refine Kd.C_alloc ?_ _) | (with_reducible refine Kd.C_drewN ?_ _) | (with_reducible refine Kd.C_drew ?_))); (case side2 => exact (Kd.R_reads' HO108.out).2.1); (case side3 => repeat (first | exact (Kd.R_reads' HO112.out).2.2 | (with_reducible refine Kd.C_alloc ?_ _) | (with_reducible refine Kd.C_drewN ?_ _) | (with_reducible refine Kd.C_drew ?_))); (case side4 => exact (Kd.R_reads' HO112.out).2.1); rintro e w30 ⟨rfl, hb⟩; refine ⟨_, rfl, ?_⟩; have n0_ := Aside0.mk (Kd.R_below (by (with_reducible repeat (first | apply Kd.R_alloc | apply Kd.R_drewN | apply Kd.R_drew)); exact HO104.out) hb); have n1_ := Aside0.mk (Kd.R_below (by (with_reducible repeat (first | apply Kd.R_alloc | apply Kd.R_drewN | apply Kd.R_drew)); exact HO108.out) hb); have n2_ := Aside0.mk (Kd.R_below (by (with_reducible repeat (first | apply Kd.R_alloc | apply Kd.R_drewN | apply Kd.R_drew)); exact HO112.out) hb); have n3_ := Aside0.mk (below_step (by repeat (first | (with_reducible first | exact HB.out | apply below_alloc | apply pw_below_drewN | apply below_drew1) | exact HB.out)) hb); clear HO104; clear HO108; clear HO112; clear HB; have HO104 := n0_; have HO108 := n1_; have HO112 := n2_; have HB := n3_; clear n0_ n1_ n2_ n3_; (try clear hb); (try clear hb2); (try clear hk); (try clear hi)))
        go_ret
        exact ⟨by first | rfl | (simp [errW_none, errW_some] <;> rfl) | (simp [*, errW_none, errW_some] <;> rfl), by repeat (first | (with_reducible first | exact HB.out | apply below_alloc | apply pw_below_drewN | apply below_drew1) | exact HB.out)⟩
    · rw [if_neg c9] at H
      have c9b0 : (t109 == t105) = false := beq_eq_false_iff_ne.mpr c9
      have c9b1 : (t109 != t105) = true := bne_iff_ne.mpr c9
      obtain rfl := Option.some.inj H
      go_enter Try.func8, Try.ntmps8
      go_wp2_with (first | ((with_reducible refine gate_callee (f := 25) rfl ?_); refine goesL_ (some 11) rfl rfl Try.func25 (by kernel_rfl) rfl #[.slice A0 l0.length c0, .int .i64 1048576] rfl (by (try simp only [List.map_toArray, List.map_cons, List.map_nil]); first | done | rfl | (simp only [List.length_drop, List.length_take]; rfl)) ?_; (with_reducible refine (laws_szTaskS.calls _ _ l0 1048576 t101 _ ?side1 ?side2 A3.out).mono ?_); (case side1 => repeat (first | exact HR0.out | (with_reducible refine Kd.C_alloc ?_ _) | (with_reducible refine Kd.C_drewN ?_ _) | (with_reducible refine Kd.C_drew ?_))); (case side2 => exact HC0.out); rintro e w' ⟨rfl, ⟨nd, rfl⟩⟩; refine ⟨_, rfl, ?_⟩) | ((with_reducible refine gate_callee (f := 27) rfl ?_); refine goesL_ (some 15) rfl rfl Try.func27 (by kernel_rfl) rfl #[.slice A0 l0.length c0] rfl (by (try simp only [List.map_toArray, List.map_cons, List.map_nil]); first | done | rfl | (simp only [List.length_drop, List.length_take]; rfl)) ?_; (with_reducible refine (laws_toTaskS.calls k _ _ l0 t102 _ ?side1 ?side2 A5.out).mono ?_); (case side1 => repeat (first | exact HR0.out | (with_reducible refine Kd.C_alloc ?_ _) | (with_reducible refine Kd.C_drewN ?_ _) | (with_reducible refine Kd.C_drew ?_))); (case side2 => exact HC0.out); rintro e w31 ⟨v103, rfl, ho0, hb⟩; refine ⟨_, rfl, ?_⟩; have n0_ := Aside0.mk (Kd.R_lower ho0 (below_size (by repeat (first | (with_reducible first | exact HB.out | apply below_alloc | apply pw_below_drewN | apply below_drew1) | exact HB.out)))); have n1_ := Aside0.mk (below_step (by repeat (first | (with_reducible first | exact HB.out | apply below_alloc | apply pw_below_drewN | apply below_drew1) | exact HB.out)) hb); clear HB; have HO104 := n0_; have HB := n1_; clear n0_ n1_; (try clear hb); (try clear hb2); (try clear hk); (try clear hi); (try clear ho0); obtain ⟨Ao32, co32, eo32⟩ := Kd.R_slice HO104.out; subst eo32) | ((with_reducible refine gate_callee (f := 39) rfl ?_); refine goesL_ (some 17) rfl rfl Try.func39 (by kernel_rfl) rfl #[.slice Ao32 t102.length co32, .int .i64 a1] rfl (by (try simp only [List.map_toArray, List.map_cons, List.map_nil]); first | done | rfl | (simp only [List.length_drop, List.length_take]; rfl)) ?_; (with_reducible refine (spec_MinFeasibleDeadline.calls k _ _ t102 a1 t105 _ ?side1 ?side2 A6.out).mono ?_); (case side1 => repeat (first | exact (Kd.R_reads' HO104.out).2.2 | (with_reducible refine Kd.C_alloc ?_ _) | (with_reducible refine Kd.C_drewN ?_ _) | (with_reducible refine Kd.C_drew ?_))); (case side2 => exact (Kd.R_reads' HO104.out).2.1); rintro e w33 ⟨rfl, hb⟩; refine ⟨_, rfl, ?_⟩; have n0_ := Aside0.mk (Kd.R_below (by (with_reducible repeat (first | apply Kd.R_alloc | apply Kd.R_drewN | apply Kd.R_drew)); exact HO104.out) hb); have n1_ := Aside0.mk (below_step (by repeat (first | (with_reducible first | exact HB.out | apply below_alloc | apply pw_below_drewN | apply below_drew1) | exact HB.out)) hb); clear HO104; clear HB; have HO104 := n0_; have HB := n1_; clear n0_ n1_; (try clear hb); (try clear hb2); (try clear hk); (try clear hi)) | ((with_reducible refine gate_callee (f := 27) rfl ?_); refine goesL_ (some 19) rfl rfl Try.func27 (by kernel_rfl) rfl #[.slice A0 l0.length c0] rfl (by (try simp only [List.map_toArray, List.map_cons, List.map_nil]); first | done | rfl | (simp only [List.length_drop, List.length_take]; rfl)) ?_; (with_reducible refine (laws_toTaskS.calls k _ _ l0 t106 _ ?side1 ?side2 A7.out).mono ?_); (case side1 => repeat (first | exact (Kd.C_below HR0.out HB.out) | (with_reducible refine Kd.C_alloc ?_ _) | (with_reducible refine Kd.C_drewN ?_ _) | (with_reducible refine Kd.C_drew ?_))); (case side2 => exact HC0.out); rintro e w34 ⟨v107, rfl, ho0, hb⟩; refine ⟨_, rfl, ?_⟩; have n0_ := Aside0.mk (Kd.R_elder' (by (with_reducible repeat (first | apply Kd.R_alloc | apply Kd.R_drewN | apply Kd.R_drew)); exact HO104.out) (Kd.R_base ho0) hb); have n1_ := Aside0.mk (Kd.R_lower (Kd.R_new' ho0 (Kd.R_lt (by (with_reducible repeat (first | apply Kd.R_alloc | apply Kd.R_drewN | apply Kd.R_drew)); exact HO104.out))) (below_size (by repeat (first | (with_reducible first | exact HB.out | apply below_alloc | apply pw_below_drewN | apply below_drew1) | exact HB.out)))); have n2_ := Aside0.mk (below_step (by repeat (first | (with_reducible first | exact HB.out | apply below_alloc | apply pw_below_drewN | apply below_drew1) | exact HB.out)) hb); clear HO104; clear HB; have HO104 := n0_; have HO108 := n1_; have HB := n2_; clear n0_ n1_ n2_; (try clear hb); (try clear hb2); (try clear hk); (try clear hi); (try clear ho0); obtain ⟨Ao35, co35, eo35⟩ := Kd.R_slice HO108.out; subst eo35) | ((with_reducible refine gate_callee (f := 40) rfl ?_); refine goesL_ (some 22) rfl rfl Try.func40 (by kernel_rfl) rfl #[.slice Ao35 t106.length co35, .int .i64 a1] rfl (by (try simp only [List.map_toArray, List.map_cons, List.map_nil]); first | done | rfl | (simp only [List.length_drop, List.length_take]; rfl)) ?_; (with_reducible refine (impl_MinFeasibleDeadline.calls k _ _ t106 a1 t109 _ ?side1 ?side2 A8.out).mono ?_); (case side1 => repeat (first | exact (Kd.R_reads' HO108.out).2.2 | (with_reducible refine Kd.C_alloc ?_ _) | (with_reducible refine Kd.C_drewN ?_ _) | (with_reducible refine Kd.C_drew ?_))); (case side2 => exact (Kd.R_reads' HO108.out).2.1); rintro e w36 ⟨rfl, hb⟩; refine ⟨_, rfl, ?_⟩; have n0_ := Aside0.mk (Kd.R_below (by (with_reducible repeat (first | apply Kd.R_alloc | apply Kd.R_drewN | apply Kd.R_drew)); exact HO104.out) hb); have n1_ := Aside0.mk (Kd.R_below (by (with_reducible repeat (first | apply Kd.R_alloc | apply Kd.R_drewN | apply Kd.R_drew)); exact HO108.out) hb); have n2_ := Aside0.mk (below_step (by repeat (first | (with_reducible first | exact HB.out | apply below_alloc | apply pw_below_drewN | apply below_drew1) | exact HB.out)) hb); clear HO104; clear HO108; clear HB; have HO104 := n0_; have HO108 := n1_; have HB := n2_; clear n0_ n1_ n2_; (try clear hb); (try clear hb2); (try clear hk); (try clear hi)))
      go_ret
      exact ⟨by first | rfl | (simp [errW_none, errW_some] <;> rfl) | (simp [*, errW_none, errW_some] <;> rfl), by repeat (first | (with_reducible first | exact HB.out | apply below_alloc | apply pw_below_drewN | apply below_drew1) | exact HB.out)⟩

end Go.Proofs.Ytcpgejgppiclmaa.Print
