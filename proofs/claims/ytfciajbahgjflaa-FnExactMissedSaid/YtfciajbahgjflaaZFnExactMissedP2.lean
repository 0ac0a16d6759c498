/- Functions of the translation as plain Lean functions, and their contracts. No condition. -/
import Derived.Test.YtfciajbahgjflaaPB
import Derived.Test.YtfciajbahgjflaaRR
import Derived.Test.YtfciajbahgjflaaZFnExactMissedP0
import Derived.Test.YtfciajbahgjflaaZFnExactMissedP1
namespace Go.Proofs.Ytfciajbahgjflaa.Print
open Go.RowKit Go.Proofs.YtfciajbahgjflaaW.PrintWords Go.Proofs.YtfciajbahgjflaaW.PrintLast Go.Proofs.YtfciajbahgjflaaW.PrintMore
attribute [local go_sem] max2_int min2_int max_two min_two max_three min_three max_four min_four   -- for this text's walks alone
set_option linter.unusedVariables false
set_option linter.unusedSimpArgs false

/-! ### laws_FnExactMissed: function 3 -/
def laws_FnExactMissed.j0 : Nat → List (S79) → List Int → List Int → Bool → List Int → List Int → Option (Bool)
  | 0, _, _, _, _, _, _ => none
  | k + 1, x0, x6, x9, x63, x102000, x102001 => if x63 = true then (some false) else ((laws_markIntS.f k x9 1).bind fun bt147 => ((laws_heldIntS.f k bt147.2 1).bind fun t149 => (if t149 < 0 then (some false) else (if t149 = bt147.1 then ((laws_toJobS.f k x0).bind fun t150 => ((laws_toSchedule.f k x102000 x102001).bind fun bt153 => ((impl_Missed.f t150 bt153.1 bt153.2).bind fun t159 => ((laws_eqIntS.f k t159 x6).bind fun t162 => (if t162 = true then ((laws_heldIntS.f k bt147.2 1).bind fun t163 => (if t163 < 0 then (some false) else (if t163 = bt147.1 then (some true) else (some false)))) else (some false)))))) else (some false)))))
def laws_FnExactMissed.f (k : Nat) (l0 : List (S79)) (l1_0 : List Int) (l1_1 : List Int) : Option (Bool) := (laws_szJobS.f l0 1048576).bind fun t102 => (if t102 < 0 then (some true) else ((laws_szSchedule.f l1_0 l1_1 t102).bind fun t103 => (if t103 < 0 then (some true) else ((laws_toJobS.f k l0).bind fun t104 => ((laws_toSchedule.f k l1_0 l1_1).bind fun bt107 => ((spec_Missed.f k t104 bt107.1 bt107.2).bind fun t113 => ((laws_toJobS.f k l0).bind fun t116 => ((laws_toSchedule.f k l1_0 l1_1).bind fun bt119 => ((impl_Missed.f t116 bt119.1 bt119.2).bind fun t126 => ((laws_eqIntS.f k t126 t113).bind fun t129 => (if t129 = true then ((laws_toJobS.f k l0).bind fun t130 => ((laws_eqJobS.f k t116 t130).bind fun t133 => (if t133 = true then ((laws_toSchedule.f k l1_0 l1_1).bind fun bt134 => ((laws_eqSchedule.f k bt119.1 bt119.2 bt134.1 bt134.2).bind fun t140 => (if t140 = true then ((laws_markJobS.f k t116 1).bind fun bt141 => ((laws_markSchedule.f k bt119.1 bt119.2 bt141.1).bind fun bt143 => (if bt143.1 < 0 then (laws_FnExactMissed.j0 k l0 t113 t126 true l1_0 l1_1) else ((laws_eqIntS.f k t126 t113).bind fun t146 => (laws_FnExactMissed.j0 k l0 t113 t126 (!t146) l1_0 l1_1))))) else (some false)))) else (some false)))) else (some false))))))))))))
theorem laws_FnExactMissed.mono_l : ∀ k, (∀ y0 y1 y2 y3 y4 y5, LeO (laws_FnExactMissed.j0 k y0 y1 y2 y3 y4 y5) (laws_FnExactMissed.j0 (k + 1) y0 y1 y2 y3 y4 y5))
  | 0 => fun _ _ _ _ _ _ r h => by simp [laws_FnExactMissed.j0] at h
  | k + 1 => by
    have ih0 := laws_FnExactMissed.mono_l k
    · intro y0 y1 y2 y3 y4 y5
      unfold laws_FnExactMissed.j0
      repeat' first
      | (with_reducible exact ih0 _ _ _ _ _ _)
      | (with_reducible exact laws_eqIntS.mono _ _ _)
      | (with_reducible exact laws_eqJobS.mono _ _ _)
      | (with_reducible exact laws_eqSchedule.mono _ _ _ _ _)
      | (with_reducible exact laws_heldIntS.mono _ _ _)
      | (with_reducible exact laws_markIntS.mono _ _ _)
      | (with_reducible exact laws_markJobS.mono _ _ _)
      | (with_reducible exact laws_markSchedule.mono _ _ _ _)
      | (with_reducible exact laws_toJobS.mono _ _)
      | (with_reducible exact laws_toSchedule.mono _ _ _)
      | (with_reducible exact spec_Missed.mono _ _ _ _)
      | (with_reducible exact LeO.refl _)
      | (with_reducible exact LeO.none _)
      | (with_reducible refine LeO.ite ?_ ?_)
      | (with_reducible refine LeO.bind ?_ (fun _ => ?_))
      | exact ih0 _ _ _ _ _ _
      | exact laws_eqIntS.mono _ _ _
      | exact laws_eqJobS.mono _ _ _
      | exact laws_eqSchedule.mono _ _ _ _ _
      | exact laws_heldIntS.mono _ _ _
      | exact laws_markIntS.mono _ _ _
      | exact laws_markJobS.mono _ _ _
      | exact laws_markSchedule.mono _ _ _ _
      | exact laws_toJobS.mono _ _
      | exact laws_toSchedule.mono _ _ _
      | exact spec_Missed.mono _ _ _ _
      | exact LeO.none _
      | refine LeO.ite ?_ ?_
      | refine LeO.bind ?_ (fun _ => ?_)
theorem laws_FnExactMissed.mono : ∀ a0 a1 a2 k, LeO (laws_FnExactMissed.f k a0 a1 a2) (laws_FnExactMissed.f (k + 1) a0 a1 a2) := by
  intro a0 a1 a2 k
  have ih0 := laws_FnExactMissed.mono_l k
  unfold laws_FnExactMissed.f
  repeat' first
      | (with_reducible exact ih0 _ _ _ _ _ _)
      | (with_reducible exact laws_eqIntS.mono _ _ _)
      | (with_reducible exact laws_eqJobS.mono _ _ _)
      | (with_reducible exact laws_eqSchedule.mono _ _ _ _ _)
      | (with_reducible exact laws_heldIntS.mono _ _ _)
      | (with_reducible exact laws_markIntS.mono _ _ _)
      | (with_reducible exact laws_markJobS.mono _ _ _)
      | (with_reducible exact laws_markSchedule.mono _ _ _ _)
      | (with_reducible exact laws_toJobS.mono _ _)
      | (with_reducible exact laws_toSchedule.mono _ _ _)
      | (with_reducible exact spec_Missed.mono _ _ _ _)
      | (with_reducible exact LeO.refl _)
      | (with_reducible exact LeO.none _)
      | (with_reducible refine LeO.ite ?_ ?_)
      | (with_reducible refine LeO.bind ?_ (fun _ => ?_))
      | exact ih0 _ _ _ _ _ _
      | exact laws_eqIntS.mono _ _ _
      | exact laws_eqJobS.mono _ _ _
      | exact laws_eqSchedule.mono _ _ _ _ _
      | exact laws_heldIntS.mono _ _ _
      | exact laws_markIntS.mono _ _ _
      | exact laws_markJobS.mono _ _ _
      | exact laws_markSchedule.mono _ _ _ _
      | exact laws_toJobS.mono _ _
      | exact laws_toSchedule.mono _ _ _
      | exact spec_Missed.mono _ _ _ _
      | exact LeO.none _
      | refine LeO.ite ?_ ?_
      | refine LeO.bind ?_ (fun _ => ?_)
set_option maxHeartbeats 8000000 in
set_option maxRecDepth 100000 in
theorem laws_FnExactMissed.calls (k : Nat) (A0 : Option Addr) (c0 : Nat) (l0 : List (S79)) (A1_0 : Option Addr) (c1_0 : Nat) (l1_0 : List Int) (A1_1 : Option Addr) (c1_1 : Nat) (l1_1 : List Int) (_r : Bool) (w : World) (hr0 : Kd.C k79 w A0 l0.length l0) (hc0 : l0.length ≤ c0) (hr1_0 : Kd.C (Kd.int .i64) w A1_0 l1_0.length l1_0) (hc1_0 : l1_0.length ≤ c1_0) (hr1_1 : Kd.C (Kd.int .i64) w A1_1 l1_1.length l1_1) (hc1_1 : l1_1.length ≤ c1_1) (h : laws_FnExactMissed.f k l0 l1_0 l1_1 = some true) :
    Calls Try.prog 3 #[.slice A0 l0.length c0, .agg #[.slice A1_0 l1_0.length c1_0, .slice A1_1 l1_1.length c1_1]] w fun e w' => e = .returned (.bool true) ∧ Below w.heap.size w w' := by
  have hu25 := Try.underlying25
  have hu31 := Try.underlying31
  have HR0 := Aside0.mk hr0
  have HC0 := Aside0.mk hc0
  clear hr0 hc0
  have HR1_0 := Aside0.mk hr1_0
  have HC1_0 := Aside0.mk hc1_0
  clear hr1_0 hc1_0
  have HR1_1 := Aside0.mk hr1_1
  have HC1_1 := Aside0.mk hc1_1
  clear hr1_1 hc1_1
  have HB := Aside0.mk (Below.refl w.heap.size w)
  have H : ((laws_szJobS.f l0 1048576).bind fun t102 => (if t102 < 0 then (some true) else ((laws_szSchedule.f l1_0 l1_1 t102).bind fun t103 => (if t103 < 0 then (some true) else ((laws_toJobS.f k l0).bind fun t104 => ((laws_toSchedule.f k l1_0 l1_1).bind fun bt107 => ((spec_Missed.f k t104 bt107.1 bt107.2).bind fun t113 => ((laws_toJobS.f k l0).bind fun t116 => ((laws_toSchedule.f k l1_0 l1_1).bind fun bt119 => ((impl_Missed.f t116 bt119.1 bt119.2).bind fun t126 => ((laws_eqIntS.f k t126 t113).bind fun t129 => (if t129 = true then ((laws_toJobS.f k l0).bind fun t130 => ((laws_eqJobS.f k t116 t130).bind fun t133 => (if t133 = true then ((laws_toSchedule.f k l1_0 l1_1).bind fun bt134 => ((laws_eqSchedule.f k bt119.1 bt119.2 bt134.1 bt134.2).bind fun t140 => (if t140 = true then ((laws_markJobS.f k t116 1).bind fun bt141 => ((laws_markSchedule.f k bt119.1 bt119.2 bt141.1).bind fun bt143 => (if bt143.1 < 0 then (laws_FnExactMissed.j0 k l0 t113 t126 true l1_0 l1_1) else ((laws_eqIntS.f k t126 t113).bind fun t146 => (laws_FnExactMissed.j0 k l0 t113 t126 (!t146) l1_0 l1_1))))) else (some false)))) else (some false)))) else (some false))))))))))))) = some true := h
  clear h
  replace H := Option.bind_eq_some_iff.mp H
  obtain ⟨t102, A30, H⟩ := H
  replace H : (if t102 < 0 then (some true) else ((laws_szSchedule.f l1_0 l1_1 t102).bind fun t103 => (if t103 < 0 then (some true) else ((laws_toJobS.f k l0).bind fun t104 => ((laws_toSchedule.f k l1_0 l1_1).bind fun bt107 => ((spec_Missed.f k t104 bt107.1 bt107.2).bind fun t113 => ((laws_toJobS.f k l0).bind fun t116 => ((laws_toSchedule.f k l1_0 l1_1).bind fun bt119 => ((impl_Missed.f t116 bt119.1 bt119.2).bind fun t126 => ((laws_eqIntS.f k t126 t113).bind fun t129 => (if t129 = true then ((laws_toJobS.f k l0).bind fun t130 => ((laws_eqJobS.f k t116 t130).bind fun t133 => (if t133 = true then ((laws_toSchedule.f k l1_0 l1_1).bind fun bt134 => ((laws_eqSchedule.f k bt119.1 bt119.2 bt134.1 bt134.2).bind fun t140 => (if t140 = true then ((laws_markJobS.f k t116 1).bind fun bt141 => ((laws_markSchedule.f k bt119.1 bt119.2 bt141.1).bind fun bt143 => (if bt143.1 < 0 then (laws_FnExactMissed.j0 k l0 t113 t126 true l1_0 l1_1) else ((laws_eqIntS.f k t126 t113).bind fun t146 => (laws_FnExactMissed.j0 k l0 t113 t126 (!t146) l1_0 l1_1))))) else (some false)))) else (some false)))) else (some false)))))))))))) = some true := H
  have A3 := Aside0.mk A30
  clear A30
  by_cases c4 : t102 < 0
  · rw [if_pos c4] at H
    have c4b0 : decide (t102 < 0) = true := decide_eq_true c4
    clear c4
    try (obtain rfl := Option.some.inj H)
    go_enter Try.func3, Try.ntmps3
    go_wp2_with (first | ((with_reducible refine gate_dst (N := 3) rfl ?_); refine box_event ?hg (N := 3) ?hd (cs := #[.slice A1_0 l1_0.length c1_0, .slice A1_1 l1_1.length c1_1]) (t := 25) ?hr ?_; (case hd => rfl); (case hg => rfl); (case hr => first | (go_simp; done) | (go_simp; rfl)); intro gb101 hg w5 hbox hb; have n0_ := Aside0.mk (below_step (by repeat (first | (with_reducible first | exact HB.out | apply below_alloc | apply pw_below_drewN | apply below_drew1) | exact HB.out)) hb); have n1_ := Aside0.mk (hbox); have n2_ := Aside0.mk ((by rw [hg]; exact (below_size (by repeat (first | (with_reducible first | exact HB.out | apply below_alloc | apply pw_below_drewN | apply below_drew1) | exact HB.out))) : w.heap.size ≤ gb101)); have n3_ := Aside0.mk ((by rw [hg]; exact (below_size (by repeat (first | (with_reducible first | exact HB.out | apply below_alloc | apply pw_below_drewN | apply below_drew1) | exact HB.out))) : w.heap.size ≤ gb101)); clear HB; have HB := n0_; have BK101 := n1_; have GW101 := n2_; have GE101 := n3_; clear n0_ n1_ n2_ n3_; clear hb hbox hg) | ((with_reducible refine gate_callee (f := 15) rfl ?_); refine goesL_ (some 16) rfl rfl Try.func15 (by kernel_rfl) rfl #[.slice A0 l0.length c0, .int .i64 1048576] rfl (by (try simp only [List.map_toArray, List.map_cons, List.map_nil]); first | done | rfl | (simp only [List.length_drop, List.length_take]; rfl)) ?_; (with_reducible refine (laws_szJobS.calls _ _ l0 1048576 t102 _ ?side1 ?side2 A3.out).mono ?_); (case side1 => repeat (first | exact (Kd.C_below HR0.out HB.out) | (with_reducible refine Kd.C_alloc ?_ _) | (with_reducible refine Kd.C_drewN ?_ _) | (with_reducible refine Kd.C_drew ?_))); (case side2 => exact HC0.out); rintro e w' ⟨rfl, ⟨nd, rfl⟩⟩; refine ⟨_, rfl, ?_⟩))
    go_ret
    exact ⟨by first | rfl | (simp [errW_none, errW_some] <;> rfl) | (simp [*, errW_none, errW_some] <;> rfl), by repeat (first | (with_reducible first | exact HB.out | apply below_alloc | apply pw_below_drewN | apply below_drew1 | refine below_set ?_ GE101.out) | exact HB.out)⟩
  · rw [if_neg c4] at H
    have c4b0 : decide (t102 < 0) = false := decide_eq_false c4
    clear c4
    replace H := Option.bind_eq_some_iff.mp H
    obtain ⟨t103, A60, H⟩ := H
    replace H : (if t103 < 0 then (some true) else ((laws_toJobS.f k l0).bind fun t104 => ((laws_toSchedule.f k l1_0 l1_1).bind fun bt107 => ((spec_Missed.f k t104 bt107.1 bt107.2).bind fun t113 => ((laws_toJobS.f k l0).bind fun t116 => ((laws_toSchedule.f k l1_0 l1_1).bind fun bt119 => ((impl_Missed.f t116 bt119.1 bt119.2).bind fun t126 => ((laws_eqIntS.f k t126 t113).bind fun t129 => (if t129 = true then ((laws_toJobS.f k l0).bind fun t130 => ((laws_eqJobS.f k t116 t130).bind fun t133 => (if t133 = true then ((laws_toSchedule.f k l1_0 l1_1).bind fun bt134 => ((laws_eqSchedule.f k bt119.1 bt119.2 bt134.1 bt134.2).bind fun t140 => (if t140 = true then ((laws_markJobS.f k t116 1).bind fun bt141 => ((laws_markSchedule.f k bt119.1 bt119.2 bt141.1).bind fun bt143 => (if bt143.1 < 0 then (laws_FnExactMissed.j0 k l0 t113 t126 true l1_0 l1_1) else ((laws_eqIntS.f k t126 t113).bind fun t146 => (laws_FnExactMissed.j0 k l0 t113 t126 (!t146) l1_0 l1_1))))) else (some false)))) else (some false)))) else (some false)))))))))) = some true := H
    have A6 := Aside0.mk A60
    clear A60
    by_cases c7 : t103 < 0
    · rw [if_pos c7] at H
      have c7b0 : decide (t103 < 0) = true := decide_eq_true c7
      clear c7
      try (obtain rfl := Option.some.inj H)
      go_enter Try.func3, Try.ntmps3
      go_wp2_with (first | ((with_reducible refine gate_dst (N := 3) rfl ?_); refine box_event ?hg (N := 3) ?hd (cs := #[.slice A1_0 l1_0.length c1_0, .slice A1_1 l1_1.length c1_1]) (t := 25) ?hr ?_; (case hd => rfl); (case hg => rfl); (case hr => first | (go_simp; done) | (go_simp; rfl)); intro gb101 hg w8 hbox hb; have n0_ := Aside0.mk (below_step (by repeat (first | (with_reducible first | exact HB.out | apply below_alloc | apply pw_below_drewN | apply below_drew1) | exact HB.out)) hb); have n1_ := Aside0.mk (hbox); have n2_ := Aside0.mk ((by rw [hg]; exact (below_size (by repeat (first | (with_reducible first | exact HB.out | apply below_alloc | apply pw_below_drewN | apply below_drew1) | exact HB.out))) : w.heap.size ≤ gb101)); have n3_ := Aside0.mk ((by rw [hg]; exact (below_size (by repeat (first | (with_reducible first | exact HB.out | apply below_alloc | apply pw_below_drewN | apply below_drew1) | exact HB.out))) : w.heap.size ≤ gb101)); clear HB; have HB := n0_; have BK101 := n1_; have GW101 := n2_; have GE101 := n3_; clear n0_ n1_ n2_ n3_; clear hb hbox hg) | ((with_reducible refine gate_callee (f := 15) rfl ?_); refine goesL_ (some 16) rfl rfl Try.func15 (by kernel_rfl) rfl #[.slice A0 l0.length c0, .int .i64 1048576] rfl (by (try simp only [List.map_toArray, List.map_cons, List.map_nil]); first | done | rfl | (simp only [List.length_drop, List.length_take]; rfl)) ?_; (with_reducible refine (laws_szJobS.calls _ _ l0 1048576 t102 _ ?side1 ?side2 A3.out).mono ?_); (case side1 => repeat (first | exact (Kd.C_below HR0.out HB.out) | (with_reducible refine Kd.C_alloc ?_ _) | (with_reducible refine Kd.C_drewN ?_ _) | (with_reducible refine Kd.C_drew ?_))); (case side2 => exact HC0.out); rintro e w' ⟨rfl, ⟨nd, rfl⟩⟩; refine ⟨_, rfl, ?_⟩; have hcz9_0 : w8.cell? ⟨gb101, 0, none⟩ = some (.slice A1_0 l1_0.length c1_0) := (blk_cell BK101.out 0).trans rfl; have hcz9_1 : w8.cell? ⟨gb101, 1, none⟩ = some (.slice A1_1 l1_1.length c1_1) := (blk_cell BK101.out 1).trans rfl; have hfz9_0 := blk_frozen BK101.out 0; have hfz9_1 := blk_frozen BK101.out 1) | ((with_reducible refine gate_callee (f := 16) rfl ?_); refine goesL_ (some 21) rfl rfl Try.func16 (by kernel_rfl) rfl #[.agg #[.slice A1_0 l1_0.length c1_0, .slice A1_1 l1_1.length c1_1], .int .i64 t102] rfl (by (try simp only [List.map_toArray, List.map_cons, List.map_nil]); first | done | rfl | (simp only [List.length_drop, List.length_take]; rfl)) ?_; (with_reducible refine (laws_szSchedule.calls _ _ l1_0 _ _ l1_1 t102 t103 _ ?side1 ?side2 ?side3 ?side4 A6.out).mono ?_); (case side1 => repeat (first | exact (Kd.C_below HR1_0.out (by repeat (first | (with_reducible first | exact HB.out | apply below_alloc | apply pw_below_drewN | apply below_drew1 | refine below_set ?_ GE101.out) | exact HB.out))) | (with_reducible refine Kd.C_alloc ?_ _) | (with_reducible refine Kd.C_drewN ?_ _) | (with_reducible refine Kd.C_drew ?_))); (case side2 => exact HC1_0.out); (case side3 => repeat (first | exact (Kd.C_below HR1_1.out (by repeat (first | (with_reducible first | exact HB.out | apply below_alloc | apply pw_below_drewN | apply below_drew1 | refine below_set ?_ GE101.out) | exact HB.out))) | (with_reducible refine Kd.C_alloc ?_ _) | (with_reducible refine Kd.C_drewN ?_ _) | (with_reducible refine Kd.C_drew ?_))); (case side4 => exact HC1_1.out); rintro e w10 ⟨rfl, hb⟩; refine ⟨_, rfl, ?_⟩; have n0_ := Aside0.mk (blk_below (g := gb101) (o := .cells #[.slice A1_0 l1_0.length c1_0, .slice A1_1 l1_1.length c1_1] 25 (0, 0)) (by (with_reducible repeat (first | refine blk_drewN ?_ _ | refine blk_drew ?_ | refine blk_alloc ?_ _)); exact BK101.out) hb); have n1_ := Aside0.mk (below_step (by repeat (first | (with_reducible first | exact HB.out | apply below_alloc | apply pw_below_drewN | apply below_drew1 | refine below_set ?_ GE101.out) | exact HB.out)) hb); clear BK101; clear HB; have BK101 := n0_; have HB := n1_; clear n0_ n1_; (try clear hb); (try clear hb2); (try clear hk); (try clear hi)))
      go_ret
      exact ⟨by first | rfl | (simp [errW_none, errW_some] <;> rfl) | (simp [*, errW_none, errW_some] <;> rfl), by repeat (first | (with_reducible first | exact HB.out | apply below_alloc | apply pw_below_drewN | apply below_drew1 | refine below_set ?_ GE101.out) | exact HB.out)⟩
    · rw [if_neg c7] at H
      have c7b0 : decide (t103 < 0) = false := decide_eq_false c7
      clear c7
      replace H := Option.bind_eq_some_iff.mp H
      obtain ⟨t104, A110, H⟩ := H
      replace H : ((laws_toSchedule.f k l1_0 l1_1).bind fun bt107 => ((spec_Missed.f k t104 bt107.1 bt107.2).bind fun t113 => ((laws_toJobS.f k l0).bind fun t116 => ((laws_toSchedule.f k l1_0 l1_1).bind fun bt119 => ((impl_Missed.f t116 bt119.1 bt119.2).bind fun t126 => ((laws_eqIntS.f k t126 t113).bind fun t129 => (if t129 = true then ((laws_toJobS.f k l0).bind fun t130 => ((laws_eqJobS.f k t116 t130).bind fun t133 => (if t133 = true then ((laws_toSchedule.f k l1_0 l1_1).bind fun bt134 => ((laws_eqSchedule.f k bt119.1 bt119.2 bt134.1 bt134.2).bind fun t140 => (if t140 = true then ((laws_markJobS.f k t116 1).bind fun bt141 => ((laws_markSchedule.f k bt119.1 bt119.2 bt141.1).bind fun bt143 => (if bt143.1 < 0 then (laws_FnExactMissed.j0 k l0 t113 t126 true l1_0 l1_1) else ((laws_eqIntS.f k t126 t113).bind fun t146 => (laws_FnExactMissed.j0 k l0 t113 t126 (!t146) l1_0 l1_1))))) else (some false)))) else (some false)))) else (some false)))))))) = some true := H
      have A11 := Aside0.mk A110
      clear A110
      replace H := Option.bind_eq_some_iff.mp H
      obtain ⟨⟨t107, t110⟩, A120, H⟩ := H
      replace H : ((spec_Missed.f k t104 t107 t110).bind fun t113 => ((laws_toJobS.f k l0).bind fun t116 => ((laws_toSchedule.f k l1_0 l1_1).bind fun bt119 => ((impl_Missed.f t116 bt119.1 bt119.2).bind fun t126 => ((laws_eqIntS.f k t126 t113).bind fun t129 => (if t129 = true then ((laws_toJobS.f k l0).bind fun t130 => ((laws_eqJobS.f k t116 t130).bind fun t133 => (if t133 = true then ((laws_toSchedule.f k l1_0 l1_1).bind fun bt134 => ((laws_eqSchedule.f k bt119.1 bt119.2 bt134.1 bt134.2).bind fun t140 => (if t140 = true then ((laws_markJobS.f k t116 1).bind fun bt141 => ((laws_markSchedule.f k bt119.1 bt119.2 bt141.1).bind fun bt143 => (if bt143.1 < 0 then (laws_FnExactMissed.j0 k l0 t113 t126 true l1_0 l1_1) else ((laws_eqIntS.f k t126 t113).bind fun t146 => (laws_FnExactMissed.j0 k l0 t113 t126 (!t146) l1_0 l1_1))))) else (some false)))) else (some false)))) else (some false))))))) = some true := H
      have A12 := Aside0.mk A120
      clear A120
      replace H := Option.bind_eq_some_iff.mp H
      obtain ⟨t113, A130, H⟩ := H
      replace H : ((laws_toJobS.f k l0).bind fun t116 => ((laws_toSchedule.f k l1_0 l1_1).bind fun bt119 => ((impl_Missed.f t116 bt119.1 bt119.2).bind fun t126 => ((laws_eqIntS.f k t126 t113).bind fun t129 => (if t129 = true then ((laws_toJobS.f k l0).bind fun t130 => ((laws_eqJobS.f k t116 t130).bind fun t133 => (if t133 = true then ((laws_toSchedule.f k l1_0 l1_1).bind fun bt134 => ((laws_eqSchedule.f k bt119.1 bt119.2 bt134.1 bt134.2).bind fun t140 => (if t140 = true then ((laws_markJobS.f k t116 1).bind fun bt141 => ((laws_markSchedule.f k bt119.1 bt119.2 bt141.1).bind fun bt143 => (if bt143.1 < 0 then (laws_FnExactMissed.j0 k l0 t113 t126 true l1_0 l1_1) else ((laws_eqIntS.f k t126 t113).bind fun t146 => (laws_FnExactMissed.j0 k l0 t113 t126 (!t146) l1_0 l1_1))))) else (some false)))) else (some false)))) else (some false)))))) = some true := H
      have A13 := Aside0.mk A130
      clear A130
      replace H := Option.bind_eq_some_iff.mp H
      obtain ⟨t116, A140, H⟩ := H
      replace H : ((laws_toSchedule.f k l1_0 l1_1).bind fun bt119 => ((impl_Missed.f t116 bt119.1 bt119.2).bind fun t126 => ((laws_eqIntS.f k t126 t113).bind fun t129 => (if t129 = true then ((laws_toJobS.f k l0).bind fun t130 => ((laws_eqJobS.f k t116 t130).bind fun t133 => (if t133 = true then ((laws_toSchedule.f k l1_0 l1_1).bind fun bt134 => ((laws_eqSchedule.f k bt119.1 bt119.2 bt134.1 bt134.2).bind fun t140 => (if t140 = true then ((laws_markJobS.f k t116 1).bind fun bt141 => ((laws_markSchedule.f k bt119.1 bt119.2 bt141.1).bind fun bt143 => (if bt143.1 < 0 then (laws_FnExactMissed.j0 k l0 t113 t126 true l1_0 l1_1) else ((laws_eqIntS.f k t126 t113).bind fun t146 => (laws_FnExactMissed.j0 k l0 t113 t126 (!t146) l1_0 l1_1))))) else (some false)))) else (some false)))) else (some false))))) = some true := H
      have A14 := Aside0.mk A140
      clear A140
      replace H := Option.bind_eq_some_iff.mp H
      obtain ⟨⟨t119, t122⟩, A150, H⟩ := H
      replace H : ((impl_Missed.f t116 t119 t122).bind fun t126 => ((laws_eqIntS.f k t126 t113).bind fun t129 => (if t129 = true then ((laws_toJobS.f k l0).bind fun t130 => ((laws_eqJobS.f k t116 t130).bind fun t133 => (if t133 = true then ((laws_toSchedule.f k l1_0 l1_1).bind fun bt134 => ((laws_eqSchedule.f k t119 t122 bt134.1 bt134.2).bind fun t140 => (if t140 = true then ((laws_markJobS.f k t116 1).bind fun bt141 => ((laws_markSchedule.f k t119 t122 bt141.1).bind fun bt143 => (if bt143.1 < 0 then (laws_FnExactMissed.j0 k l0 t113 t126 true l1_0 l1_1) else ((laws_eqIntS.f k t126 t113).bind fun t146 => (laws_FnExactMissed.j0 k l0 t113 t126 (!t146) l1_0 l1_1))))) else (some false)))) else (some false)))) else (some false)))) = some true := H
      have A15 := Aside0.mk A150
      clear A150
      replace H := Option.bind_eq_some_iff.mp H
      obtain ⟨t126, A160, H⟩ := H
      replace H : ((laws_eqIntS.f k t126 t113).bind fun t129 => (if t129 = true then ((laws_toJobS.f k l0).bind fun t130 => ((laws_eqJobS.f k t116 t130).bind fun t133 => (if t133 = true then ((laws_toSchedule.f k l1_0 l1_1).bind fun bt134 => ((laws_eqSchedule.f k t119 t122 bt134.1 bt134.2).bind fun t140 => (if t140 = true then ((laws_markJobS.f k t116 1).bind fun bt141 => ((laws_markSchedule.f k t119 t122 bt141.1).bind fun bt143 => (if bt143.1 < 0 then (laws_FnExactMissed.j0 k l0 t113 t126 true l1_0 l1_1) else ((laws_eqIntS.f k t126 t113).bind fun t146 => (laws_FnExactMissed.j0 k l0 t113 t126 (!t146) l1_0 l1_1))))) else (some false)))) else (some false)))) else (some false))) = some true := H
      have A16 := Aside0.mk A160
      clear A160
      replace H := Option.bind_eq_some_iff.mp H
      obtain ⟨t129, A170, H⟩ := H
      replace H : (if t129 = true then ((laws_toJobS.f k l0).bind fun t130 => ((laws_eqJobS.f k t116 t130).bind fun t133 => (if t133 = true then ((laws_toSchedule.f k l1_0 l1_1).bind fun bt134 => ((laws_eqSchedule.f k t119 t122 bt134.1 bt134.2).bind fun t140 => (if t140 = true then ((laws_markJobS.f k t116 1).bind fun bt141 => ((laws_markSchedule.f k t119 t122 bt141.1).bind fun bt143 => (if bt143.1 < 0 then (laws_FnExactMissed.j0 k l0 t113 t126 true l1_0 l1_1) else ((laws_eqIntS.f k t126 t113).bind fun t146 => (laws_FnExactMissed.j0 k l0 t113 t126 (!t146) l1_0 l1_1))))) else (some false)))) else (some false)))) else (some false)) = some true := H
      have A17 := Aside0.mk A170
      clear A170
      by_cases c18 : t129 = true
      · subst c18
        have H1 : ((laws_toJobS.f k l0).bind fun t130 => ((laws_eqJobS.f k t116 t130).bind fun t133 => (if t133 = true then ((laws_toSchedule.f k l1_0 l1_1).bind fun bt134 => ((laws_eqSchedule.f k t119 t122 bt134.1 bt134.2).bind fun t140 => (if t140 = true then ((laws_markJobS.f k t116 1).bind fun bt141 => ((laws_markSchedule.f k t119 t122 bt141.1).bind fun bt143 => (if bt143.1 < 0 then (laws_FnExactMissed.j0 k l0 t113 t126 true l1_0 l1_1) else ((laws_eqIntS.f k t126 t113).bind fun t146 => (laws_FnExactMissed.j0 k l0 t113 t126 (!t146) l1_0 l1_1))))) else (some false)))) else (some false)))) = some true := by rw [if_pos rfl] at H; exact H
        clear H
        have H := H1
        clear H1
        replace H := Option.bind_eq_some_iff.mp H
        obtain ⟨t130, A190, H⟩ := H
        replace H : ((laws_eqJobS.f k t116 t130).bind fun t133 => (if t133 = true then ((laws_toSchedule.f k l1_0 l1_1).bind fun bt134 => ((laws_eqSchedule.f k t119 t122 bt134.1 bt134.2).bind fun t140 => (if t140 = true then ((laws_markJobS.f k t116 1).bind fun bt141 => ((laws_markSchedule.f k t119 t122 bt141.1).bind fun bt143 => (if bt143.1 < 0 then (laws_FnExactMissed.j0 k l0 t113 t126 true l1_0 l1_1) else ((laws_eqIntS.f k t126 t113).bind fun t146 => (laws_FnExactMissed.j0 k l0 t113 t126 (!t146) l1_0 l1_1))))) else (some false)))) else (some false))) = some true := H
        have A19 := Aside0.mk A190
        clear A190
        replace H := Option.bind_eq_some_iff.mp H
        obtain ⟨t133, A200, H⟩ := H
        replace H : (if t133 = true then ((laws_toSchedule.f k l1_0 l1_1).bind fun bt134 => ((laws_eqSchedule.f k t119 t122 bt134.1 bt134.2).bind fun t140 => (if t140 = true then ((laws_markJobS.f k t116 1).bind fun bt141 => ((laws_markSchedule.f k t119 t122 bt141.1).bind fun bt143 => (if bt143.1 < 0 then (laws_FnExactMissed.j0 k l0 t113 t126 true l1_0 l1_1) else ((laws_eqIntS.f k t126 t113).bind fun t146 => (laws_FnExactMissed.j0 k l0 t113 t126 (!t146) l1_0 l1_1))))) else (some false)))) else (some false)) = some true := H
        have A20 := Aside0.mk A200
        clear A200
        by_cases c21 : t133 = true
        · subst c21
          have H1 : ((laws_toSchedule.f k l1_0 l1_1).bind fun bt134 => ((laws_eqSchedule.f k t119 t122 bt134.1 bt134.2).bind fun t140 => (if t140 = true then ((laws_markJobS.f k t116 1).bind fun bt141 => ((laws_markSchedule.f k t119 t122 bt141.1).bind fun bt143 => (if bt143.1 < 0 then (laws_FnExactMissed.j0 k l0 t113 t126 true l1_0 l1_1) else ((laws_eqIntS.f k t126 t113).bind fun t146 => (laws_FnExactMissed.j0 k l0 t113 t126 (!t146) l1_0 l1_1))))) else (some false)))) = some true := by rw [if_pos rfl] at H; exact H
          clear H
          have H := H1
          clear H1
          replace H := Option.bind_eq_some_iff.mp H
          obtain ⟨⟨t134, t137⟩, A220, H⟩ := H
          replace H : ((laws_eqSchedule.f k t119 t122 t134 t137).bind fun t140 => (if t140 = true then ((laws_markJobS.f k t116 1).bind fun bt141 => ((laws_markSchedule.f k t119 t122 bt141.1).bind fun bt143 => (if bt143.1 < 0 then (laws_FnExactMissed.j0 k l0 t113 t126 true l1_0 l1_1) else ((laws_eqIntS.f k t126 t113).bind fun t146 => (laws_FnExactMissed.j0 k l0 t113 t126 (!t146) l1_0 l1_1))))) else (some false))) = some true := H
          have A22 := Aside0.mk A220
          clear A220
          replace H := Option.bind_eq_some_iff.mp H
          obtain ⟨t140, A230, H⟩ := H
          replace H : (if t140 = true then ((laws_markJobS.f k t116 1).bind fun bt141 => ((laws_markSchedule.f k t119 t122 bt141.1).bind fun bt143 => (if bt143.1 < 0 then (laws_FnExactMissed.j0 k l0 t113 t126 true l1_0 l1_1) else ((laws_eqIntS.f k t126 t113).bind fun t146 => (laws_FnExactMissed.j0 k l0 t113 t126 (!t146) l1_0 l1_1))))) else (some false)) = some true := H
          have A23 := Aside0.mk A230
          clear A230
          by_cases c24 : t140 = true
          · subst c24
            have H1 : ((laws_markJobS.f k t116 1).bind fun bt141 => ((laws_markSchedule.f k t119 t122 bt141.1).bind fun bt143 => (if bt143.1 < 0 then (laws_FnExactMissed.j0 k l0 t113 t126 true l1_0 l1_1) else ((laws_eqIntS.f k t126 t113).bind fun t146 => (laws_FnExactMissed.j0 k l0 t113 t126 (!t146) l1_0 l1_1))))) = some true := by rw [if_pos rfl] at H; exact H
            clear H
            have H := H1
            clear H1
            replace H := Option.bind_eq_some_iff.mp H
            obtain ⟨⟨t141, t142⟩, A250, H⟩ := H
            replace H : ((laws_markSchedule.f k t119 t122 t141).bind fun bt143 => (if bt143.1 < 0 then (laws_FnExactMissed.j0 k l0 t113 t126 true l1_0 l1_1) else ((laws_eqIntS.f k t126 t113).bind fun t146 => (laws_FnExactMissed.j0 k l0 t113 t126 (!t146) l1_0 l1_1)))) = some true := H
            have A25 := Aside0.mk A250
            clear A250
            replace H := Option.bind_eq_some_iff.mp H
            obtain ⟨⟨t143, t144, t145⟩, A260, H⟩ := H
            replace H : (if t143 < 0 then (laws_FnExactMissed.j0 k l0 t113 t126 true l1_0 l1_1) else ((laws_eqIntS.f k t126 t113).bind fun t146 => (laws_FnExactMissed.j0 k l0 t113 t126 (!t146) l1_0 l1_1))) = some true := H
            have A26 := Aside0.mk A260
            clear A260
            have HC27 := Aside0.mk H
            clear H
            go_enter Try.func3, Try.ntmps3
            try go_wp2_with (first | ((with_reducible refine gate_dst (N := 3) rfl ?_); refine box_event ?hg (N := 3) ?hd (cs := #[.slice A1_0 l1_0.length c1_0, .slice A1_1 l1_1.length c1_1]) (t := 25) ?hr ?_; (case hd => rfl); (case hg => rfl); (case hr => first | (go_simp; done) | (go_simp; rfl)); intro gb101 hg w28 hbox hb; have n0_ := Aside0.mk (below_step (by repeat (first | (with_reducible first | exact HB.out | apply below_alloc | apply pw_below_drewN | apply below_drew1) | exact HB.out)) hb); have n1_ := Aside0.mk (hbox); have n2_ := Aside0.mk ((by rw [hg]; exact (below_size (by repeat (first | (with_reducible first | exact HB.out | apply below_alloc | apply pw_below_drewN | apply below_drew1) | exact HB.out))) : w.heap.size ≤ gb101)); have n3_ := Aside0.mk ((by rw [hg]; exact (below_size (by repeat (first | (with_reducible first | exact HB.out | apply below_alloc | apply pw_below_drewN | apply below_drew1) | exact HB.out))) : w.heap.size ≤ gb101)); clear HB; have HB := n0_; have BK101 := n1_; have GW101 := n2_; have GE101 := n3_; clear n0_ n1_ n2_ n3_; clear hb hbox hg) | ((with_reducible refine gate_callee (f := 15) rfl ?_); refine goesL_ (some 16) rfl rfl Try.func15 (by kernel_rfl) rfl #[.slice A0 l0.length c0, .int .i64 1048576] rfl (by (try simp only [List.map_toArray, List.map_cons, List.map_nil]); first | done | rfl | (simp only [List.length_drop, List.length_take]; rfl)) ?_; (with_reducible refine (laws_szJobS.calls _ _ l0 1048576 t102 _ ?side1 ?side2 A3.out).mono ?_); (case side1 => repeat (first | exact (Kd.C_below HR0.out HB.out) | (with_reducible refine Kd.C_alloc ?_ _) | (with_reducible refine Kd.C_drewN ?_ _) | (with_reducible refine Kd.C_drew ?_))); (case side2 => exact HC0.out); rintro e w' ⟨rfl, ⟨nd, rfl⟩⟩; refine ⟨_, rfl, ?_⟩; (try (rw [drewN_self w28]; generalize hq_ : World.drewN w28 _ = w28; have n0_ : Aside0 (w28.heap[gb101]? = some (.cells #[.slice A1_0 l1_0.length c1_0, .slice A1_1 l1_1.length c1_1] 25 (0, 0))) := ⟨by rw [← hq_]; exact (by (with_reducible repeat (first | refine blk_drewN ?_ _ | refine blk_drew ?_ | refine blk_alloc ?_ _)); exact BK101.out)⟩; have n1_ : Aside0 (Below w.heap.size w w28) := ⟨by rw [← hq_]; exact (by repeat (first | (with_reducible first | exact HB.out | apply below_alloc | apply pw_below_drewN | apply below_drew1 | refine below_set ?_ GE101.out) | exact HB.out))⟩; clear BK101 HB hq_; have BK101 := n0_; have HB := n1_; clear n0_ n1_)); have hcz29_0 : w28.cell? ⟨gb101, 0, none⟩ = some (.slice A1_0 l1_0.length c1_0) := (blk_cell BK101.out 0).trans rfl; have hcz29_1 : w28.cell? ⟨gb101, 1, none⟩ = some (.slice A1_1 l1_1.length c1_1) := (blk_cell BK101.out 1).trans rfl; have hfz29_0 := blk_frozen BK101.out 0; have hfz29_1 := blk_frozen BK101.out 1) | ((with_reducible refine gate_callee (f := 16) rfl ?_); refine goesL_ (some 21) rfl rfl Try.func16 (by kernel_rfl) rfl #[.agg #[.slice A1_0 l1_0.length c1_0, .slice A1_1 l1_1.length c1_1], .int .i64 t102] rfl (by (try simp only [List.map_toArray, List.map_cons, List.map_nil]); first | done | rfl | (simp only [List.length_drop, List.length_take]; rfl)) ?_; (with_reducible refine (laws_szSchedule.calls _ _ l1_0 _ _ l1_1 t102 t103 _ ?side1 ?side2 ?side3 ?side4 A6.out).mono ?_); (case side1 => repeat (first | exact (Kd.C_below HR1_0.out HB.out) | (with_reducible refine Kd.C_alloc ?_ _) | (with_reducible refine Kd.C_drewN ?_ _) | (with_reducible refine Kd.C_drew ?_))); (case side2 => exact HC1_0.out); (case side3 => repeat (first | exact (Kd.C_below HR1_1.out HB.out) | (with_reducible refine Kd.C_alloc ?_ _) | (with_reducible refine Kd.C_drewN ?_ _) | (with_reducible refine Kd.C_drew ?_))); (case side4 => exact HC1_1.out); rintro e w30 ⟨rfl, hb⟩; refine ⟨_, rfl, ?_⟩; have n0_ := Aside0.mk (blk_below (g := gb101) (o := .cells #[.slice A1_0 l1_0.length c1_0, .slice A1_1 l1_1.length c1_1] 25 (0, 0)) (by (with_reducible repeat (first | refine blk_drewN ?_ _ | refine blk_drew ?_ | refine blk_alloc ?_ _)); exact BK101.out) hb); have n1_ := Aside0.mk (below_step (by repeat (first | (with_reducible first | exact HB.out | apply below_alloc | apply pw_below_drewN | apply below_drew1 | refine below_set ?_ GE101.out) | exact HB.out)) hb); clear BK101; clear HB; have BK101 := n0_; have HB := n1_; clear n0_ n1_; (try clear hb); (try clear hb2); (try clear hk); (try clear hi)))
            have n0_ := Aside0.mk (blk_drew BK101.out)
            have n1_ := Aside0.mk (below_drew1 HB.out)
            clear BK101
            clear HB
            have BK101 := n0_
            have HB := n1_
            clear n0_ n1_
            refine start_ (n := 6) (S := fun w' => w'.cell? ⟨gb101, 0, none⟩ = some (.slice A1_0 l1_0.length c1_0) ∧ w'.cell? ⟨gb101, 1, none⟩ = some (.slice A1_1 l1_1.length c1_1)) (ds := []) #[false, false, false, false, false, false] (by kernel_rfl) rfl rfl ⟨(blk_cell BK101.out 0).trans rfl, (blk_cell BK101.out 1).trans rfl⟩ (fun hHeld => ?_)
            generalize w30.drew = w31 at BK101 HB hHeld ⊢
            refine pure_ (i := 0) (N := some 24) (v := ?_) (a' := ?_) #[true, false, false, false, false, false] rfl rfl (by kernel_rfl) (fun _ _ _ h => h) (Or.inl ⟨by rfl, ?_⟩) ?_ ?_
            rotate_left
            · intro w'
              go_simp
              with_reducible rfl
            rotate_left
            · simp only [Act.put, List.setIfInBounds_toArray, List.set_cons_zero, List.set_cons_succ, i64_w, i32_w]
              rfl
            refine take_ (i := 2) (N := some 26) (v := ?_) (a' := ?_) #[true, false, true, false, false, false] rfl rfl (by kernel_rfl) (fun _ _ _ h => h) (Or.inl ⟨by rfl, ?_⟩) hHeld ?_ ?_
            rotate_left
            · rintro w' ⟨s0, s1⟩
              go_simp
              with_reducible rfl
            rotate_left
            · simp only [Act.put, List.setIfInBounds_toArray, List.set_cons_zero, List.set_cons_succ, i64_w, i32_w]
              rfl
            refine one_ (i := 1) (N := some 25) #[true, true, true, false, false, false] rfl rfl (by kernel_rfl) (by decide) (fun K hK => ?_)
            refine goes_ Try.func18 (by kernel_rfl) rfl #[.slice A0 l0.length c0] (by rfl) rfl rfl (by (try simp only [List.map_toArray, List.map_cons, List.map_nil]); first | done | rfl | (simp only [List.length_drop, List.length_take]; rfl)) ?_
            with_reducible refine (laws_toJobS.callsRR k _ _ l0 t104 _ ?side1 ?side2 A11.out).mono ?_
            (case side1 => repeat (first | exact (Kd.C_below HR0.out HB.out) | (with_reducible refine Kd.C_alloc ?_ _) | (with_reducible refine Kd.C_drewN ?_ _) | (with_reducible refine Kd.C_drew ?_)))
            (case side2 => exact HC0.out)
            rintro e w32 ⟨v105, rfl, ho0, hb⟩
            refine ⟨_, rfl, ?_⟩
            have n0_ := Aside0.mk (Kd.RR_lower ho0 (below_size (by repeat (first | (with_reducible first | exact HB.out | apply below_alloc | apply pw_below_drewN | apply below_drew1 | refine below_set ?_ GE101.out) | exact HB.out))))
            have n1_ := Aside0.mk (blk_below (g := gb101) (o := .cells #[.slice A1_0 l1_0.length c1_0, .slice A1_1 l1_1.length c1_1] 25 (0, 0)) (by (with_reducible repeat (first | refine blk_drewN ?_ _ | refine blk_drew ?_ | refine blk_alloc ?_ _)); exact BK101.out) hb)
            have n2_ := Aside0.mk (below_step (by repeat (first | (with_reducible first | exact HB.out | apply below_alloc | apply pw_below_drewN | apply below_drew1 | refine below_set ?_ GE101.out) | exact HB.out)) hb)
            clear BK101
            clear HB
            have HO106 := n0_
            have BK101 := n1_
            have HB := n2_
            clear n0_ n1_ n2_
            (try clear hb)
            (try clear hb2)
            (try clear hk)
            (try clear hi)
            (try clear ho0)
            refine hK.out _ _ ⟨(blk_cell BK101.out 0).trans rfl, (blk_cell BK101.out 1).trans rfl⟩ (fun hHeld => ?_)
            clear hK K
            refine norm_ (a' := ?_) ?_ ?_
            rotate_left
            · show Act.put _ (some 25) _ = _
              simp only [Act.put, List.setIfInBounds_toArray, List.set_cons_zero, List.set_cons_succ, i64_w, i32_w]
              rfl
            refine one_ (i := 3) (N := some 27) #[true, true, true, true, false, false] rfl rfl (by kernel_rfl) (by decide) (fun K hK => ?_)
            refine goes_ Try.func19 (by kernel_rfl) rfl #[.agg #[.slice A1_0 l1_0.length c1_0, .slice A1_1 l1_1.length c1_1]] (by rfl) rfl rfl (by (try simp only [List.map_toArray, List.map_cons, List.map_nil]); first | done | rfl | (simp only [List.length_drop, List.length_take]; rfl)) ?_
            with_reducible refine (laws_toSchedule.callsRR k _ _ l1_0 _ _ l1_1 t107 t110 _ ?side1 ?side2 ?side3 ?side4 A12.out).mono ?_
            (case side1 => repeat (first | exact (Kd.C_below HR1_0.out HB.out) | (with_reducible refine Kd.C_alloc ?_ _) | (with_reducible refine Kd.C_drewN ?_ _) | (with_reducible refine Kd.C_drew ?_)))
            (case side2 => exact HC1_0.out)
            (case side3 => repeat (first | exact (Kd.C_below HR1_1.out HB.out) | (with_reducible refine Kd.C_alloc ?_ _) | (with_reducible refine Kd.C_drewN ?_ _) | (with_reducible refine Kd.C_drew ?_)))
            (case side4 => exact HC1_1.out)
            rintro e w33 ⟨v108, v111, rfl, ho0, ho1, hb⟩
            refine ⟨_, rfl, ?_⟩
            have n0_ := Aside0.mk (Kd.RR_below (by (with_reducible repeat (first | apply Kd.RR_alloc | apply Kd.RR_drewN | apply Kd.RR_drew)); exact HO106.out) hb)
            have n1_ := Aside0.mk (Kd.RR_lower ho0 (below_size (by repeat (first | (with_reducible first | exact HB.out | apply below_alloc | apply pw_below_drewN | apply below_drew1 | refine below_set ?_ GE101.out) | exact HB.out))))
            have n2_ := Aside0.mk (Kd.RR_lower ho1 (below_size (by repeat (first | (with_reducible first | exact HB.out | apply below_alloc | apply pw_below_drewN | apply below_drew1 | refine below_set ?_ GE101.out) | exact HB.out))))
            have n3_ := Aside0.mk (blk_below (g := gb101) (o := .cells #[.slice A1_0 l1_0.length c1_0, .slice A1_1 l1_1.length c1_1] 25 (0, 0)) (by (with_reducible repeat (first | refine blk_drewN ?_ _ | refine blk_drew ?_ | refine blk_alloc ?_ _)); exact BK101.out) hb)
            have n4_ := Aside0.mk (below_step (by repeat (first | (with_reducible first | exact HB.out | apply below_alloc | apply pw_below_drewN | apply below_drew1 | refine below_set ?_ GE101.out) | exact HB.out)) hb)
            clear HO106
            clear BK101
            clear HB
            have HO106 := n0_
            have HO109 := n1_
            have HO112 := n2_
            have BK101 := n3_
            have HB := n4_
            clear n0_ n1_ n2_ n3_ n4_
            (try clear hb)
            (try clear hb2)
            (try clear hk)
            (try clear hi)
            (try clear ho0)
            (try clear ho1)
            obtain ⟨Ao34, co34, eo34⟩ := Kd.RR_slice HO106.out
            (first | subst eo34 | (injection eo34 with f1_ f2_ f3_; have f4_ := f1_.symm; have f5_ := f3_.symm; clear f1_ f2_ f3_; subst f4_; subst f5_))
            obtain ⟨Ao35, co35, eo35⟩ := Kd.RR_slice HO109.out
            (first | subst eo35 | (injection eo35 with f1_ f2_ f3_; have f4_ := f1_.symm; have f5_ := f3_.symm; clear f1_ f2_ f3_; subst f4_; subst f5_))
            obtain ⟨Ao36, co36, eo36⟩ := Kd.RR_slice HO112.out
            (first | subst eo36 | (injection eo36 with f1_ f2_ f3_; have f4_ := f1_.symm; have f5_ := f3_.symm; clear f1_ f2_ f3_; subst f4_; subst f5_))
            refine hK.out _ _ ⟨(blk_cell BK101.out 0).trans rfl, (blk_cell BK101.out 1).trans rfl⟩ (fun hHeld => ?_)
            clear hK K
            refine norm_ (a' := ?_) ?_ ?_
            rotate_left
            · show Act.put _ (some 27) _ = _
              simp only [Act.put, List.setIfInBounds_toArray, List.set_cons_zero, List.set_cons_succ, i64_w, i32_w]
              rfl
            refine one_ (i := 4) (N := some 28) #[true, true, true, true, true, false] rfl rfl (by kernel_rfl) (by decide) (fun K hK => ?_)
            refine goes_ Try.func17 (by kernel_rfl) rfl #[.slice Ao34 t104.length co34, .agg #[.slice Ao35 t107.length co35, .slice Ao36 t110.length co36]] (by rfl) rfl rfl (by (try simp only [List.map_toArray, List.map_cons, List.map_nil]); first | done | rfl | (simp only [List.length_drop, List.length_take]; rfl)) ?_
            with_reducible refine (spec_Missed.callsRR k _ _ t104 _ _ t107 _ _ t110 t113 _ ?side1 ?side2 ?side3 ?side4 ?side5 ?side6 A13.out).mono ?_
            (case side1 => repeat (first | exact (Kd.RR_reads' HO106.out).2.2 | (with_reducible refine Kd.C_alloc ?_ _) | (with_reducible refine Kd.C_drewN ?_ _) | (with_reducible refine Kd.C_drew ?_)))
            (case side2 => exact (Kd.RR_reads' HO106.out).2.1)
            (case side3 => repeat (first | exact (Kd.RR_reads' HO109.out).2.2 | (with_reducible refine Kd.C_alloc ?_ _) | (with_reducible refine Kd.C_drewN ?_ _) | (with_reducible refine Kd.C_drew ?_)))
            (case side4 => exact (Kd.RR_reads' HO109.out).2.1)
            (case side5 => repeat (first | exact (Kd.RR_reads' HO112.out).2.2 | (with_reducible refine Kd.C_alloc ?_ _) | (with_reducible refine Kd.C_drewN ?_ _) | (with_reducible refine Kd.C_drew ?_)))
            (case side6 => exact (Kd.RR_reads' HO112.out).2.1)
            rintro e w37 ⟨v114, rfl, ho0, hb⟩
            refine ⟨_, rfl, ?_⟩
            have n0_ := Aside0.mk (Kd.RR_below (by (with_reducible repeat (first | apply Kd.RR_alloc | apply Kd.RR_drewN | apply Kd.RR_drew)); exact HO106.out) hb)
            have n1_ := Aside0.mk (Kd.RR_elder' (by (with_reducible repeat (first | apply Kd.RR_alloc | apply Kd.RR_drewN | apply Kd.RR_drew)); exact HO109.out) (Kd.RR_base ho0) hb)
            have n2_ := Aside0.mk (Kd.RR_elder' (by (with_reducible repeat (first | apply Kd.RR_alloc | apply Kd.RR_drewN | apply Kd.RR_drew)); exact HO112.out) (Kd.RR_base ho0) hb)
            have n3_ := Aside0.mk (Kd.RR_lower (Kd.RR_new' (Kd.RR_new' ho0 (Kd.RR_lt (by (with_reducible repeat (first | apply Kd.RR_alloc | apply Kd.RR_drewN | apply Kd.RR_drew)); exact HO109.out))) (Kd.RR_lt (by (with_reducible repeat (first | apply Kd.RR_alloc | apply Kd.RR_drewN | apply Kd.RR_drew)); exact HO112.out))) (below_size (by repeat (first | (with_reducible first | exact HB.out | apply below_alloc | apply pw_below_drewN | apply below_drew1 | refine below_set ?_ GE101.out) | exact HB.out))))
            have n4_ := Aside0.mk (blk_below (g := gb101) (o := .cells #[.slice A1_0 l1_0.length c1_0, .slice A1_1 l1_1.length c1_1] 25 (0, 0)) (by (with_reducible repeat (first | refine blk_drewN ?_ _ | refine blk_drew ?_ | refine blk_alloc ?_ _)); exact BK101.out) hb)
            have n5_ := Aside0.mk (below_step (by repeat (first | (with_reducible first | exact HB.out | apply below_alloc | apply pw_below_drewN | apply below_drew1 | refine below_set ?_ GE101.out) | exact HB.out)) hb)
            clear HO106
            clear HO109
            clear HO112
            clear BK101
            clear HB
            have HO106 := n0_
            have HO109 := n1_
            have HO112 := n2_
            have HO115 := n3_
            have BK101 := n4_
            have HB := n5_
            clear n0_ n1_ n2_ n3_ n4_ n5_
            (try clear hb)
            (try clear hb2)
            (try clear hk)
            (try clear hi)
            (try clear ho0)
            refine hK.out _ _ ⟨(blk_cell BK101.out 0).trans rfl, (blk_cell BK101.out 1).trans rfl⟩ (fun hHeld => ?_)
            clear hK K
            refine norm_ (a' := ?_) ?_ ?_
            rotate_left
            · show Act.put _ (some 28) _ = _
              simp only [Act.put, List.setIfInBounds_toArray, List.set_cons_zero, List.set_cons_succ, i64_w, i32_w]
              rfl
            refine pure_ (i := 5) (N := some 6) (v := ?_) (a' := ?_) #[true, true, true, true, true, true] rfl rfl (by kernel_rfl) (fun _ _ _ h => h) (Or.inl ⟨by rfl, ?_⟩) ?_ ?_
            rotate_left
            · intro w'
              go_simp
              with_reducible rfl
            rotate_left
            · simp only [Act.put, List.setIfInBounds_toArray, List.set_cons_zero, List.set_cons_succ, i64_w, i32_w]
              rfl
            refine done_ (by kernel_rfl) ?_
            try go_wp2_with (first | ((with_reducible refine gate_callee (f := 18) rfl ?_); refine goesL_ (some 30) rfl rfl Try.func18 (by kernel_rfl) rfl #[.slice A0 l0.length c0] rfl (by (try simp only [List.map_toArray, List.map_cons, List.map_nil]); first | done | rfl | (simp only [List.length_drop, List.length_take]; rfl)) ?_; (with_reducible refine (laws_toJobS.callsRR k _ _ l0 t116 _ ?side1 ?side2 A14.out).mono ?_); (case side1 => repeat (first | exact (Kd.C_below HR0.out HB.out) | (with_reducible refine Kd.C_alloc ?_ _) | (with_reducible refine Kd.C_drewN ?_ _) | (with_reducible refine Kd.C_drew ?_))); (case side2 => exact HC0.out); rintro e w38 ⟨v117, rfl, ho0, hb⟩; refine ⟨_, rfl, ?_⟩; have n0_ := Aside0.mk (Kd.RR_elder' (by (with_reducible repeat (first | apply Kd.RR_alloc | apply Kd.RR_drewN | apply Kd.RR_drew)); exact HO106.out) (Kd.RR_base ho0) hb); have n1_ := Aside0.mk (Kd.RR_below (by (with_reducible repeat (first | apply Kd.RR_alloc | apply Kd.RR_drewN | apply Kd.RR_drew)); exact HO109.out) hb); have n2_ := Aside0.mk (Kd.RR_below (by (with_reducible repeat (first | apply Kd.RR_alloc | apply Kd.RR_drewN | apply Kd.RR_drew)); exact HO112.out) hb); have n3_ := Aside0.mk (Kd.RR_below (by (with_reducible repeat (first | apply Kd.RR_alloc | apply Kd.RR_drewN | apply Kd.RR_drew)); exact HO115.out) hb); have n4_ := Aside0.mk (Kd.RR_lower (Kd.RR_new' ho0 (Kd.RR_lt (by (with_reducible repeat (first | apply Kd.RR_alloc | apply Kd.RR_drewN | apply Kd.RR_drew)); exact HO106.out))) (below_size (by repeat (first | (with_reducible first | exact HB.out | apply below_alloc | apply pw_below_drewN | apply below_drew1 | refine below_set ?_ GE101.out) | exact HB.out)))); have n5_ := Aside0.mk (blk_below (g := gb101) (o := .cells #[.slice A1_0 l1_0.length c1_0, .slice A1_1 l1_1.length c1_1] 25 (0, 0)) (by (with_reducible repeat (first | refine blk_drewN ?_ _ | refine blk_drew ?_ | refine blk_alloc ?_ _)); exact BK101.out) hb); have n6_ := Aside0.mk (below_step (by repeat (first | (with_reducible first | exact HB.out | apply below_alloc | apply pw_below_drewN | apply below_drew1 | refine below_set ?_ GE101.out) | exact HB.out)) hb); clear HO106; clear HO109; clear HO112; clear HO115; clear BK101; clear HB; have HO106 := n0_; have HO109 := n1_; have HO112 := n2_; have HO115 := n3_; have HO118 := n4_; have BK101 := n5_; have HB := n6_; clear n0_ n1_ n2_ n3_ n4_ n5_ n6_; (try clear hb); (try clear hb2); (try clear hk); (try clear hi); (try clear ho0); have hcz39_0 : w38.cell? ⟨gb101, 0, none⟩ = some (.slice A1_0 l1_0.length c1_0) := (blk_cell BK101.out 0).trans rfl; have hcz39_1 : w38.cell? ⟨gb101, 1, none⟩ = some (.slice A1_1 l1_1.length c1_1) := (blk_cell BK101.out 1).trans rfl; have hfz39_0 := blk_frozen BK101.out 0; have hfz39_1 := blk_frozen BK101.out 1) | ((with_reducible refine gate_callee (f := 19) rfl ?_); refine goesL_ (some 32) rfl rfl Try.func19 (by kernel_rfl) rfl #[.agg #[.slice A1_0 l1_0.length c1_0, .slice A1_1 l1_1.length c1_1]] rfl (by (try simp only [List.map_toArray, List.map_cons, List.map_nil]); first | done | rfl | (simp only [List.length_drop, List.length_take]; rfl)) ?_; (with_reducible refine (laws_toSchedule.callsRR k _ _ l1_0 _ _ l1_1 t119 t122 _ ?side1 ?side2 ?side3 ?side4 A15.out).mono ?_); (case side1 => repeat (first | exact (Kd.C_below HR1_0.out HB.out) | (with_reducible refine Kd.C_alloc ?_ _) | (with_reducible refine Kd.C_drewN ?_ _) | (with_reducible refine Kd.C_drew ?_))); (case side2 => exact HC1_0.out); (case side3 => repeat (first | exact (Kd.C_below HR1_1.out HB.out) | (with_reducible refine Kd.C_alloc ?_ _) | (with_reducible refine Kd.C_drewN ?_ _) | (with_reducible refine Kd.C_drew ?_))); (case side4 => exact HC1_1.out); rintro e w40 ⟨v120, v123, rfl, ho0, ho1, hb⟩; refine ⟨_, rfl, ?_⟩; have n0_ := Aside0.mk (Kd.RR_below (by (with_reducible repeat (first | apply Kd.RR_alloc | apply Kd.RR_drewN | apply Kd.RR_drew)); exact HO106.out) hb); have n1_ := Aside0.mk (Kd.RR_mono (Kd.RR_told (Kd.RR_told (Kd.RR_old (by (with_reducible repeat (first | apply Kd.RR_alloc | apply Kd.RR_drewN | apply Kd.RR_drew)); exact HO109.out) hb) (Kd.RR_base ho0)) (Kd.RR_base ho1)) (fun _ h_ => h_.1)); have n2_ := Aside0.mk (Kd.RR_mono (Kd.RR_told (Kd.RR_told (Kd.RR_old (by (with_reducible repeat (first | apply Kd.RR_alloc | apply Kd.RR_drewN | apply Kd.RR_drew)); exact HO112.out) hb) (Kd.RR_base ho0)) (Kd.RR_base ho1)) (fun _ h_ => h_.1)); have n3_ := Aside0.mk (Kd.RR_mono (Kd.RR_told (Kd.RR_told (Kd.RR_old (by (with_reducible repeat (first | apply Kd.RR_alloc | apply Kd.RR_drewN | apply Kd.RR_drew)); exact HO115.out) hb) (Kd.RR_base ho0)) (Kd.RR_base ho1)) (fun _ h_ => h_.1)); have n4_ := Aside0.mk (Kd.RR_below (by (with_reducible repeat (first | apply Kd.RR_alloc | apply Kd.RR_drewN | apply Kd.RR_drew)); exact HO118.out) hb); have n5_ := Aside0.mk (Kd.RR_lower (Kd.RR_new' (Kd.RR_new' (Kd.RR_new' ho0 (Kd.RR_lt (by (with_reducible repeat (first | apply Kd.RR_alloc | apply Kd.RR_drewN | apply Kd.RR_drew)); exact HO109.out))) (Kd.RR_lt (by (with_reducible repeat (first | apply Kd.RR_alloc | apply Kd.RR_drewN | apply Kd.RR_drew)); exact HO112.out))) (Kd.RR_lt (by (with_reducible repeat (first | apply Kd.RR_alloc | apply Kd.RR_drewN | apply Kd.RR_drew)); exact HO115.out))) (below_size (by repeat (first | (with_reducible first | exact HB.out | apply below_alloc | apply pw_below_drewN | apply below_drew1 | refine below_set ?_ GE101.out) | exact HB.out)))); have n6_ := Aside0.mk (Kd.RR_lower (Kd.RR_new' (Kd.RR_new' (Kd.RR_new' ho1 (Kd.RR_lt (by (with_reducible repeat (first | apply Kd.RR_alloc | apply Kd.RR_drewN | apply Kd.RR_drew)); exact HO109.out))) (Kd.RR_lt (by (with_reducible repeat (first | apply Kd.RR_alloc | apply Kd.RR_drewN | apply Kd.RR_drew)); exact HO112.out))) (Kd.RR_lt (by (with_reducible repeat (first | apply Kd.RR_alloc | apply Kd.RR_drewN | apply Kd.RR_drew)); exact HO115.out))) (below_size (by repeat (first | (with_reducible first | exact HB.out | apply below_alloc | apply pw_below_drewN | apply below_drew1 | refine below_set ?_ GE101.out) | exact HB.out)))); have n7_ := Aside0.mk (blk_below (g := gb101) (o := .cells #[.slice A1_0 l1_0.length c1_0, .slice A1_1 l1_1.length c1_1] 25 (0, 0)) (by (with_reducible repeat (first | refine blk_drewN ?_ _ | refine blk_drew ?_ | refine blk_alloc ?_ _)); exact BK101.out) hb); have n8_ := Aside0.mk (below_step (by repeat (first | (with_reducible first | exact HB.out | apply below_alloc | apply pw_below_drewN | apply below_drew1 | refine below_set ?_ GE101.out) | exact HB.out)) hb); clear HO106; clear HO109; clear HO112; clear HO115; clear HO118; clear BK101; clear HB; have HO106 := n0_; have HO109 := n1_; have HO112 := n2_; have HO115 := n3_; have HO118 := n4_; have HO121 := n5_; have HO124 := n6_; have BK101 := n7_; have HB := n8_; clear n0_ n1_ n2_ n3_ n4_ n5_ n6_ n7_ n8_; (try clear hb); (try clear hb2); (try clear hk); (try clear hi); (try clear ho0); (try clear ho1)) | ((with_reducible refine gate_dst (N := 8) rfl ?_); refine box_event ?hg (N := 8) ?hd (cs := #[.slice none 0 0, .slice none 0 0]) (t := 31) ?hr ?_; (case hd => rfl); (case hg => rfl); (case hr => first | (go_simp; done) | (go_simp; rfl)); intro gb125 hg w41 hbox hb; have n0_ := Aside0.mk (Kd.RR_below (by (with_reducible repeat (first | apply Kd.RR_alloc | apply Kd.RR_drewN | apply Kd.RR_drew)); exact HO106.out) hb); have n1_ := Aside0.mk (Kd.RR_below (by (with_reducible repeat (first | apply Kd.RR_alloc | apply Kd.RR_drewN | apply Kd.RR_drew)); exact HO109.out) hb); have n2_ := Aside0.mk (Kd.RR_below (by (with_reducible repeat (first | apply Kd.RR_alloc | apply Kd.RR_drewN | apply Kd.RR_drew)); exact HO112.out) hb); have n3_ := Aside0.mk (Kd.RR_below (by (with_reducible repeat (first | apply Kd.RR_alloc | apply Kd.RR_drewN | apply Kd.RR_drew)); exact HO115.out) hb); have n4_ := Aside0.mk (Kd.RR_below (by (with_reducible repeat (first | apply Kd.RR_alloc | apply Kd.RR_drewN | apply Kd.RR_drew)); exact HO118.out) hb); have n5_ := Aside0.mk (Kd.RR_below (by (with_reducible repeat (first | apply Kd.RR_alloc | apply Kd.RR_drewN | apply Kd.RR_drew)); exact HO121.out) hb); have n6_ := Aside0.mk (Kd.RR_below (by (with_reducible repeat (first | apply Kd.RR_alloc | apply Kd.RR_drewN | apply Kd.RR_drew)); exact HO124.out) hb); have n7_ := Aside0.mk (blk_below (g := gb101) (o := .cells #[.slice A1_0 l1_0.length c1_0, .slice A1_1 l1_1.length c1_1] 25 (0, 0)) (by (with_reducible repeat (first | refine blk_drewN ?_ _ | refine blk_drew ?_ | refine blk_alloc ?_ _)); exact BK101.out) hb); have n8_ := Aside0.mk (below_step (by repeat (first | (with_reducible first | exact HB.out | apply below_alloc | apply pw_below_drewN | apply below_drew1 | refine below_set ?_ GE101.out) | exact HB.out)) hb); have n9_ := Aside0.mk (hbox); have n10_ := Aside0.mk ((by rw [hg]; exact (below_size (by repeat (first | (with_reducible first | exact HB.out | apply below_alloc | apply pw_below_drewN | apply below_drew1 | refine below_set ?_ GE101.out) | exact HB.out))) : w.heap.size ≤ gb125)); have n11_ := Aside0.mk ((by rw [hg]; exact (below_size (by repeat (first | (with_reducible first | exact HB.out | apply below_alloc | apply pw_below_drewN | apply below_drew1 | refine below_set ?_ GE101.out) | exact HB.out))) : w.heap.size ≤ gb125)); have n12_ := Aside0.mk ((by rw [hg]; exact Nat.ne_of_lt (blk_lt (g := gb101) (o := .cells #[.slice A1_0 l1_0.length c1_0, .slice A1_1 l1_1.length c1_1] 25 (0, 0)) (by (with_reducible repeat (first | refine blk_drewN ?_ _ | refine blk_drew ?_ | refine blk_alloc ?_ _)); exact BK101.out)) : gb101 ≠ gb125)); have n13_ := Aside0.mk ((by rw [hg]; exact Nat.ne_of_gt (blk_lt (g := gb101) (o := .cells #[.slice A1_0 l1_0.length c1_0, .slice A1_1 l1_1.length c1_1] 25 (0, 0)) (by (with_reducible repeat (first | refine blk_drewN ?_ _ | refine blk_drew ?_ | refine blk_alloc ?_ _)); exact BK101.out)) : gb125 ≠ gb101)); clear HO106; clear HO109; clear HO112; clear HO115; clear HO118; clear HO121; clear HO124; clear BK101; clear HB; have HO106 := n0_; have HO109 := n1_; have HO112 := n2_; have HO115 := n3_; have HO118 := n4_; have HO121 := n5_; have HO124 := n6_; have BK101 := n7_; have HB := n8_; have BK125 := n9_; have GW125 := n10_; have GE125 := n11_; have NB101_125 := n12_; have NB125_101 := n13_; clear n0_ n1_ n2_ n3_ n4_ n5_ n6_ n7_ n8_ n9_ n10_ n11_ n12_ n13_; clear hb hbox hg; obtain ⟨Ao42, co42, eo42⟩ := Kd.RR_slice HO121.out; subst eo42; have hnb43 := NB125_101.out; have hnc43 := NB101_125.out; have hcz44_0 : w41.cell? ⟨gb125, 0, none⟩ = some (.slice none 0 0) := (blk_cell BK125.out 0).trans rfl; have hcz44_1 : w41.cell? ⟨gb125, 1, none⟩ = some (.slice none 0 0) := (blk_cell BK125.out 1).trans rfl; have hfz44_0 := blk_frozen BK125.out 0; have hfz44_1 := blk_frozen BK125.out 1; obtain ⟨Ao45, co45, eo45⟩ := Kd.RR_slice HO124.out; subst eo45; obtain ⟨Ao46, co46, eo46⟩ := Kd.RR_slice HO118.out; subst eo46) | ((with_reducible refine gate_callee (f := 20) rfl ?_); refine goesL_ (some 35) rfl rfl Try.func20 (by kernel_rfl) rfl #[.slice Ao46 t116.length co46, .agg #[.slice Ao42 t119.length co42, .slice Ao45 t122.length co45]] rfl (by (try simp only [List.map_toArray, List.map_cons, List.map_nil]); first | done | rfl | (simp only [List.length_drop, List.length_take]; rfl)) ?_; (with_reducible refine (impl_Missed.calls _ _ t116 _ _ t119 _ _ t122 t126 _ ?side1 ?side2 ?side3 ?side4 ?side5 ?side6 A16.out).mono ?_); (case side1 => refine (Kd.RR_reads' (e := 77) (base := w.heap.size) (ok := fun k_ => (True ∧ some k_ ≠ (.slice Ao34 t104.length co34 : Value).ownBlock)) (n := t116.length) (c := co46) ?_).2.2; exact (by (with_reducible repeat (first | apply Kd.RR_alloc | apply Kd.RR_drewN | apply Kd.RR_drew)); exact (Kd.RR_mono (Kd.RR_far (p := ⟨gb125, 1, none⟩) (Kd.RR_far (p := ⟨gb125, 0, none⟩) (Kd.RR_types HO118.out BK125.out (by decide)) (fun _ hk => hk.2) (.slice Ao42 t119.length co42)) (fun _ hk => hk.2) (.slice Ao45 t122.length co45)) (fun _ h_ => h_.1)))); (case side2 => exact (Kd.RR_reads' HO118.out).2.1); (case side3 => refine (Kd.RR_reads' (e := 3) (base := w.heap.size) (ok := fun k_ => (((some k_ ≠ (.slice Ao45 t122.length co45 : Value).ownBlock ∧ some k_ ≠ (.slice Ao35 t107.length co35 : Value).ownBlock) ∧ some k_ ≠ (.slice Ao36 t110.length co36 : Value).ownBlock) ∧ some k_ ≠ (v114 : Value).ownBlock)) (n := t119.length) (c := co42) ?_).2.2; exact (by (with_reducible repeat (first | apply Kd.RR_alloc | apply Kd.RR_drewN | apply Kd.RR_drew)); exact (Kd.RR_mono (Kd.RR_far (p := ⟨gb125, 1, none⟩) (Kd.RR_far (p := ⟨gb125, 0, none⟩) (Kd.RR_types HO121.out BK125.out (by decide)) (fun _ hk => hk.2) (.slice Ao42 t119.length co42)) (fun _ hk => hk.2) (.slice Ao45 t122.length co45)) (fun _ h_ => h_.1)))); (case side4 => exact (Kd.RR_reads' HO121.out).2.1); (case side5 => refine (Kd.RR_reads' (e := 3) (base := w.heap.size) (ok := fun k_ => (((some k_ ≠ (.slice Ao42 t119.length co42 : Value).ownBlock ∧ some k_ ≠ (.slice Ao35 t107.length co35 : Value).ownBlock) ∧ some k_ ≠ (.slice Ao36 t110.length co36 : Value).ownBlock) ∧ some k_ ≠ (v114 : Value).ownBlock)) (n := t122.length) (c := co45) ?_).2.2; exact (by (with_reducible repeat (first | apply Kd.RR_alloc | apply Kd.RR_drewN | apply Kd.RR_drew)); exact (Kd.RR_mono (Kd.RR_far (p := ⟨gb125, 1, none⟩) (Kd.RR_far (p := ⟨gb125, 0, none⟩) (Kd.RR_types HO124.out BK125.out (by decide)) (fun _ hk => hk.2) (.slice Ao42 t119.length co42)) (fun _ hk => hk.2) (.slice Ao45 t122.length co45)) (fun _ h_ => h_.1)))); (case side6 => exact (Kd.RR_reads' HO124.out).2.1); rintro e w47 ⟨v127, rfl, ho0, hb⟩; refine ⟨_, rfl, ?_⟩; have n0_ := Aside0.mk (Kd.RR_below (by (with_reducible repeat (first | apply Kd.RR_alloc | apply Kd.RR_drewN | apply Kd.RR_drew)); exact (Kd.RR_mono (Kd.RR_far (p := ⟨gb125, 1, none⟩) (Kd.RR_far (p := ⟨gb125, 0, none⟩) (Kd.RR_types HO106.out BK125.out (by decide)) (fun _ hk => hk.2) (.slice Ao42 t119.length co42)) (fun _ hk => hk.2) (.slice Ao45 t122.length co45)) (fun _ h_ => h_.1))) hb); have n1_ := Aside0.mk (Kd.RR_elder' (by (with_reducible repeat (first | apply Kd.RR_alloc | apply Kd.RR_drewN | apply Kd.RR_drew)); exact (Kd.RR_mono (Kd.RR_far (p := ⟨gb125, 1, none⟩) (Kd.RR_far (p := ⟨gb125, 0, none⟩) (Kd.RR_types HO109.out BK125.out (by decide)) (fun _ hk => hk.2) (.slice Ao42 t119.length co42)) (fun _ hk => hk.2) (.slice Ao45 t122.length co45)) (fun _ h_ => h_.1))) (Kd.RR_base ho0) hb); have n2_ := Aside0.mk (Kd.RR_elder' (by (with_reducible repeat (first | apply Kd.RR_alloc | apply Kd.RR_drewN | apply Kd.RR_drew)); exact (Kd.RR_mono (Kd.RR_far (p := ⟨gb125, 1, none⟩) (Kd.RR_far (p := ⟨gb125, 0, none⟩) (Kd.RR_types HO112.out BK125.out (by decide)) (fun _ hk => hk.2) (.slice Ao42 t119.length co42)) (fun _ hk => hk.2) (.slice Ao45 t122.length co45)) (fun _ h_ => h_.1))) (Kd.RR_base ho0) hb); have n3_ := Aside0.mk (Kd.RR_elder' (by (with_reducible repeat (first | apply Kd.RR_alloc | apply Kd.RR_drewN | apply Kd.RR_drew)); exact (Kd.RR_mono (Kd.RR_far (p := ⟨gb125, 1, none⟩) (Kd.RR_far (p := ⟨gb125, 0, none⟩) (Kd.RR_types HO115.out BK125.out (by decide)) (fun _ hk => hk.2) (.slice Ao42 t119.length co42)) (fun _ hk => hk.2) (.slice Ao45 t122.length co45)) (fun _ h_ => h_.1))) (Kd.RR_base ho0) hb); have n4_ := Aside0.mk (Kd.RR_below (by (with_reducible repeat (first | apply Kd.RR_alloc | apply Kd.RR_drewN | apply Kd.RR_drew)); exact (Kd.RR_mono (Kd.RR_far (p := ⟨gb125, 1, none⟩) (Kd.RR_far (p := ⟨gb125, 0, none⟩) (Kd.RR_types HO118.out BK125.out (by decide)) (fun _ hk => hk.2) (.slice Ao42 t119.length co42)) (fun _ hk => hk.2) (.slice Ao45 t122.length co45)) (fun _ h_ => h_.1))) hb); have n5_ := Aside0.mk (Kd.RR_elder' (by (with_reducible repeat (first | apply Kd.RR_alloc | apply Kd.RR_drewN | apply Kd.RR_drew)); exact (Kd.RR_mono (Kd.RR_far (p := ⟨gb125, 1, none⟩) (Kd.RR_far (p := ⟨gb125, 0, none⟩) (Kd.RR_types HO121.out BK125.out (by decide)) (fun _ hk => hk.2) (.slice Ao42 t119.length co42)) (fun _ hk => hk.2) (.slice Ao45 t122.length co45)) (fun _ h_ => h_.1))) (Kd.RR_base ho0) hb); have n6_ := Aside0.mk (Kd.RR_elder' (by (with_reducible repeat (first | apply Kd.RR_alloc | apply Kd.RR_drewN | apply Kd.RR_drew)); exact (Kd.RR_mono (Kd.RR_far (p := ⟨gb125, 1, none⟩) (Kd.RR_far (p := ⟨gb125, 0, none⟩) (Kd.RR_types HO124.out BK125.out (by decide)) (fun _ hk => hk.2) (.slice Ao42 t119.length co42)) (fun _ hk => hk.2) (.slice Ao45 t122.length co45)) (fun _ h_ => h_.1))) (Kd.RR_base ho0) hb); have n7_ := Aside0.mk (Kd.RR_lower (Kd.RR_new' (Kd.RR_new' (Kd.RR_new' (Kd.RR_new' (Kd.RR_new' ho0 (Kd.RR_lt (by (with_reducible repeat (first | apply Kd.RR_alloc | apply Kd.RR_drewN | apply Kd.RR_drew)); exact (Kd.RR_mono (Kd.RR_far (p := ⟨gb125, 1, none⟩) (Kd.RR_far (p := ⟨gb125, 0, none⟩) (Kd.RR_types HO109.out BK125.out (by decide)) (fun _ hk => hk.2) (.slice Ao42 t119.length co42)) (fun _ hk => hk.2) (.slice Ao45 t122.length co45)) (fun _ h_ => h_.1))))) (Kd.RR_lt (by (with_reducible repeat (first | apply Kd.RR_alloc | apply Kd.RR_drewN | apply Kd.RR_drew)); exact (Kd.RR_mono (Kd.RR_far (p := ⟨gb125, 1, none⟩) (Kd.RR_far (p := ⟨gb125, 0, none⟩) (Kd.RR_types HO112.out BK125.out (by decide)) (fun _ hk => hk.2) (.slice Ao42 t119.length co42)) (fun _ hk => hk.2) (.slice Ao45 t122.length co45)) (fun _ h_ => h_.1))))) (Kd.RR_lt (by (with_reducible repeat (first | apply Kd.RR_alloc | apply Kd.RR_drewN | apply Kd.RR_drew)); exact (Kd.RR_mono (Kd.RR_far (p := ⟨gb125, 1, none⟩) (Kd.RR_far (p := ⟨gb125, 0, none⟩) (Kd.RR_types HO115.out BK125.out (by decide)) (fun _ hk => hk.2) (.slice Ao42 t119.length co42)) (fun _ hk => hk.2) (.slice Ao45 t122.length co45)) (fun _ h_ => h_.1))))) (Kd.RR_lt (by (with_reducible repeat (first | apply Kd.RR_alloc | apply Kd.RR_drewN | apply Kd.RR_drew)); exact (Kd.RR_mono (Kd.RR_far (p := ⟨gb125, 1, none⟩) (Kd.RR_far (p := ⟨gb125, 0, none⟩) (Kd.RR_types HO121.out BK125.out (by decide)) (fun _ hk => hk.2) (.slice Ao42 t119.length co42)) (fun _ hk => hk.2) (.slice Ao45 t122.length co45)) (fun _ h_ => h_.1))))) (Kd.RR_lt (by (with_reducible repeat (first | apply Kd.RR_alloc | apply Kd.RR_drewN | apply Kd.RR_drew)); exact (Kd.RR_mono (Kd.RR_far (p := ⟨gb125, 1, none⟩) (Kd.RR_far (p := ⟨gb125, 0, none⟩) (Kd.RR_types HO124.out BK125.out (by decide)) (fun _ hk => hk.2) (.slice Ao42 t119.length co42)) (fun _ hk => hk.2) (.slice Ao45 t122.length co45)) (fun _ h_ => h_.1))))) (below_size (by repeat (first | (with_reducible first | exact HB.out | apply below_alloc | apply pw_below_drewN | apply below_drew1 | refine below_set ?_ GE101.out | refine below_set ?_ GE125.out) | exact HB.out)))); have n8_ := Aside0.mk (blk_below (g := gb101) (o := .cells #[.slice A1_0 l1_0.length c1_0, .slice A1_1 l1_1.length c1_1] 25 (0, 0)) (by (with_reducible repeat (first | refine blk_drewN ?_ _ | refine blk_drew ?_ | refine blk_alloc ?_ _)); refine blk_far ?_ NB101_125.out _; (with_reducible repeat (first | refine blk_drewN ?_ _ | refine blk_drew ?_ | refine blk_alloc ?_ _)); refine blk_far ?_ NB101_125.out _; (with_reducible repeat (first | refine blk_drewN ?_ _ | refine blk_drew ?_ | refine blk_alloc ?_ _)); exact BK101.out) hb); have n9_ := Aside0.mk (blk_below (g := gb125) (o := .cells #[.slice Ao42 t119.length co42, .slice Ao45 t122.length co45] 31 (0, 0)) (by (with_reducible repeat (first | refine blk_drewN ?_ _ | refine blk_drew ?_ | refine blk_alloc ?_ _)); refine blk_put (cs := #[.slice Ao42 t119.length co42, .slice none 0 0]) ?_ 1 _ rfl; (with_reducible repeat (first | refine blk_drewN ?_ _ | refine blk_drew ?_ | refine blk_alloc ?_ _)); refine blk_put (cs := #[.slice none 0 0, .slice none 0 0]) ?_ 0 _ rfl; (with_reducible repeat (first | refine blk_drewN ?_ _ | refine blk_drew ?_ | refine blk_alloc ?_ _)); exact BK125.out) hb); have n10_ := Aside0.mk (below_step (by repeat (first | (with_reducible first | exact HB.out | apply below_alloc | apply pw_below_drewN | apply below_drew1 | refine below_set ?_ GE101.out | refine below_set ?_ GE125.out) | exact HB.out)) hb); clear HO106; clear HO109; clear HO112; clear HO115; clear HO118; clear HO121; clear HO124; clear BK101; clear BK125; clear HB; have HO106 := n0_; have HO109 := n1_; have HO112 := n2_; have HO115 := n3_; have HO118 := n4_; have HO121 := n5_; have HO124 := n6_; have HO128 := n7_; have BK101 := n8_; have BK125 := n9_; have HB := n10_; clear n0_ n1_ n2_ n3_ n4_ n5_ n6_ n7_ n8_ n9_ n10_; (try clear hb); (try clear hb2); (try clear hk); (try clear hi); (try clear ho0); obtain ⟨Ao48, co48, eo48⟩ := Kd.RR_slice HO128.out; subst eo48; obtain ⟨Ao49, co49, eo49⟩ := Kd.RR_slice HO115.out; subst eo49) | ((with_reducible refine gate_callee (f := 21) rfl ?_); refine goesL_ (some 38) rfl rfl Try.func21 (by kernel_rfl) rfl #[.slice Ao48 t126.length co48, .slice Ao49 t113.length co49] rfl (by (try simp only [List.map_toArray, List.map_cons, List.map_nil]); first | done | rfl | (simp only [List.length_drop, List.length_take]; rfl)) ?_; (with_reducible refine (laws_eqIntS.calls k _ _ t126 _ _ t113 true _ ?side1 ?side2 ?side3 ?side4 A17.out).mono ?_); (case side1 => repeat (first | exact (Kd.RR_reads' HO128.out).2.2 | (with_reducible refine Kd.C_alloc ?_ _) | (with_reducible refine Kd.C_drewN ?_ _) | (with_reducible refine Kd.C_drew ?_))); (case side2 => exact (Kd.RR_reads' HO128.out).2.1); (case side3 => repeat (first | exact (Kd.RR_reads' HO115.out).2.2 | (with_reducible refine Kd.C_alloc ?_ _) | (with_reducible refine Kd.C_drewN ?_ _) | (with_reducible refine Kd.C_drew ?_))); (case side4 => exact (Kd.RR_reads' HO115.out).2.1); rintro e w' ⟨rfl, ⟨nd, rfl⟩⟩; refine ⟨_, rfl, ?_⟩) | ((with_reducible refine gate_callee (f := 18) rfl ?_); refine goesL_ (some 42) rfl rfl Try.func18 (by kernel_rfl) rfl #[.slice A0 l0.length c0] rfl (by (try simp only [List.map_toArray, List.map_cons, List.map_nil]); first | done | rfl | (simp only [List.length_drop, List.length_take]; rfl)) ?_; (with_reducible refine (laws_toJobS.callsRR k _ _ l0 t130 _ ?side1 ?side2 A19.out).mono ?_); (case side1 => repeat (first | exact (Kd.C_below HR0.out (by repeat (first | (with_reducible first | exact HB.out | apply below_alloc | apply pw_below_drewN | apply below_drew1 | refine below_set ?_ GE101.out | refine below_set ?_ GE125.out) | exact HB.out))) | (with_reducible refine Kd.C_alloc ?_ _) | (with_reducible refine Kd.C_drewN ?_ _) | (with_reducible refine Kd.C_drew ?_))); (case side2 => exact HC0.out); rintro e w50 ⟨v131, rfl, ho0, hb⟩; refine ⟨_, rfl, ?_⟩; have n0_ := Aside0.mk (Kd.RR_elder' (by (with_reducible repeat (first | apply Kd.RR_alloc | apply Kd.RR_drewN | apply Kd.RR_drew)); exact HO106.out) (Kd.RR_base ho0) hb); have n1_ := Aside0.mk (Kd.RR_below (by (with_reducible repeat (first | apply Kd.RR_alloc | apply Kd.RR_drewN | apply Kd.RR_drew)); exact HO109.out) hb); have n2_ := Aside0.mk (Kd.RR_below (by (with_reducible repeat (first | apply Kd.RR_alloc | apply Kd.RR_drewN | apply Kd.RR_drew)); exact HO112.out) hb); have n3_ := Aside0.mk (Kd.RR_below (by (with_reducible repeat (first | apply Kd.RR_alloc | apply Kd.RR_drewN | apply Kd.RR_drew)); exact HO115.out) hb); have n4_ := Aside0.mk (Kd.RR_elder' (by (with_reducible repeat (first | apply Kd.RR_alloc | apply Kd.RR_drewN | apply Kd.RR_drew)); exact HO118.out) (Kd.RR_base ho0) hb); have n5_ := Aside0.mk (Kd.RR_below (by (with_reducible repeat (first | apply Kd.RR_alloc | apply Kd.RR_drewN | apply Kd.RR_drew)); exact HO121.out) hb); have n6_ := Aside0.mk (Kd.RR_below (by (with_reducible repeat (first | apply Kd.RR_alloc | apply Kd.RR_drewN | apply Kd.RR_drew)); exact HO124.out) hb); have n7_ := Aside0.mk (Kd.RR_below (by (with_reducible repeat (first | apply Kd.RR_alloc | apply Kd.RR_drewN | apply Kd.RR_drew)); exact HO128.out) hb); have n8_ := Aside0.mk (Kd.RR_lower (Kd.RR_new' (Kd.RR_new' ho0 (Kd.RR_lt (by (with_reducible repeat (first | apply Kd.RR_alloc | apply Kd.RR_drewN | apply Kd.RR_drew)); exact HO106.out))) (Kd.RR_lt (by (with_reducible repeat (first | apply Kd.RR_alloc | apply Kd.RR_drewN | apply Kd.RR_drew)); exact HO118.out))) (below_size (by repeat (first | (with_reducible first | exact HB.out | apply below_alloc | apply pw_below_drewN | apply below_drew1 | refine below_set ?_ GE101.out | refine below_set ?_ GE125.out) | exact HB.out)))); have n9_ := Aside0.mk (blk_below (g := gb101) (o := .cells #[.slice A1_0 l1_0.length c1_0, .slice A1_1 l1_1.length c1_1] 25 (0, 0)) (by (with_reducible repeat (first | refine blk_drewN ?_ _ | refine blk_drew ?_ | refine blk_alloc ?_ _)); exact BK101.out) hb); have n10_ := Aside0.mk (blk_below (g := gb125) (o := .cells #[.slice Ao42 t119.length co42, .slice Ao45 t122.length co45] 31 (0, 0)) (by (with_reducible repeat (first | refine blk_drewN ?_ _ | refine blk_drew ?_ | refine blk_alloc ?_ _)); exact BK125.out) hb); have n11_ := Aside0.mk (below_step (by repeat (first | (with_reducible first | exact HB.out | apply below_alloc | apply pw_below_drewN | apply below_drew1 | refine below_set ?_ GE101.out | refine below_set ?_ GE125.out) | exact HB.out)) hb); clear HO106; clear HO109; clear HO112; clear HO115; clear HO118; clear HO121; clear HO124; clear HO128; clear BK101; clear BK125; clear HB; have HO106 := n0_; have HO109 := n1_; have HO112 := n2_; have HO115 := n3_; have HO118 := n4_; have HO121 := n5_; have HO124 := n6_; have HO128 := n7_; have HO132 := n8_; have BK101 := n9_; have BK125 := n10_; have HB := n11_; clear n0_ n1_ n2_ n3_ n4_ n5_ n6_ n7_ n8_ n9_ n10_ n11_; (try clear hb); (try clear hb2); (try clear hk); (try clear hi); (try clear ho0); obtain ⟨Ao51, co51, eo51⟩ := Kd.RR_slice HO132.out; subst eo51) | ((with_reducible refine gate_callee (f := 22) rfl ?_); refine goesL_ (some 43) rfl rfl Try.func22 (by kernel_rfl) rfl #[.slice Ao46 t116.length co46, .slice Ao51 t130.length co51] rfl (by (try simp only [List.map_toArray, List.map_cons, List.map_nil]); first | done | rfl | (simp only [List.length_drop, List.length_take]; rfl)) ?_; (with_reducible refine (laws_eqJobS.calls k _ _ t116 _ _ t130 true _ ?side1 ?side2 ?side3 ?side4 A20.out).mono ?_); (case side1 => repeat (first | exact (Kd.RR_reads' HO118.out).2.2 | (with_reducible refine Kd.C_alloc ?_ _) | (with_reducible refine Kd.C_drewN ?_ _) | (with_reducible refine Kd.C_drew ?_))); (case side2 => exact (Kd.RR_reads' HO118.out).2.1); (case side3 => repeat (first | exact (Kd.RR_reads' HO132.out).2.2 | (with_reducible refine Kd.C_alloc ?_ _) | (with_reducible refine Kd.C_drewN ?_ _) | (with_reducible refine Kd.C_drew ?_))); (case side4 => exact (Kd.RR_reads' HO132.out).2.1); rintro e w52 ⟨rfl, hb⟩; refine ⟨_, rfl, ?_⟩; have n0_ := Aside0.mk (Kd.RR_below (by (with_reducible repeat (first | apply Kd.RR_alloc | apply Kd.RR_drewN | apply Kd.RR_drew)); exact HO106.out) hb); have n1_ := Aside0.mk (Kd.RR_below (by (with_reducible repeat (first | apply Kd.RR_alloc | apply Kd.RR_drewN | apply Kd.RR_drew)); exact HO109.out) hb); have n2_ := Aside0.mk (Kd.RR_below (by (with_reducible repeat (first | apply Kd.RR_alloc | apply Kd.RR_drewN | apply Kd.RR_drew)); exact HO112.out) hb); have n3_ := Aside0.mk (Kd.RR_below (by (with_reducible repeat (first | apply Kd.RR_alloc | apply Kd.RR_drewN | apply Kd.RR_drew)); exact HO115.out) hb); have n4_ := Aside0.mk (Kd.RR_below (by (with_reducible repeat (first | apply Kd.RR_alloc | apply Kd.RR_drewN | apply Kd.RR_drew)); exact HO118.out) hb); have n5_ := Aside0.mk (Kd.RR_below (by (with_reducible repeat (first | apply Kd.RR_alloc | apply Kd.RR_drewN | apply Kd.RR_drew)); exact HO121.out) hb); have n6_ := Aside0.mk (Kd.RR_below (by (with_reducible repeat (first | apply Kd.RR_alloc | apply Kd.RR_drewN | apply Kd.RR_drew)); exact HO124.out) hb); have n7_ := Aside0.mk (Kd.RR_below (by (with_reducible repeat (first | apply Kd.RR_alloc | apply Kd.RR_drewN | apply Kd.RR_drew)); exact HO128.out) hb); have n8_ := Aside0.mk (Kd.RR_below (by (with_reducible repeat (first | apply Kd.RR_alloc | apply Kd.RR_drewN | apply Kd.RR_drew)); exact HO132.out) hb); have n9_ := Aside0.mk (blk_below (g := gb101) (o := .cells #[.slice A1_0 l1_0.length c1_0, .slice A1_1 l1_1.length c1_1] 25 (0, 0)) (by (with_reducible repeat (first | refine blk_drewN ?_ _ | refine blk_drew ?_ | refine blk_alloc ?_ _)); exact BK101.out) hb); have n10_ := Aside0.mk (blk_below (g := gb125) (o := .cells #[.slice Ao42 t119.length co42, .slice Ao45 t122.length co45] 31 (0, 0)) (by (with_reducible repeat (first | refine blk_drewN ?_ _ | refine blk_drew ?_ | refine blk_alloc ?_ _)); exact BK125.out) hb); have n11_ := Aside0.mk (below_step (by repeat (first | (with_reducible first | exact HB.out | apply below_alloc | apply pw_below_drewN | apply below_drew1 | refine below_set ?_ GE101.out | refine below_set ?_ GE125.out) | exact HB.out)) hb); clear HO106; clear HO109; clear HO112; clear HO115; clear HO118; clear HO121; clear HO124; clear HO128; clear HO132; clear BK101; clear BK125; clear HB; have HO106 := n0_; have HO109 := n1_; have HO112 := n2_; have HO115 := n3_; have HO118 := n4_; have HO121 := n5_; have HO124 := n6_; have HO128 := n7_; have HO132 := n8_; have BK101 := n9_; have BK125 := n10_; have HB := n11_; clear n0_ n1_ n2_ n3_ n4_ n5_ n6_ n7_ n8_ n9_ n10_ n11_; (try clear hb); (try clear hb2); (try clear hk); (try clear hi)))
            have n0_ := Aside0.mk (Kd.RR_drew HO106.out)
            have n1_ := Aside0.mk (Kd.RR_drew HO109.out)
            have n2_ := Aside0.mk (Kd.RR_drew HO112.out)
            have n3_ := Aside0.mk (Kd.RR_drew HO115.out)
            have n4_ := Aside0.mk (Kd.RR_drew HO118.out)
            have n5_ := Aside0.mk (Kd.RR_drew HO121.out)
            have n6_ := Aside0.mk (Kd.RR_drew HO124.out)
            have n7_ := Aside0.mk (Kd.RR_drew HO128.out)
            have n8_ := Aside0.mk (Kd.RR_drew HO132.out)
            have n9_ := Aside0.mk (blk_drew BK101.out)
            have n10_ := Aside0.mk (blk_drew BK125.out)
            have n11_ := Aside0.mk (below_drew1 HB.out)
            clear HO106
            clear HO109
            clear HO112
            clear HO115
            clear HO118
            clear HO121
            clear HO124
            clear HO128
            clear HO132
            clear BK101
            clear BK125
            clear HB
            have HO106 := n0_
            have HO109 := n1_
            have HO112 := n2_
            have HO115 := n3_
            have HO118 := n4_
            have HO121 := n5_
            have HO124 := n6_
            have HO128 := n7_
            have HO132 := n8_
            have BK101 := n9_
            have BK125 := n10_
            have HB := n11_
            clear n0_ n1_ n2_ n3_ n4_ n5_ n6_ n7_ n8_ n9_ n10_ n11_
            refine start_ (n := 5) (S := fun w' => w'.cell? ⟨gb125, 0, none⟩ = some (.slice Ao42 t119.length co42) ∧ w'.cell? ⟨gb125, 1, none⟩ = some (.slice Ao45 t122.length co45) ∧ w'.cell? ⟨gb101, 0, none⟩ = some (.slice A1_0 l1_0.length c1_0) ∧ w'.cell? ⟨gb101, 1, none⟩ = some (.slice A1_1 l1_1.length c1_1)) (ds := []) #[false, false, false, false, false] (by kernel_rfl) rfl rfl ⟨(blk_cell BK125.out 0).trans rfl, (blk_cell BK125.out 1).trans rfl, (blk_cell BK101.out 0).trans rfl, (blk_cell BK101.out 1).trans rfl⟩ (fun hHeld => ?_)
            generalize w52.drew = w53 at HO106 HO109 HO112 HO115 HO118 HO121 HO124 HO128 HO132 BK101 BK125 HB hHeld ⊢
            refine take_ (i := 0) (N := some 45) (v := ?_) (a' := ?_) #[true, false, false, false, false] rfl rfl (by kernel_rfl) (fun _ _ _ h => h) (Or.inl ⟨by rfl, ?_⟩) hHeld ?_ ?_
            rotate_left
            · rintro w' ⟨s0, s1, s2, s3⟩
              go_simp
              with_reducible rfl
            rotate_left
            · simp only [Act.put, List.setIfInBounds_toArray, List.set_cons_zero, List.set_cons_succ, i64_w, i32_w]
              rfl
            refine take_ (i := 1) (N := some 46) (v := ?_) (a' := ?_) #[true, true, false, false, false] rfl rfl (by kernel_rfl) (fun _ _ _ h => h) (Or.inl ⟨by rfl, ?_⟩) hHeld ?_ ?_
            rotate_left
            · rintro w' ⟨s0, s1, s2, s3⟩
              go_simp
              with_reducible rfl
            rotate_left
            · simp only [Act.put, List.setIfInBounds_toArray, List.set_cons_zero, List.set_cons_succ, i64_w, i32_w]
              rfl
            refine one_ (i := 2) (N := some 47) #[true, true, true, false, false] rfl rfl (by kernel_rfl) (by decide) (fun K hK => ?_)
            refine goes_ Try.func19 (by kernel_rfl) rfl #[.agg #[.slice A1_0 l1_0.length c1_0, .slice A1_1 l1_1.length c1_1]] (by rfl) rfl rfl (by (try simp only [List.map_toArray, List.map_cons, List.map_nil]); first | done | rfl | (simp only [List.length_drop, List.length_take]; rfl)) ?_
            with_reducible refine (laws_toSchedule.callsRR k _ _ l1_0 _ _ l1_1 t134 t137 _ ?side1 ?side2 ?side3 ?side4 A22.out).mono ?_
            (case side1 => repeat (first | exact (Kd.C_below HR1_0.out HB.out) | (with_reducible refine Kd.C_alloc ?_ _) | (with_reducible refine Kd.C_drewN ?_ _) | (with_reducible refine Kd.C_drew ?_)))
            (case side2 => exact HC1_0.out)
            (case side3 => repeat (first | exact (Kd.C_below HR1_1.out HB.out) | (with_reducible refine Kd.C_alloc ?_ _) | (with_reducible refine Kd.C_drewN ?_ _) | (with_reducible refine Kd.C_drew ?_)))
            (case side4 => exact HC1_1.out)
            rintro e w54 ⟨v135, v138, rfl, ho0, ho1, hb⟩
            refine ⟨_, rfl, ?_⟩
            have n0_ := Aside0.mk (Kd.RR_below (by (with_reducible repeat (first | apply Kd.RR_alloc | apply Kd.RR_drewN | apply Kd.RR_drew)); exact HO106.out) hb)
            have n1_ := Aside0.mk (Kd.RR_mono (Kd.RR_told (Kd.RR_told (Kd.RR_old (by (with_reducible repeat (first | apply Kd.RR_alloc | apply Kd.RR_drewN | apply Kd.RR_drew)); exact HO109.out) hb) (Kd.RR_base ho0)) (Kd.RR_base ho1)) (fun _ h_ => h_.1))
            have n2_ := Aside0.mk (Kd.RR_mono (Kd.RR_told (Kd.RR_told (Kd.RR_old (by (with_reducible repeat (first | apply Kd.RR_alloc | apply Kd.RR_drewN | apply Kd.RR_drew)); exact HO112.out) hb) (Kd.RR_base ho0)) (Kd.RR_base ho1)) (fun _ h_ => h_.1))
            have n3_ := Aside0.mk (Kd.RR_mono (Kd.RR_told (Kd.RR_told (Kd.RR_old (by (with_reducible repeat (first | apply Kd.RR_alloc | apply Kd.RR_drewN | apply Kd.RR_drew)); exact HO115.out) hb) (Kd.RR_base ho0)) (Kd.RR_base ho1)) (fun _ h_ => h_.1))
            have n4_ := Aside0.mk (Kd.RR_below (by (with_reducible repeat (first | apply Kd.RR_alloc | apply Kd.RR_drewN | apply Kd.RR_drew)); exact HO118.out) hb)
            have n5_ := Aside0.mk (Kd.RR_mono (Kd.RR_told (Kd.RR_told (Kd.RR_old (by (with_reducible repeat (first | apply Kd.RR_alloc | apply Kd.RR_drewN | apply Kd.RR_drew)); exact HO121.out) hb) (Kd.RR_base ho0)) (Kd.RR_base ho1)) (fun _ h_ => h_.1))
            have n6_ := Aside0.mk (Kd.RR_mono (Kd.RR_told (Kd.RR_told (Kd.RR_old (by (with_reducible repeat (first | apply Kd.RR_alloc | apply Kd.RR_drewN | apply Kd.RR_drew)); exact HO124.out) hb) (Kd.RR_base ho0)) (Kd.RR_base ho1)) (fun _ h_ => h_.1))
            have n7_ := Aside0.mk (Kd.RR_mono (Kd.RR_told (Kd.RR_told (Kd.RR_old (by (with_reducible repeat (first | apply Kd.RR_alloc | apply Kd.RR_drewN | apply Kd.RR_drew)); exact HO128.out) hb) (Kd.RR_base ho0)) (Kd.RR_base ho1)) (fun _ h_ => h_.1))
            have n8_ := Aside0.mk (Kd.RR_below (by (with_reducible repeat (first | apply Kd.RR_alloc | apply Kd.RR_drewN | apply Kd.RR_drew)); exact HO132.out) hb)
            have n9_ := Aside0.mk (Kd.RR_lower (Kd.RR_new' (Kd.RR_new' (Kd.RR_new' (Kd.RR_new' (Kd.RR_new' (Kd.RR_new' ho0 (Kd.RR_lt (by (with_reducible repeat (first | apply Kd.RR_alloc | apply Kd.RR_drewN | apply Kd.RR_drew)); exact HO109.out))) (Kd.RR_lt (by (with_reducible repeat (first | apply Kd.RR_alloc | apply Kd.RR_drewN | apply Kd.RR_drew)); exact HO112.out))) (Kd.RR_lt (by (with_reducible repeat (first | apply Kd.RR_alloc | apply Kd.RR_drewN | apply Kd.RR_drew)); exact HO115.out))) (Kd.RR_lt (by (with_reducible repeat (first | apply Kd.RR_alloc | apply Kd.RR_drewN | apply Kd.RR_drew)); exact HO121.out))) (Kd.RR_lt (by (with_reducible repeat (first | apply Kd.RR_alloc | apply Kd.RR_drewN | apply Kd.RR_drew)); exact HO124.out))) (Kd.RR_lt (by (with_reducible repeat (first | apply Kd.RR_alloc | apply Kd.RR_drewN | apply Kd.RR_drew)); exact HO128.out))) (below_size (by repeat (first | (with_reducible first | exact HB.out | apply below_alloc | apply pw_below_drewN | apply below_drew1 | refine below_set ?_ GE101.out | refine below_set ?_ GE125.out) | exact HB.out))))
            have n10_ := Aside0.mk (Kd.RR_lower (Kd.RR_new' (Kd.RR_new' (Kd.RR_new' (Kd.RR_new' (Kd.RR_new' (Kd.RR_new' ho1 (Kd.RR_lt (by (with_reducible repeat (first | apply Kd.RR_alloc | apply Kd.RR_drewN | apply Kd.RR_drew)); exact HO109.out))) (Kd.RR_lt (by (with_reducible repeat (first | apply Kd.RR_alloc | apply Kd.RR_drewN | apply Kd.RR_drew)); exact HO112.out))) (Kd.RR_lt (by (with_reducible repeat (first | apply Kd.RR_alloc | apply Kd.RR_drewN | apply Kd.RR_drew)); exact HO115.out))) (Kd.RR_lt (by (with_reducible repeat (first | apply Kd.RR_alloc | apply Kd.RR_drewN | apply Kd.RR_drew)); exact HO121.out))) (Kd.RR_lt (by (with_reducible repeat (first | apply Kd.RR_alloc | apply Kd.RR_drewN | apply Kd.RR_drew)); exact HO124.out))) (Kd.RR_lt (by (with_reducible repeat (first | apply Kd.RR_alloc | apply Kd.RR_drewN | apply Kd.RR_drew)); exact HO128.out))) (below_size (by repeat (first | (with_reducible first | exact HB.out | apply below_alloc | apply pw_below_drewN | apply below_drew1 | refine below_set ?_ GE101.out | refine below_set ?_ GE125.out) | exact HB.out))))
            have n11_ := Aside0.mk (blk_below (g := gb101) (o := .cells #[.slice A1_0 l1_0.length c1_0, .slice A1_1 l1_1.length c1_1] 25 (0, 0)) (by (with_reducible repeat (first | refine blk_drewN ?_ _ | refine blk_drew ?_ | refine blk_alloc ?_ _)); exact BK101.out) hb)
            have n12_ := Aside0.mk (blk_below (g := gb125) (o := .cells #[.slice Ao42 t119.length co42, .slice Ao45 t122.length co45] 31 (0, 0)) (by (with_reducible repeat (first | refine blk_drewN ?_ _ | refine blk_drew ?_ | refine blk_alloc ?_ _)); exact BK125.out) hb)
            have n13_ := Aside0.mk (below_step (by repeat (first | (with_reducible first | exact HB.out | apply below_alloc | apply pw_below_drewN | apply below_drew1 | refine below_set ?_ GE101.out | refine below_set ?_ GE125.out) | exact HB.out)) hb)
            clear HO106
            clear HO109
            clear HO112
            clear HO115
            clear HO118
            clear HO121
            clear HO124
            clear HO128
            clear HO132
            clear BK101
            clear BK125
            clear HB
            have HO106 := n0_
            have HO109 := n1_
            have HO112 := n2_
            have HO115 := n3_
            have HO118 := n4_
            have HO121 := n5_
            have HO124 := n6_
            have HO128 := n7_
            have HO132 := n8_
            have HO136 := n9_
            have HO139 := n10_
            have BK101 := n11_
            have BK125 := n12_
            have HB := n13_
            clear n0_ n1_ n2_ n3_ n4_ n5_ n6_ n7_ n8_ n9_ n10_ n11_ n12_ n13_
            (try clear hb)
            (try clear hb2)
            (try clear hk)
            (try clear hi)
            (try clear ho0)
            (try clear ho1)
            obtain ⟨Ao55, co55, eo55⟩ := Kd.RR_slice HO136.out
            (first | subst eo55 | (injection eo55 with f1_ f2_ f3_; have f4_ := f1_.symm; have f5_ := f3_.symm; clear f1_ f2_ f3_; subst f4_; subst f5_))
            obtain ⟨Ao56, co56, eo56⟩ := Kd.RR_slice HO139.out
            (first | subst eo56 | (injection eo56 with f1_ f2_ f3_; have f4_ := f1_.symm; have f5_ := f3_.symm; clear f1_ f2_ f3_; subst f4_; subst f5_))
            refine hK.out _ _ ⟨(blk_cell BK125.out 0).trans rfl, (blk_cell BK125.out 1).trans rfl, (blk_cell BK101.out 0).trans rfl, (blk_cell BK101.out 1).trans rfl⟩ (fun hHeld => ?_)
            clear hK K
            refine norm_ (a' := ?_) ?_ ?_
            rotate_left
            · show Act.put _ (some 47) _ = _
              simp only [Act.put, List.setIfInBounds_toArray, List.set_cons_zero, List.set_cons_succ, i64_w, i32_w]
              rfl
            refine one_ (i := 3) (N := some 48) #[true, true, true, true, false] rfl rfl (by kernel_rfl) (by decide) (fun K hK => ?_)
            refine goes_ Try.func23 (by kernel_rfl) rfl #[.agg #[.slice Ao42 t119.length co42, .slice Ao45 t122.length co45], .agg #[.slice Ao55 t134.length co55, .slice Ao56 t137.length co56]] (by rfl) rfl rfl (by (try simp only [List.map_toArray, List.map_cons, List.map_nil]); first | done | rfl | (simp only [List.length_drop, List.length_take]; rfl)) ?_
            with_reducible refine (laws_eqSchedule.calls k _ _ t119 _ _ t122 _ _ t134 _ _ t137 true _ ?side1 ?side2 ?side3 ?side4 ?side5 ?side6 ?side7 ?side8 A23.out).mono ?_
            (case side1 => repeat (first | exact (Kd.RR_reads' HO121.out).2.2 | (with_reducible refine Kd.C_alloc ?_ _) | (with_reducible refine Kd.C_drewN ?_ _) | (with_reducible refine Kd.C_drew ?_)))
            (case side2 => exact (Kd.RR_reads' HO121.out).2.1)
            (case side3 => repeat (first | exact (Kd.RR_reads' HO124.out).2.2 | (with_reducible refine Kd.C_alloc ?_ _) | (with_reducible refine Kd.C_drewN ?_ _) | (with_reducible refine Kd.C_drew ?_)))
            (case side4 => exact (Kd.RR_reads' HO124.out).2.1)
            (case side5 => repeat (first | exact (Kd.RR_reads' HO136.out).2.2 | (with_reducible refine Kd.C_alloc ?_ _) | (with_reducible refine Kd.C_drewN ?_ _) | (with_reducible refine Kd.C_drew ?_)))
            (case side6 => exact (Kd.RR_reads' HO136.out).2.1)
            (case side7 => repeat (first | exact (Kd.RR_reads' HO139.out).2.2 | (with_reducible refine Kd.C_alloc ?_ _) | (with_reducible refine Kd.C_drewN ?_ _) | (with_reducible refine Kd.C_drew ?_)))
            (case side8 => exact (Kd.RR_reads' HO139.out).2.1)
            rintro e w57 ⟨rfl, hb⟩
            refine ⟨_, rfl, ?_⟩
            have n0_ := Aside0.mk (Kd.RR_below (by (with_reducible repeat (first | apply Kd.RR_alloc | apply Kd.RR_drewN | apply Kd.RR_drew)); exact HO106.out) hb)
            have n1_ := Aside0.mk (Kd.RR_below (by (with_reducible repeat (first | apply Kd.RR_alloc | apply Kd.RR_drewN | apply Kd.RR_drew)); exact HO109.out) hb)
            have n2_ := Aside0.mk (Kd.RR_below (by (with_reducible repeat (first | apply Kd.RR_alloc | apply Kd.RR_drewN | apply Kd.RR_drew)); exact HO112.out) hb)
            have n3_ := Aside0.mk (Kd.RR_below (by (with_reducible repeat (first | apply Kd.RR_alloc | apply Kd.RR_drewN | apply Kd.RR_drew)); exact HO115.out) hb)
            have n4_ := Aside0.mk (Kd.RR_below (by (with_reducible repeat (first | apply Kd.RR_alloc | apply Kd.RR_drewN | apply Kd.RR_drew)); exact HO118.out) hb)
            have n5_ := Aside0.mk (Kd.RR_below (by (with_reducible repeat (first | apply Kd.RR_alloc | apply Kd.RR_drewN | apply Kd.RR_drew)); exact HO121.out) hb)
            have n6_ := Aside0.mk (Kd.RR_below (by (with_reducible repeat (first | apply Kd.RR_alloc | apply Kd.RR_drewN | apply Kd.RR_drew)); exact HO124.out) hb)
            have n7_ := Aside0.mk (Kd.RR_below (by (with_reducible repeat (first | apply Kd.RR_alloc | apply Kd.RR_drewN | apply Kd.RR_drew)); exact HO128.out) hb)
            have n8_ := Aside0.mk (Kd.RR_below (by (with_reducible repeat (first | apply Kd.RR_alloc | apply Kd.RR_drewN | apply Kd.RR_drew)); exact HO132.out) hb)
            have n9_ := Aside0.mk (Kd.RR_below (by (with_reducible repeat (first | apply Kd.RR_alloc | apply Kd.RR_drewN | apply Kd.RR_drew)); exact HO136.out) hb)
            have n10_ := Aside0.mk (Kd.RR_below (by (with_reducible repeat (first | apply Kd.RR_alloc | apply Kd.RR_drewN | apply Kd.RR_drew)); exact HO139.out) hb)
            have n11_ := Aside0.mk (blk_below (g := gb101) (o := .cells #[.slice A1_0 l1_0.length c1_0, .slice A1_1 l1_1.length c1_1] 25 (0, 0)) (by (with_reducible repeat (first | refine blk_drewN ?_ _ | refine blk_drew ?_ | refine blk_alloc ?_ _)); exact BK101.out) hb)
            have n12_ := Aside0.mk (blk_below (g := gb125) (o := .cells #[.slice Ao42 t119.length co42, .slice Ao45 t122.length co45] 31 (0, 0)) (by (with_reducible repeat (first | refine blk_drewN ?_ _ | refine blk_drew ?_ | refine blk_alloc ?_ _)); exact BK125.out) hb)
            have n13_ := Aside0.mk (below_step (by repeat (first | (with_reducible first | exact HB.out | apply below_alloc | apply pw_below_drewN | apply below_drew1 | refine below_set ?_ GE101.out | refine below_set ?_ GE125.out) | exact HB.out)) hb)
            clear HO106
            clear HO109
            clear HO112
            clear HO115
            clear HO118
            clear HO121
            clear HO124
            clear HO128
            clear HO132
            clear HO136
            clear HO139
            clear BK101
            clear BK125
            clear HB
            have HO106 := n0_
            have HO109 := n1_
            have HO112 := n2_
            have HO115 := n3_
            have HO118 := n4_
            have HO121 := n5_
            have HO124 := n6_
            have HO128 := n7_
            have HO132 := n8_
            have HO136 := n9_
            have HO139 := n10_
            have BK101 := n11_
            have BK125 := n12_
            have HB := n13_
            clear n0_ n1_ n2_ n3_ n4_ n5_ n6_ n7_ n8_ n9_ n10_ n11_ n12_ n13_
            (try clear hb)
            (try clear hb2)
            (try clear hk)
            (try clear hi)
            refine hK.out _ _ ⟨(blk_cell BK125.out 0).trans rfl, (blk_cell BK125.out 1).trans rfl, (blk_cell BK101.out 0).trans rfl, (blk_cell BK101.out 1).trans rfl⟩ (fun hHeld => ?_)
            clear hK K
            refine norm_ (a' := ?_) ?_ ?_
            rotate_left
            · show Act.put _ (some 48) _ = _
              simp only [Act.put, List.setIfInBounds_toArray, List.set_cons_zero, List.set_cons_succ, i64_w, i32_w]
              rfl
            refine pure_ (i := 4) (N := some 49) (v := ?_) (a' := ?_) #[true, true, true, true, true] rfl rfl (by kernel_rfl) (fun _ _ _ h => h) (Or.inl ⟨by rfl, ?_⟩) ?_ ?_
            rotate_left
            · intro w'
              go_simp
              with_reducible rfl
            rotate_left
            · simp only [Act.put, List.setIfInBounds_toArray, List.set_cons_zero, List.set_cons_succ, i64_w, i32_w]
              rfl
            refine done_ (by kernel_rfl) ?_
            go_upto_region 21 with (first | ((with_reducible refine gate_callee (f := 24) rfl ?_); refine goesL_ (some 52) rfl rfl Try.func24 (by kernel_rfl) rfl #[.slice Ao46 t116.length co46, .int .i64 1] rfl (by (try simp only [List.map_toArray, List.map_cons, List.map_nil]); first | done | rfl | (simp only [List.length_drop, List.length_take]; rfl)) ?_; (with_reducible refine (laws_markJobS.callsRR k (fun k_ => some k_ = (.slice Ao46 t116.length co46 : Value).ownBlock) (.slice Ao46 t116.length co46) t116 1 t141 t142 w _ ?side1 ?side2 A25.out).mono ?_); (case side1 => repeat (first | (with_reducible first | exact HB.out | apply below_alloc | apply pw_below_drewN | apply below_drew1 | refine below_set ?_ GE101.out | refine below_set ?_ GE125.out) | exact HB.out)); (case side2 => exact Kd.RR_tight rfl HO118.out); rintro e w58 ⟨rfl, hy0, hb, hkp⟩; refine ⟨_, rfl, ?_⟩; have n0_ := Aside0.mk (blk_kept (by (with_reducible repeat (first | refine blk_drewN ?_ _ | refine blk_drew ?_ | refine blk_alloc ?_ _)); exact BK101.out) hkp (fun hs_ => (fun e_ => (Kd.RR_ne HO118.out BK101.out (by decide)) e_) hs_)); have n1_ := Aside0.mk (Kd.RR_mono (ok' := fun k_ => some k_ ≠ (.slice Ao46 t116.length co46 : Value).ownBlock ∧ some k_ ≠ (.slice Ao51 t130.length co51 : Value).ownBlock) (Kd.RR_keptB (HO106.out) hkp (fun k_ hk_ hs_ => (hk_.1.2) hs_)) (fun k_ hk_ => ⟨hk_.1.1.2, hk_.1.2⟩)); have n2_ := Aside0.mk (Kd.RR_mono (ok' := fun k_ => some k_ ≠ (.slice Ao36 t110.length co36 : Value).ownBlock ∧ some k_ ≠ (.slice Ao49 t113.length co49 : Value).ownBlock ∧ some k_ ≠ (.slice Ao42 t119.length co42 : Value).ownBlock ∧ some k_ ≠ (.slice Ao45 t122.length co45 : Value).ownBlock ∧ some k_ ≠ (.slice Ao48 t126.length co48 : Value).ownBlock ∧ some k_ ≠ (.slice Ao55 t134.length co55 : Value).ownBlock ∧ some k_ ≠ (.slice Ao56 t137.length co56 : Value).ownBlock) (Kd.RR_keptB ((Kd.RR_apart' HO109.out (Kd.RR_typed HO118.out) (by decide))) hkp (fun k_ hk_ hs_ => (hk_.2) hs_)) (fun k_ hk_ => ⟨hk_.1.1.1.1.1.1.1.1, hk_.1.1.1.1.1.1.1.2, hk_.1.1.1.1.1.1.2, hk_.1.1.1.1.1.2, hk_.1.1.1.1.2, hk_.1.1.1.2, hk_.1.1.2⟩)); have n3_ := Aside0.mk (Kd.RR_mono (ok' := fun k_ => some k_ ≠ (.slice Ao35 t107.length co35 : Value).ownBlock ∧ some k_ ≠ (.slice Ao49 t113.length co49 : Value).ownBlock ∧ some k_ ≠ (.slice Ao42 t119.length co42 : Value).ownBlock ∧ some k_ ≠ (.slice Ao45 t122.length co45 : Value).ownBlock ∧ some k_ ≠ (.slice Ao48 t126.length co48 : Value).ownBlock ∧ some k_ ≠ (.slice Ao55 t134.length co55 : Value).ownBlock ∧ some k_ ≠ (.slice Ao56 t137.length co56 : Value).ownBlock) (Kd.RR_keptB ((Kd.RR_apart' HO112.out (Kd.RR_typed HO118.out) (by decide))) hkp (fun k_ hk_ hs_ => (hk_.2) hs_)) (fun k_ hk_ => ⟨hk_.1.1.1.1.1.1.1.1, hk_.1.1.1.1.1.1.1.2, hk_.1.1.1.1.1.1.2, hk_.1.1.1.1.1.2, hk_.1.1.1.1.2, hk_.1.1.1.2, hk_.1.1.2⟩)); have n4_ := Aside0.mk (Kd.RR_mono (ok' := fun k_ => some k_ ≠ (.slice Ao35 t107.length co35 : Value).ownBlock ∧ some k_ ≠ (.slice Ao36 t110.length co36 : Value).ownBlock ∧ some k_ ≠ (.slice Ao42 t119.length co42 : Value).ownBlock ∧ some k_ ≠ (.slice Ao45 t122.length co45 : Value).ownBlock ∧ some k_ ≠ (.slice Ao48 t126.length co48 : Value).ownBlock ∧ some k_ ≠ (.slice Ao55 t134.length co55 : Value).ownBlock ∧ some k_ ≠ (.slice Ao56 t137.length co56 : Value).ownBlock) (Kd.RR_keptB ((Kd.RR_apart' HO115.out (Kd.RR_typed HO118.out) (by decide))) hkp (fun k_ hk_ hs_ => (hk_.2) hs_)) (fun k_ hk_ => ⟨hk_.1.1.1.1.1.1.1.1.2, hk_.1.1.1.1.1.1.1.2, hk_.1.1.1.1.1.1.2, hk_.1.1.1.1.1.2, hk_.1.1.1.1.2, hk_.1.1.1.2, hk_.1.1.2⟩)); have n5_ := Aside0.mk (Kd.RR_reok rfl hy0 (fun k_ e_ => Kd.RR_ok HO118.out k_ e_)); have n6_ := Aside0.mk (Kd.RR_mono (ok' := fun k_ => some k_ ≠ (.slice Ao35 t107.length co35 : Value).ownBlock ∧ some k_ ≠ (.slice Ao36 t110.length co36 : Value).ownBlock ∧ some k_ ≠ (.slice Ao49 t113.length co49 : Value).ownBlock ∧ some k_ ≠ (.slice Ao45 t122.length co45 : Value).ownBlock ∧ some k_ ≠ (.slice Ao48 t126.length co48 : Value).ownBlock ∧ some k_ ≠ (.slice Ao55 t134.length co55 : Value).ownBlock ∧ some k_ ≠ (.slice Ao56 t137.length co56 : Value).ownBlock) (Kd.RR_keptB ((Kd.RR_apart' HO121.out (Kd.RR_typed HO118.out) (by decide))) hkp (fun k_ hk_ hs_ => (hk_.2) hs_)) (fun k_ hk_ => ⟨hk_.1.1.1.1.1.1.1.2, hk_.1.1.1.1.1.1.2, hk_.1.1.1.1.1.2, hk_.1.1.1.1.1.1.1.1, hk_.1.1.1.1.2, hk_.1.1.1.2, hk_.1.1.2⟩)); have n7_ := Aside0.mk (Kd.RR_mono (ok' := fun k_ => some k_ ≠ (.slice Ao35 t107.length co35 : Value).ownBlock ∧ some k_ ≠ (.slice Ao36 t110.length co36 : Value).ownBlock ∧ some k_ ≠ (.slice Ao49 t113.length co49 : Value).ownBlock ∧ some k_ ≠ (.slice Ao42 t119.length co42 : Value).ownBlock ∧ some k_ ≠ (.slice Ao48 t126.length co48 : Value).ownBlock ∧ some k_ ≠ (.slice Ao55 t134.length co55 : Value).ownBlock ∧ some k_ ≠ (.slice Ao56 t137.length co56 : Value).ownBlock) (Kd.RR_keptB ((Kd.RR_apart' HO124.out (Kd.RR_typed HO118.out) (by decide))) hkp (fun k_ hk_ hs_ => (hk_.2) hs_)) (fun k_ hk_ => ⟨hk_.1.1.1.1.1.1.1.2, hk_.1.1.1.1.1.1.2, hk_.1.1.1.1.1.2, hk_.1.1.1.1.1.1.1.1, hk_.1.1.1.1.2, hk_.1.1.1.2, hk_.1.1.2⟩)); have n8_ := Aside0.mk (blk_kept (by (with_reducible repeat (first | refine blk_drewN ?_ _ | refine blk_drew ?_ | refine blk_alloc ?_ _)); exact BK125.out) hkp (fun hs_ => (fun e_ => (Kd.RR_ne HO118.out BK125.out (by decide)) e_) hs_)); have n9_ := Aside0.mk (Kd.RR_mono (ok' := fun k_ => some k_ ≠ (.slice Ao35 t107.length co35 : Value).ownBlock ∧ some k_ ≠ (.slice Ao36 t110.length co36 : Value).ownBlock ∧ some k_ ≠ (.slice Ao49 t113.length co49 : Value).ownBlock ∧ some k_ ≠ (.slice Ao42 t119.length co42 : Value).ownBlock ∧ some k_ ≠ (.slice Ao45 t122.length co45 : Value).ownBlock ∧ some k_ ≠ (.slice Ao55 t134.length co55 : Value).ownBlock ∧ some k_ ≠ (.slice Ao56 t137.length co56 : Value).ownBlock) (Kd.RR_keptB ((Kd.RR_apart' HO128.out (Kd.RR_typed HO118.out) (by decide))) hkp (fun k_ hk_ hs_ => (hk_.2) hs_)) (fun k_ hk_ => ⟨hk_.1.1.1.1.1.1.1.1.2, hk_.1.1.1.1.1.1.1.2, hk_.1.1.1.1.1.1.2, hk_.1.1.1.1.1.2, hk_.1.1.1.1.2, hk_.1.1.1.2, hk_.1.1.2⟩)); have n10_ := Aside0.mk (Kd.RR_mono (ok' := fun k_ => some k_ ≠ (.slice Ao34 t104.length co34 : Value).ownBlock ∧ some k_ ≠ (.slice Ao46 t116.length co46 : Value).ownBlock) (Kd.RR_keptB (HO132.out) hkp (fun k_ hk_ hs_ => (hk_.2) hs_)) (fun k_ hk_ => ⟨hk_.1.1.2, hk_.1.2⟩)); have n11_ := Aside0.mk (Kd.RR_mono (ok' := fun k_ => some k_ ≠ (.slice Ao35 t107.length co35 : Value).ownBlock ∧ some k_ ≠ (.slice Ao36 t110.length co36 : Value).ownBlock ∧ some k_ ≠ (.slice Ao49 t113.length co49 : Value).ownBlock ∧ some k_ ≠ (.slice Ao42 t119.length co42 : Value).ownBlock ∧ some k_ ≠ (.slice Ao45 t122.length co45 : Value).ownBlock ∧ some k_ ≠ (.slice Ao48 t126.length co48 : Value).ownBlock ∧ some k_ ≠ (.slice Ao56 t137.length co56 : Value).ownBlock) (Kd.RR_keptB ((Kd.RR_apart' HO136.out (Kd.RR_typed HO118.out) (by decide))) hkp (fun k_ hk_ hs_ => (hk_.2) hs_)) (fun k_ hk_ => ⟨hk_.1.1.1.1.1.1.1.2, hk_.1.1.1.1.1.1.2, hk_.1.1.1.1.1.2, hk_.1.1.1.1.2, hk_.1.1.1.2, hk_.1.1.2, hk_.1.1.1.1.1.1.1.1⟩)); have n12_ := Aside0.mk (Kd.RR_mono (ok' := fun k_ => some k_ ≠ (.slice Ao35 t107.length co35 : Value).ownBlock ∧ some k_ ≠ (.slice Ao36 t110.length co36 : Value).ownBlock ∧ some k_ ≠ (.slice Ao49 t113.length co49 : Value).ownBlock ∧ some k_ ≠ (.slice Ao42 t119.length co42 : Value).ownBlock ∧ some k_ ≠ (.slice Ao45 t122.length co45 : Value).ownBlock ∧ some k_ ≠ (.slice Ao48 t126.length co48 : Value).ownBlock ∧ some k_ ≠ (.slice Ao55 t134.length co55 : Value).ownBlock) (Kd.RR_keptB ((Kd.RR_apart' HO139.out (Kd.RR_typed HO118.out) (by decide))) hkp (fun k_ hk_ hs_ => (hk_.2) hs_)) (fun k_ hk_ => ⟨hk_.1.1.1.1.1.1.1.2, hk_.1.1.1.1.1.1.2, hk_.1.1.1.1.1.2, hk_.1.1.1.1.2, hk_.1.1.1.2, hk_.1.1.2, hk_.1.1.1.1.1.1.1.1⟩)); have n13_ := Aside0.mk (hb); clear BK101; clear HO106; clear HO109; clear HO112; clear HO115; clear HO118; clear HO121; clear HO124; clear BK125; clear HO128; clear HO132; clear HO136; clear HO139; clear HB; have BK101 := n0_; have HO106 := n1_; have HO109 := n2_; have HO112 := n3_; have HO115 := n4_; have HO118 := n5_; have HO121 := n6_; have HO124 := n7_; have BK125 := n8_; have HO128 := n9_; have HO132 := n10_; have HO136 := n11_; have HO139 := n12_; have HB := n13_; clear n0_ n1_ n2_ n3_ n4_ n5_ n6_ n7_ n8_ n9_ n10_ n11_ n12_ n13_; (try clear hb); (try clear hkp); (try clear hy0); have hcz59_0 : w58.cell? ⟨gb125, 0, none⟩ = some (.slice Ao42 t119.length co42) := (blk_cell BK125.out 0).trans rfl; have hcz59_1 : w58.cell? ⟨gb125, 1, none⟩ = some (.slice Ao45 t122.length co45) := (blk_cell BK125.out 1).trans rfl; have hfz59_0 := blk_frozen BK125.out 0; have hfz59_1 := blk_frozen BK125.out 1) | ((with_reducible refine gate_callee (f := 25) rfl ?_); refine goesL_ (some 55) rfl rfl Try.func25 (by kernel_rfl) rfl #[.agg #[.slice Ao42 t119.length co42, .slice Ao45 t122.length co45], .int .i64 t141] rfl (by (try simp only [List.map_toArray, List.map_cons, List.map_nil]); first | done | rfl | (simp only [List.length_drop, List.length_take]; rfl)) ?_; (with_reducible refine (laws_markSchedule.callsRR k (fun k_ => some k_ = (.slice Ao42 t119.length co42 : Value).ownBlock) (.slice Ao42 t119.length co42) t119 (fun k_ => some k_ = (.slice Ao45 t122.length co45 : Value).ownBlock) (.slice Ao45 t122.length co45) t122 t141 t143 t144 t145 w _ ?side1 ?side2 ?side3 ?side4 ?side5 A26.out).mono ?_); (case side1 => repeat (first | (with_reducible first | exact HB.out | apply below_alloc | apply pw_below_drewN | apply below_drew1 | refine below_set ?_ GE101.out | refine below_set ?_ GE125.out) | exact HB.out)); (case side2 => exact Kd.RR_tight rfl HO121.out); (case side3 => exact fun k_ e_ => (Kd.RR_ok HO121.out k_ e_.symm).2.2.2.1); (case side4 => exact Kd.RR_tight rfl HO124.out); (case side5 => exact fun k_ e_ => (Kd.RR_ok HO124.out k_ e_.symm).2.2.2.1); rintro e w60 ⟨rfl, hy0, hy1, hb, hkp⟩; refine ⟨_, rfl, ?_⟩; have n0_ := Aside0.mk (blk_kept (by (with_reducible repeat (first | refine blk_drewN ?_ _ | refine blk_drew ?_ | refine blk_alloc ?_ _)); exact BK101.out) hkp (fun hs_ => Or.elim hs_ (fun e_ => (fun e_ => (Kd.RR_ne HO121.out BK101.out (by decide)) e_) e_) (fun e_ => (fun e_ => (Kd.RR_ne HO124.out BK101.out (by decide)) e_) e_))); have n1_ := Aside0.mk (Kd.RR_mono (ok' := fun k_ => some k_ ≠ (.slice Ao46 t116.length co46 : Value).ownBlock ∧ some k_ ≠ (.slice Ao51 t130.length co51 : Value).ownBlock) (Kd.RR_keptB ((Kd.RR_apart' (Kd.RR_apart' HO106.out (Kd.RR_typed HO121.out) (by decide)) (Kd.RR_typed HO124.out) (by decide))) hkp (fun k_ hk_ hs_ => Or.elim hs_ (fun e_ => (hk_.1.2) e_) (fun e_ => (hk_.2) e_))) (fun k_ hk_ => ⟨hk_.1.1.1.1, hk_.1.1.1.2⟩)); have n2_ := Aside0.mk (Kd.RR_mono (ok' := fun k_ => some k_ ≠ (.slice Ao36 t110.length co36 : Value).ownBlock ∧ some k_ ≠ (.slice Ao49 t113.length co49 : Value).ownBlock ∧ some k_ ≠ (.slice Ao42 t119.length co42 : Value).ownBlock ∧ some k_ ≠ (.slice Ao45 t122.length co45 : Value).ownBlock ∧ some k_ ≠ (.slice Ao48 t126.length co48 : Value).ownBlock ∧ some k_ ≠ (.slice Ao55 t134.length co55 : Value).ownBlock ∧ some k_ ≠ (.slice Ao56 t137.length co56 : Value).ownBlock) (Kd.RR_keptB (HO109.out) hkp (fun k_ hk_ hs_ => Or.elim hs_ (fun e_ => (hk_.2.2.1) e_) (fun e_ => (hk_.2.2.2.1) e_))) (fun k_ hk_ => ⟨hk_.1.1, hk_.1.2.1, hk_.1.2.2.1, hk_.1.2.2.2.1, hk_.1.2.2.2.2.1, hk_.1.2.2.2.2.2.1, hk_.1.2.2.2.2.2.2⟩)); have n3_ := Aside0.mk (Kd.RR_mono (ok' := fun k_ => some k_ ≠ (.slice Ao35 t107.length co35 : Value).ownBlock ∧ some k_ ≠ (.slice Ao49 t113.length co49 : Value).ownBlock ∧ some k_ ≠ (.slice Ao42 t119.length co42 : Value).ownBlock ∧ some k_ ≠ (.slice Ao45 t122.length co45 : Value).ownBlock ∧ some k_ ≠ (.slice Ao48 t126.length co48 : Value).ownBlock ∧ some k_ ≠ (.slice Ao55 t134.length co55 : Value).ownBlock ∧ some k_ ≠ (.slice Ao56 t137.length co56 : Value).ownBlock) (Kd.RR_keptB (HO112.out) hkp (fun k_ hk_ hs_ => Or.elim hs_ (fun e_ => (hk_.2.2.1) e_) (fun e_ => (hk_.2.2.2.1) e_))) (fun k_ hk_ => ⟨hk_.1.1, hk_.1.2.1, hk_.1.2.2.1, hk_.1.2.2.2.1, hk_.1.2.2.2.2.1, hk_.1.2.2.2.2.2.1, hk_.1.2.2.2.2.2.2⟩)); have n4_ := Aside0.mk (Kd.RR_mono (ok' := fun k_ => some k_ ≠ (.slice Ao35 t107.length co35 : Value).ownBlock ∧ some k_ ≠ (.slice Ao36 t110.length co36 : Value).ownBlock ∧ some k_ ≠ (.slice Ao42 t119.length co42 : Value).ownBlock ∧ some k_ ≠ (.slice Ao45 t122.length co45 : Value).ownBlock ∧ some k_ ≠ (.slice Ao48 t126.length co48 : Value).ownBlock ∧ some k_ ≠ (.slice Ao55 t134.length co55 : Value).ownBlock ∧ some k_ ≠ (.slice Ao56 t137.length co56 : Value).ownBlock) (Kd.RR_keptB (HO115.out) hkp (fun k_ hk_ hs_ => Or.elim hs_ (fun e_ => (hk_.2.2.1) e_) (fun e_ => (hk_.2.2.2.1) e_))) (fun k_ hk_ => ⟨hk_.1.1, hk_.1.2.1, hk_.1.2.2.1, hk_.1.2.2.2.1, hk_.1.2.2.2.2.1, hk_.1.2.2.2.2.2.1, hk_.1.2.2.2.2.2.2⟩)); have n5_ := Aside0.mk (Kd.RR_mono (ok' := fun k_ => some k_ ≠ (.slice Ao34 t104.length co34 : Value).ownBlock ∧ some k_ ≠ (.slice Ao51 t130.length co51 : Value).ownBlock) (Kd.RR_keptB ((Kd.RR_apart' (Kd.RR_apart' HO118.out (Kd.RR_typed HO121.out) (by decide)) (Kd.RR_typed HO124.out) (by decide))) hkp (fun k_ hk_ hs_ => Or.elim hs_ (fun e_ => (hk_.1.2) e_) (fun e_ => (hk_.2) e_))) (fun k_ hk_ => ⟨hk_.1.1.1.1.2, hk_.1.1.1.2⟩)); have n6_ := Aside0.mk (Kd.RR_reok rfl hy0 (fun k_ e_ => Kd.RR_ok HO121.out k_ e_)); have n7_ := Aside0.mk (Kd.RR_reok rfl hy1 (fun k_ e_ => Kd.RR_ok HO124.out k_ e_)); have n8_ := Aside0.mk (blk_kept (by (with_reducible repeat (first | refine blk_drewN ?_ _ | refine blk_drew ?_ | refine blk_alloc ?_ _)); exact BK125.out) hkp (fun hs_ => Or.elim hs_ (fun e_ => (fun e_ => (Kd.RR_ne HO121.out BK125.out (by decide)) e_) e_) (fun e_ => (fun e_ => (Kd.RR_ne HO124.out BK125.out (by decide)) e_) e_))); have n9_ := Aside0.mk (Kd.RR_mono (ok' := fun k_ => some k_ ≠ (.slice Ao35 t107.length co35 : Value).ownBlock ∧ some k_ ≠ (.slice Ao36 t110.length co36 : Value).ownBlock ∧ some k_ ≠ (.slice Ao49 t113.length co49 : Value).ownBlock ∧ some k_ ≠ (.slice Ao42 t119.length co42 : Value).ownBlock ∧ some k_ ≠ (.slice Ao45 t122.length co45 : Value).ownBlock ∧ some k_ ≠ (.slice Ao55 t134.length co55 : Value).ownBlock ∧ some k_ ≠ (.slice Ao56 t137.length co56 : Value).ownBlock) (Kd.RR_keptB (HO128.out) hkp (fun k_ hk_ hs_ => Or.elim hs_ (fun e_ => (hk_.2.2.2.1) e_) (fun e_ => (hk_.2.2.2.2.1) e_))) (fun k_ hk_ => ⟨hk_.1.1, hk_.1.2.1, hk_.1.2.2.1, hk_.1.2.2.2.1, hk_.1.2.2.2.2.1, hk_.1.2.2.2.2.2.1, hk_.1.2.2.2.2.2.2⟩)); have n10_ := Aside0.mk (Kd.RR_mono (ok' := fun k_ => some k_ ≠ (.slice Ao34 t104.length co34 : Value).ownBlock ∧ some k_ ≠ (.slice Ao46 t116.length co46 : Value).ownBlock) (Kd.RR_keptB ((Kd.RR_apart' (Kd.RR_apart' HO132.out (Kd.RR_typed HO121.out) (by decide)) (Kd.RR_typed HO124.out) (by decide))) hkp (fun k_ hk_ hs_ => Or.elim hs_ (fun e_ => (hk_.1.2) e_) (fun e_ => (hk_.2) e_))) (fun k_ hk_ => ⟨hk_.1.1.1.1, hk_.1.1.1.2⟩)); have n11_ := Aside0.mk (Kd.RR_mono (ok' := fun k_ => some k_ ≠ (.slice Ao35 t107.length co35 : Value).ownBlock ∧ some k_ ≠ (.slice Ao36 t110.length co36 : Value).ownBlock ∧ some k_ ≠ (.slice Ao49 t113.length co49 : Value).ownBlock ∧ some k_ ≠ (.slice Ao42 t119.length co42 : Value).ownBlock ∧ some k_ ≠ (.slice Ao45 t122.length co45 : Value).ownBlock ∧ some k_ ≠ (.slice Ao48 t126.length co48 : Value).ownBlock ∧ some k_ ≠ (.slice Ao56 t137.length co56 : Value).ownBlock) (Kd.RR_keptB (HO136.out) hkp (fun k_ hk_ hs_ => Or.elim hs_ (fun e_ => (hk_.2.2.2.1) e_) (fun e_ => (hk_.2.2.2.2.1) e_))) (fun k_ hk_ => ⟨hk_.1.1, hk_.1.2.1, hk_.1.2.2.1, hk_.1.2.2.2.1, hk_.1.2.2.2.2.1, hk_.1.2.2.2.2.2.1, hk_.1.2.2.2.2.2.2⟩)); have n12_ := Aside0.mk (Kd.RR_mono (ok' := fun k_ => some k_ ≠ (.slice Ao35 t107.length co35 : Value).ownBlock ∧ some k_ ≠ (.slice Ao36 t110.length co36 : Value).ownBlock ∧ some k_ ≠ (.slice Ao49 t113.length co49 : Value).ownBlock ∧ some k_ ≠ (.slice Ao42 t119.length co42 : Value).ownBlock ∧ some k_ ≠ (.slice Ao45 t122.length co45 : Value).ownBlock ∧ some k_ ≠ (.slice Ao48 t126.length co48 : Value).ownBlock ∧ some k_ ≠ (.slice Ao55 t134.length co55 : Value).ownBlock) (Kd.RR_keptB (HO139.out) hkp (fun k_ hk_ hs_ => Or.elim hs_ (fun e_ => (hk_.2.2.2.1) e_) (fun e_ => (hk_.2.2.2.2.1) e_))) (fun k_ hk_ => ⟨hk_.1.1, hk_.1.2.1, hk_.1.2.2.1, hk_.1.2.2.2.1, hk_.1.2.2.2.2.1, hk_.1.2.2.2.2.2.1, hk_.1.2.2.2.2.2.2⟩)); have n13_ := Aside0.mk (hb); clear BK101; clear HO106; clear HO109; clear HO112; clear HO115; clear HO118; clear HO121; clear HO124; clear BK125; clear HO128; clear HO132; clear HO136; clear HO139; clear HB; have BK101 := n0_; have HO106 := n1_; have HO109 := n2_; have HO112 := n3_; have HO115 := n4_; have HO118 := n5_; have HO121 := n6_; have HO124 := n7_; have BK125 := n8_; have HO128 := n9_; have HO132 := n10_; have HO136 := n11_; have HO139 := n12_; have HB := n13_; clear n0_ n1_ n2_ n3_ n4_ n5_ n6_ n7_ n8_ n9_ n10_ n11_ n12_ n13_; (try clear hb); (try clear hkp); (try clear hy0); (try clear hy1)))
            (try simp only [Act.put, List.setIfInBounds_toArray, List.set_cons_zero, List.set_cons_succ])
            go_cut [63] (fun v63 wc => ∃ (kq : Nat) (x63_26 : Bool), v63 = .bool x63_26 ∧ Aside0 (laws_FnExactMissed.j0 kq l0 t113 t126 x63_26 l1_0 l1_1 = some true) ∧ Aside0 (kq ≤ k) ∧ Aside0 (Kd.RR (Kd.int .i64) 3 wc w.heap.size (fun k_ => some k_ ≠ ((.slice Ao48 t126.length co48) : Value).ownBlock ∧ some k_ ≠ ((.slice Ao42 t119.length co42) : Value).ownBlock ∧ some k_ ≠ ((.slice Ao45 t122.length co45) : Value).ownBlock) (.slice Ao49 t113.length co49) t113) ∧ Aside0 (Kd.RR (Kd.int .i64) 3 wc w.heap.size (fun k_ => some k_ ≠ ((.slice Ao49 t113.length co49) : Value).ownBlock ∧ some k_ ≠ ((.slice Ao42 t119.length co42) : Value).ownBlock ∧ some k_ ≠ ((.slice Ao45 t122.length co45) : Value).ownBlock) (.slice Ao48 t126.length co48) t126) ∧ Aside0 (Kd.RR (Kd.int .i64) 3 wc w.heap.size (fun k_ => some k_ ≠ ((.slice Ao49 t113.length co49) : Value).ownBlock ∧ some k_ ≠ ((.slice Ao48 t126.length co48) : Value).ownBlock ∧ some k_ ≠ ((.slice Ao45 t122.length co45) : Value).ownBlock) (.slice Ao42 t119.length co42) t144) ∧ Aside0 (Kd.RR (Kd.int .i64) 3 wc w.heap.size (fun k_ => some k_ ≠ ((.slice Ao49 t113.length co49) : Value).ownBlock ∧ some k_ ≠ ((.slice Ao48 t126.length co48) : Value).ownBlock ∧ some k_ ≠ ((.slice Ao42 t119.length co42) : Value).ownBlock) (.slice Ao45 t122.length co45) t145) ∧ Aside0 (wc.heap[gb101]? = some (.cells #[(.slice A1_0 l1_0.length c1_0), (.slice A1_1 l1_1.length c1_1)] 25 (0, 0))) ∧ Aside0 (wc.heap[gb125]? = some (.cells #[(.slice Ao42 t119.length co42), (.slice Ao45 t122.length co45)] 31 (0, 0))) ∧ Aside0 (Below w.heap.size w wc))
            case first =>
              have H := HC27.out
              clear HC27
              by_cases c61 : t143 < 0
              · rw [if_pos c61] at H
                have c61b0 : decide (t143 < 0) = true := decide_eq_true c61
                clear c61
                (first | rw [c61b0] | (simp only [i64_w, i32_w]; rw [c61b0]) | skip)
                have H' := Aside0.mk H
                clear H
                go_wp2
                go_meet
                case rel => exact ⟨_, (true), (by first | rfl | (simp; done) | (simp [*]; done) | (simp only [i64_w, i32_w]; done) | (simp [*, i64_w, i32_w]; done)), H', ⟨by first | omega | exact Nat.le_refl _⟩, ⟨by (with_reducible repeat (first | apply Kd.RR_alloc | apply Kd.RR_drewN | apply Kd.RR_drew)); exact Kd.RR_mono HO115.out (fun _ hk => ⟨hk.2.2.2.2.1, ⟨hk.2.2.1, hk.2.2.2.1⟩⟩)⟩, ⟨by (with_reducible repeat (first | apply Kd.RR_alloc | apply Kd.RR_drewN | apply Kd.RR_drew)); exact Kd.RR_mono HO128.out (fun _ hk => ⟨hk.2.2.1, ⟨hk.2.2.2.1, hk.2.2.2.2.1⟩⟩)⟩, ⟨by (with_reducible repeat (first | apply Kd.RR_alloc | apply Kd.RR_drewN | apply Kd.RR_drew)); exact Kd.RR_mono HO121.out (fun _ hk => ⟨hk.2.2.1, ⟨hk.2.2.2.2.1, hk.2.2.2.1⟩⟩)⟩, ⟨by (with_reducible repeat (first | apply Kd.RR_alloc | apply Kd.RR_drewN | apply Kd.RR_drew)); exact Kd.RR_mono HO124.out (fun _ hk => ⟨hk.2.2.1, ⟨hk.2.2.2.2.1, hk.2.2.2.1⟩⟩)⟩, ⟨by (with_reducible repeat (first | refine blk_drewN ?_ _ | refine blk_drew ?_ | refine blk_alloc ?_ _)); exact BK101.out⟩, ⟨by (with_reducible repeat (first | refine blk_drewN ?_ _ | refine blk_drew ?_ | refine blk_alloc ?_ _)); exact BK125.out⟩, ⟨by repeat (first | (with_reducible first | exact HB.out | apply below_alloc | apply pw_below_drewN | apply below_drew1 | refine below_set ?_ GE101.out | refine below_set ?_ GE125.out) | exact HB.out)⟩⟩
              · rw [if_neg c61] at H
                have c61b0 : decide (t143 < 0) = false := decide_eq_false c61
                clear c61
                (first | rw [c61b0] | (simp only [i64_w, i32_w]; rw [c61b0]) | skip)
                replace H := Option.bind_eq_some_iff.mp H
                obtain ⟨t146, A620, H⟩ := H
                replace H : (laws_FnExactMissed.j0 k l0 t113 t126 (!t146) l1_0 l1_1) = some true := H
                have A62 := Aside0.mk A620
                clear A620
                have H' := Aside0.mk H
                clear H
                go_wp2_with (first | (go_at_call 21; (with_reducible refine (laws_eqIntS.calls k _ _ t126 _ _ t113 t146 _ ?side1 ?side2 ?side3 ?side4 A62.out).mono ?_); (case side1 => repeat (first | exact (Kd.RR_reads' HO128.out).2.2 | (with_reducible refine Kd.C_alloc ?_ _) | (with_reducible refine Kd.C_drewN ?_ _) | (with_reducible refine Kd.C_drew ?_))); (case side2 => exact (Kd.RR_reads' HO128.out).2.1); (case side3 => repeat (first | exact (Kd.RR_reads' HO115.out).2.2 | (with_reducible refine Kd.C_alloc ?_ _) | (with_reducible refine Kd.C_drewN ?_ _) | (with_reducible refine Kd.C_drew ?_))); (case side4 => exact (Kd.RR_reads' HO115.out).2.1); rintro e w' ⟨rfl, ⟨nd, rfl⟩⟩))
                go_meet
                case rel => exact ⟨_, (!t146), (by first | rfl | (simp; done) | (simp [*]; done) | (simp only [i64_w, i32_w]; done) | (simp [*, i64_w, i32_w]; done)), H', ⟨by first | omega | exact Nat.le_refl _⟩, ⟨by (with_reducible repeat (first | apply Kd.RR_alloc | apply Kd.RR_drewN | apply Kd.RR_drew)); exact Kd.RR_mono HO115.out (fun _ hk => ⟨hk.2.2.2.2.1, ⟨hk.2.2.1, hk.2.2.2.1⟩⟩)⟩, ⟨by (with_reducible repeat (first | apply Kd.RR_alloc | apply Kd.RR_drewN | apply Kd.RR_drew)); exact Kd.RR_mono HO128.out (fun _ hk => ⟨hk.2.2.1, ⟨hk.2.2.2.1, hk.2.2.2.2.1⟩⟩)⟩, ⟨by (with_reducible repeat (first | apply Kd.RR_alloc | apply Kd.RR_drewN | apply Kd.RR_drew)); exact Kd.RR_mono HO121.out (fun _ hk => ⟨hk.2.2.1, ⟨hk.2.2.2.2.1, hk.2.2.2.1⟩⟩)⟩, ⟨by (with_reducible repeat (first | apply Kd.RR_alloc | apply Kd.RR_drewN | apply Kd.RR_drew)); exact Kd.RR_mono HO124.out (fun _ hk => ⟨hk.2.2.1, ⟨hk.2.2.2.2.1, hk.2.2.2.1⟩⟩)⟩, ⟨by (with_reducible repeat (first | refine blk_drewN ?_ _ | refine blk_drew ?_ | refine blk_alloc ?_ _)); exact BK101.out⟩, ⟨by (with_reducible repeat (first | refine blk_drewN ?_ _ | refine blk_drew ?_ | refine blk_alloc ?_ _)); exact BK125.out⟩, ⟨by repeat (first | (with_reducible first | exact HB.out | apply below_alloc | apply pw_below_drewN | apply below_drew1 | refine below_set ?_ GE101.out | refine below_set ?_ GE125.out) | exact HB.out)⟩⟩
            case rest =>
              clear HC27
              try clear c1
              try clear c2
              try clear p2
              try clear c3
              try clear c4
              try clear c4b0
              try clear c6
              try clear c7
              try clear c7b0
              try clear c15
              try clear c16
              try clear c17
              try clear c18
              try clear c19
              try clear c20
              try clear c21
              try clear c22
              try clear c23
              try clear c24
              try clear c25
              try clear c43
              try clear c61
              try clear c61b0
              try clear hcz29_0
              try clear hcz29_1
              try clear hcz39_0
              try clear hcz39_1
              try clear hcz44_0
              try clear hcz44_1
              try clear hcz59_0
              try clear hcz59_1
              try clear hcz9_0
              try clear hcz9_1
              try clear hfz29_0
              try clear hfz29_1
              try clear hfz39_0
              try clear hfz39_1
              try clear hfz44_0
              try clear hfz44_1
              try clear hfz59_0
              try clear hfz59_1
              try clear hfz9_0
              try clear hfz9_1
              obtain ⟨kq, x63_26, rfl, HA, HJ26, HO_6, HO_9, HO_126000, HO_126001, BK101, BK125, HB⟩ := hcut
              have hl126000_26 := (Kd.RR_reads' HO_126000.out).1
              rw [hl126000_26] at HO_126000
              (try simp only [hl126000_26])
              (try simp only [hl126000_26] at BK101)
              (try simp only [hl126000_26] at BK125)
              (try simp only [hl126000_26] at HO_6)
              (try simp only [hl126000_26] at HO_9)
              (try simp only [hl126000_26] at HO_126001)
              have hl126001_26 := (Kd.RR_reads' HO_126001.out).1
              rw [hl126001_26] at HO_126001
              (try simp only [hl126001_26])
              (try simp only [hl126001_26] at BK101)
              (try simp only [hl126001_26] at BK125)
              (try simp only [hl126001_26] at HO_6)
              (try simp only [hl126001_26] at HO_9)
              (try simp only [hl126001_26] at HO_126000)
              cases kq with
              | zero => exact absurd HA.out (by simp [laws_FnExactMissed.j0])
              | succ kj26 =>
                have H := HA.out
                clear HA
                simp only [laws_FnExactMissed.j0] at H
                by_cases c63 : x63_26 = true
                · subst c63
                  have H1 : (some false) = some true := by rw [if_pos rfl] at H; exact H
                  clear H
                  have H := H1
                  clear H1
                  exact absurd H (by simp)
                · replace c63 := Bool.eq_false_iff.mpr c63
                  subst c63
                  have H1 : ((laws_markIntS.f kj26 t126 1).bind fun bt147 => ((laws_heldIntS.f kj26 bt147.2 1).bind fun t149 => (if t149 < 0 then (some false) else (if t149 = bt147.1 then ((laws_toJobS.f kj26 l0).bind fun t150 => ((laws_toSchedule.f kj26 l1_0 l1_1).bind fun bt153 => ((impl_Missed.f t150 bt153.1 bt153.2).bind fun t159 => ((laws_eqIntS.f kj26 t159 t113).bind fun t162 => (if t162 = true then ((laws_heldIntS.f kj26 bt147.2 1).bind fun t163 => (if t163 < 0 then (some false) else (if t163 = bt147.1 then (some true) else (some false)))) else (some false)))))) else (some false))))) = some true := by rw [if_neg (show ¬ (false = true) by decide)] at H; exact H
                  clear H
                  have H := H1
                  clear H1
                  replace H := Option.bind_eq_some_iff.mp H
                  obtain ⟨⟨t147, t148⟩, A640, H⟩ := H
                  replace H : ((laws_heldIntS.f kj26 t148 1).bind fun t149 => (if t149 < 0 then (some false) else (if t149 = t147 then ((laws_toJobS.f kj26 l0).bind fun t150 => ((laws_toSchedule.f kj26 l1_0 l1_1).bind fun bt153 => ((impl_Missed.f t150 bt153.1 bt153.2).bind fun t159 => ((laws_eqIntS.f kj26 t159 t113).bind fun t162 => (if t162 = true then ((laws_heldIntS.f kj26 t148 1).bind fun t163 => (if t163 < 0 then (some false) else (if t163 = t147 then (some true) else (some false)))) else (some false)))))) else (some false)))) = some true := H
                  have A64 := Aside0.mk A640
                  clear A640
                  replace H := Option.bind_eq_some_iff.mp H
                  obtain ⟨t149, A650, H⟩ := H
                  replace H : (if t149 < 0 then (some false) else (if t149 = t147 then ((laws_toJobS.f kj26 l0).bind fun t150 => ((laws_toSchedule.f kj26 l1_0 l1_1).bind fun bt153 => ((impl_Missed.f t150 bt153.1 bt153.2).bind fun t159 => ((laws_eqIntS.f kj26 t159 t113).bind fun t162 => (if t162 = true then ((laws_heldIntS.f kj26 t148 1).bind fun t163 => (if t163 < 0 then (some false) else (if t163 = t147 then (some true) else (some false)))) else (some false)))))) else (some false))) = some true := H
                  have A65 := Aside0.mk A650
                  clear A650
                  by_cases c66 : t149 < 0
                  · rw [if_pos c66] at H
                    have c66b0 : decide (t149 < 0) = true := decide_eq_true c66
                    (try (have c66r0 := c66b0; simp only [hl126000_26, hl126001_26] at c66r0))
                    clear c66
                    exact absurd H (by simp)
                  · rw [if_neg c66] at H
                    have c66b0 : decide (t149 < 0) = false := decide_eq_false c66
                    (try (have c66r0 := c66b0; simp only [hl126000_26, hl126001_26] at c66r0))
                    clear c66
                    by_cases c68 : t149 = t147
                    · rw [if_pos c68] at H
                      have c68b0 : (t149 == t147) = true := beq_iff_eq.mpr c68
                      (try (have c68r0 := c68b0; simp only [hl126000_26, hl126001_26] at c68r0))
                      have c68b1 : (t149 != t147) = false := bne_eq_false_iff_eq.mpr c68
                      (try (have c68r1 := c68b1; simp only [hl126000_26, hl126001_26] at c68r1))
                      clear c68
                      replace H := Option.bind_eq_some_iff.mp H
                      obtain ⟨t150, A690, H⟩ := H
                      replace H : ((laws_toSchedule.f kj26 l1_0 l1_1).bind fun bt153 => ((impl_Missed.f t150 bt153.1 bt153.2).bind fun t159 => ((laws_eqIntS.f kj26 t159 t113).bind fun t162 => (if t162 = true then ((laws_heldIntS.f kj26 t148 1).bind fun t163 => (if t163 < 0 then (some false) else (if t163 = t147 then (some true) else (some false)))) else (some false))))) = some true := H
                      have A69 := Aside0.mk A690
                      clear A690
                      replace H := Option.bind_eq_some_iff.mp H
                      obtain ⟨⟨t153, t156⟩, A700, H⟩ := H
                      replace H : ((impl_Missed.f t150 t153 t156).bind fun t159 => ((laws_eqIntS.f kj26 t159 t113).bind fun t162 => (if t162 = true then ((laws_heldIntS.f kj26 t148 1).bind fun t163 => (if t163 < 0 then (some false) else (if t163 = t147 then (some true) else (some false)))) else (some false)))) = some true := H
                      have A70 := Aside0.mk A700
                      clear A700
                      replace H := Option.bind_eq_some_iff.mp H
                      obtain ⟨t159, A710, H⟩ := H
                      replace H : ((laws_eqIntS.f kj26 t159 t113).bind fun t162 => (if t162 = true then ((laws_heldIntS.f kj26 t148 1).bind fun t163 => (if t163 < 0 then (some false) else (if t163 = t147 then (some true) else (some false)))) else (some false))) = some true := H
                      have A71 := Aside0.mk A710
                      clear A710
                      replace H := Option.bind_eq_some_iff.mp H
                      obtain ⟨t162, A720, H⟩ := H
                      replace H : (if t162 = true then ((laws_heldIntS.f kj26 t148 1).bind fun t163 => (if t163 < 0 then (some false) else (if t163 = t147 then (some true) else (some false)))) else (some false)) = some true := H
                      have A72 := Aside0.mk A720
                      clear A720
                      by_cases c73 : t162 = true
                      · subst c73
                        have H1 : ((laws_heldIntS.f kj26 t148 1).bind fun t163 => (if t163 < 0 then (some false) else (if t163 = t147 then (some true) else (some false)))) = some true := by rw [if_pos rfl] at H; exact H
                        clear H
                        have H := H1
                        clear H1
                        replace H := Option.bind_eq_some_iff.mp H
                        obtain ⟨t163, A740, H⟩ := H
                        replace H : (if t163 < 0 then (some false) else (if t163 = t147 then (some true) else (some false))) = some true := H
                        have A74 := Aside0.mk A740
                        clear A740
                        by_cases c75 : t163 < 0
                        · rw [if_pos c75] at H
                          have c75b0 : decide (t163 < 0) = true := decide_eq_true c75
                          (try (have c75r0 := c75b0; simp only [hl126000_26, hl126001_26] at c75r0))
                          clear c75
                          exact absurd H (by simp)
                        · rw [if_neg c75] at H
                          have c75b0 : decide (t163 < 0) = false := decide_eq_false c75
                          (try (have c75r0 := c75b0; simp only [hl126000_26, hl126001_26] at c75r0))
                          clear c75
                          by_cases c85 : t163 = t147
                          · rw [if_pos c85] at H
                            have c85b0 : (t163 == t147) = true := beq_iff_eq.mpr c85
                            (try (have c85r0 := c85b0; simp only [hl126000_26, hl126001_26] at c85r0))
                            have c85b1 : (t163 != t147) = false := bne_eq_false_iff_eq.mpr c85
                            (try (have c85r1 := c85b1; simp only [hl126000_26, hl126001_26] at c85r1))
                            clear c85
                            try (obtain rfl := Option.some.inj H)
                            try go_wp2_with (first | ((with_reducible refine gate_callee (f := 26) rfl ?_); refine goesL_ (some 66) rfl rfl Try.func26 (by kernel_rfl) rfl #[.slice Ao48 t126.length co48, .int .i64 1] rfl (by (try simp only [List.map_toArray, List.map_cons, List.map_nil]); first | done | rfl | (simp only [List.length_drop, List.length_take]; rfl)) ?_; (with_reducible refine (laws_markIntS.callsRR kj26 (fun k_ => some k_ = (.slice Ao48 t126.length co48 : Value).ownBlock) (.slice Ao48 t126.length co48) t126 1 t147 t148 w _ ?side1 ?side2 A64.out).mono ?_); (case side1 => repeat (first | (with_reducible first | exact HB.out | apply below_alloc | apply pw_below_drewN | apply below_drew1 | refine below_set ?_ GE101.out | refine below_set ?_ GE125.out) | exact HB.out)); (case side2 => exact Kd.RR_tight rfl HO_9.out); rintro e w86 ⟨rfl, hy0, hb, hkp⟩; refine ⟨_, rfl, ?_⟩; have n0_ := Aside0.mk (Kd.RR_mono (ok' := fun k_ => some k_ ≠ (.slice Ao48 t126.length co48 : Value).ownBlock ∧ some k_ ≠ (.slice Ao42 t144.length co42 : Value).ownBlock ∧ some k_ ≠ (.slice Ao45 t145.length co45 : Value).ownBlock) (Kd.RR_keptB (HO_6.out) hkp (fun k_ hk_ hs_ => (hk_.1) hs_)) (fun k_ hk_ => ⟨hk_.1.1, hk_.1.2.1, hk_.1.2.2⟩)); have n1_ := Aside0.mk (Kd.RR_reok rfl hy0 (fun k_ e_ => Kd.RR_ok HO_9.out k_ e_)); have n2_ := Aside0.mk (Kd.RR_mono (ok' := fun k_ => some k_ ≠ (.slice Ao49 t113.length co49 : Value).ownBlock ∧ some k_ ≠ (.slice Ao48 t126.length co48 : Value).ownBlock ∧ some k_ ≠ (.slice Ao45 t145.length co45 : Value).ownBlock) (Kd.RR_keptB (HO_126000.out) hkp (fun k_ hk_ hs_ => (hk_.2.1) hs_)) (fun k_ hk_ => ⟨hk_.1.1, hk_.1.2.1, hk_.1.2.2⟩)); have n3_ := Aside0.mk (Kd.RR_mono (ok' := fun k_ => some k_ ≠ (.slice Ao49 t113.length co49 : Value).ownBlock ∧ some k_ ≠ (.slice Ao48 t126.length co48 : Value).ownBlock ∧ some k_ ≠ (.slice Ao42 t144.length co42 : Value).ownBlock) (Kd.RR_keptB (HO_126001.out) hkp (fun k_ hk_ hs_ => (hk_.2.1) hs_)) (fun k_ hk_ => ⟨hk_.1.1, hk_.1.2.1, hk_.1.2.2⟩)); have n4_ := Aside0.mk (blk_kept (by (with_reducible repeat (first | refine blk_drewN ?_ _ | refine blk_drew ?_ | refine blk_alloc ?_ _)); exact BK101.out) hkp (fun hs_ => (fun e_ => (Kd.RR_ne HO_9.out BK101.out (by decide)) e_) hs_)); have n5_ := Aside0.mk (blk_kept (by (with_reducible repeat (first | refine blk_drewN ?_ _ | refine blk_drew ?_ | refine blk_alloc ?_ _)); exact BK125.out) hkp (fun hs_ => (fun e_ => (Kd.RR_ne HO_9.out BK125.out (by decide)) e_) hs_)); have n6_ := Aside0.mk (hb); clear HO_6; clear HO_9; clear HO_126000; clear HO_126001; clear BK101; clear BK125; clear HB; have HO_6 := n0_; have HO_9 := n1_; have HO_126000 := n2_; have HO_126001 := n3_; have BK101 := n4_; have BK125 := n5_; have HB := n6_; clear n0_ n1_ n2_ n3_ n4_ n5_ n6_; (try clear hb); (try clear hkp); (try clear hy0)) | ((with_reducible refine gate_callee (f := 27) rfl ?_); refine goesL_ (some 69) rfl rfl Try.func27 (by kernel_rfl) rfl #[.slice Ao48 t148.length co48, .int .i64 1] rfl (by (try simp only [List.map_toArray, List.map_cons, List.map_nil]); first | done | (rw [show t148.length = t126.length from (Kd.RR_reads' HO_9.out).1.symm] <;> rfl) | rfl | (simp only [List.length_drop, List.length_take]; rfl)) ?_; (with_reducible refine (laws_heldIntS.calls kj26 _ _ t148 1 t149 _ ?side1 ?side2 A65.out).mono ?_); (case side1 => repeat (first | exact (Kd.RR_reads' HO_9.out).2.2 | (with_reducible refine Kd.C_alloc ?_ _) | (with_reducible refine Kd.C_drewN ?_ _) | (with_reducible refine Kd.C_drew ?_))); (case side2 => rw [show t148.length = t126.length from (Kd.RR_reads' HO_9.out).1.symm]; exact (Kd.RR_reads' HO_9.out).2.1); rintro e w' ⟨rfl, ⟨nd, rfl⟩⟩; refine ⟨_, rfl, ?_⟩))
                            (try (rw [drewN_self w86]; generalize hq_ : World.drewN w86 _ = w86; have n0_ : Aside0 (Kd.RR (Kd.int .i64) 3 w86 w.heap.size (fun k_ => some k_ ≠ (.slice Ao45 t145.length co45 : Value).ownBlock ∧ some k_ ≠ (.slice Ao49 t113.length co49 : Value).ownBlock ∧ some k_ ≠ (.slice Ao48 t126.length co48 : Value).ownBlock) (.slice Ao42 t144.length co42) t144) := ⟨by rw [← hq_]; exact (by (with_reducible repeat (first | apply Kd.RR_alloc | apply Kd.RR_drewN | apply Kd.RR_drew)); exact Kd.RR_mono HO_126000.out (fun _ hk => ⟨hk.2.2, ⟨hk.1, hk.2.1⟩⟩))⟩; have n1_ : Aside0 (Kd.RR (Kd.int .i64) 3 w86 w.heap.size (fun k_ => some k_ ≠ (.slice Ao42 t144.length co42 : Value).ownBlock ∧ some k_ ≠ (.slice Ao49 t113.length co49 : Value).ownBlock ∧ some k_ ≠ (.slice Ao48 t126.length co48 : Value).ownBlock) (.slice Ao45 t145.length co45) t145) := ⟨by rw [← hq_]; exact (by (with_reducible repeat (first | apply Kd.RR_alloc | apply Kd.RR_drewN | apply Kd.RR_drew)); exact Kd.RR_mono HO_126001.out (fun _ hk => ⟨hk.2.2, ⟨hk.1, hk.2.1⟩⟩))⟩; have n2_ : Aside0 (Kd.RR (Kd.int .i64) 3 w86 w.heap.size (fun k_ => some k_ ≠ (.slice Ao42 t144.length co42 : Value).ownBlock ∧ some k_ ≠ (.slice Ao45 t145.length co45 : Value).ownBlock ∧ some k_ ≠ (.slice Ao48 t126.length co48 : Value).ownBlock) (.slice Ao49 t113.length co49) t113) := ⟨by rw [← hq_]; exact (by (with_reducible repeat (first | apply Kd.RR_alloc | apply Kd.RR_drewN | apply Kd.RR_drew)); exact Kd.RR_mono HO_6.out (fun _ hk => ⟨hk.2.1, ⟨hk.2.2, hk.1⟩⟩))⟩; have n3_ : Aside0 (Kd.RR (Kd.int .i64) 3 w86 w.heap.size (fun k_ => some k_ ≠ (.slice Ao42 t144.length co42 : Value).ownBlock ∧ some k_ ≠ (.slice Ao45 t145.length co45 : Value).ownBlock ∧ some k_ ≠ (.slice Ao49 t113.length co49 : Value).ownBlock) (.slice Ao48 t126.length co48) t148) := ⟨by rw [← hq_]; exact (by (with_reducible repeat (first | apply Kd.RR_alloc | apply Kd.RR_drewN | apply Kd.RR_drew)); exact Kd.RR_mono HO_9.out (fun _ hk => ⟨hk.2.1, ⟨hk.2.2, hk.1⟩⟩))⟩; have n4_ : Aside0 (w86.heap[gb101]? = some (.cells #[.slice A1_0 l1_0.length c1_0, .slice A1_1 l1_1.length c1_1] 25 (0, 0))) := ⟨by rw [← hq_]; exact (by (with_reducible repeat (first | refine blk_drewN ?_ _ | refine blk_drew ?_ | refine blk_alloc ?_ _)); exact BK101.out)⟩; have n5_ : Aside0 (w86.heap[gb125]? = some (.cells #[.slice Ao42 t144.length co42, .slice Ao45 t145.length co45] 31 (0, 0))) := ⟨by rw [← hq_]; exact (by (with_reducible repeat (first | refine blk_drewN ?_ _ | refine blk_drew ?_ | refine blk_alloc ?_ _)); exact BK125.out)⟩; have n6_ : Aside0 (Below w.heap.size w w86) := ⟨by rw [← hq_]; exact (by repeat (first | (with_reducible first | exact HB.out | apply below_alloc | apply pw_below_drewN | apply below_drew1 | refine below_set ?_ GE101.out | refine below_set ?_ GE125.out) | exact HB.out))⟩; clear HO_126000 HO_126001 HO_6 HO_9 BK101 BK125 HB hq_; have HO_126000 := n0_; have HO_126001 := n1_; have HO_6 := n2_; have HO_9 := n3_; have BK101 := n4_; have BK125 := n5_; have HB := n6_; clear n0_ n1_ n2_ n3_ n4_ n5_ n6_))
                            have n0_ := Aside0.mk (Kd.RR_drew HO_6.out)
                            have n1_ := Aside0.mk (Kd.RR_drew HO_9.out)
                            have n2_ := Aside0.mk (Kd.RR_drew HO_126000.out)
                            have n3_ := Aside0.mk (Kd.RR_drew HO_126001.out)
                            have n4_ := Aside0.mk (blk_drew BK101.out)
                            have n5_ := Aside0.mk (blk_drew BK125.out)
                            have n6_ := Aside0.mk (below_drew1 HB.out)
                            clear HO_6
                            clear HO_9
                            clear HO_126000
                            clear HO_126001
                            clear BK101
                            clear BK125
                            clear HB
                            have HO_6 := n0_
                            have HO_9 := n1_
                            have HO_126000 := n2_
                            have HO_126001 := n3_
                            have BK101 := n4_
                            have BK125 := n5_
                            have HB := n6_
                            clear n0_ n1_ n2_ n3_ n4_ n5_ n6_
                            refine start_ (n := 6) (S := fun w' => w'.cell? ⟨gb101, 0, none⟩ = some (.slice A1_0 l1_0.length c1_0) ∧ w'.cell? ⟨gb101, 1, none⟩ = some (.slice A1_1 l1_1.length c1_1)) (ds := []) #[false, false, false, false, false, false] (by kernel_rfl) rfl rfl ⟨(blk_cell BK101.out 0).trans rfl, (blk_cell BK101.out 1).trans rfl⟩ (fun hHeld => ?_)
                            generalize w86.drew = w87 at HO_6 HO_9 HO_126000 HO_126001 BK101 BK125 HB hHeld ⊢
                            refine pure_ (i := 0) (N := some 75) (v := ?_) (a' := ?_) #[true, false, false, false, false, false] rfl rfl (by kernel_rfl) (fun _ _ _ h => h) (Or.inl ⟨by rfl, ?_⟩) ?_ ?_
                            rotate_left
                            · intro w'
                              go_simp
                              with_reducible rfl
                            rotate_left
                            · simp only [Act.put, List.setIfInBounds_toArray, List.set_cons_zero, List.set_cons_succ, i64_w, i32_w]
                              rfl
                            refine take_ (i := 2) (N := some 77) (v := ?_) (a' := ?_) #[true, false, true, false, false, false] rfl rfl (by kernel_rfl) (fun _ _ _ h => h) (Or.inl ⟨by rfl, ?_⟩) hHeld ?_ ?_
                            rotate_left
                            · rintro w' ⟨s0, s1⟩
                              go_simp
                              with_reducible rfl
                            rotate_left
                            · simp only [Act.put, List.setIfInBounds_toArray, List.set_cons_zero, List.set_cons_succ, i64_w, i32_w]
                              rfl
                            refine one_ (i := 1) (N := some 76) #[true, true, true, false, false, false] rfl rfl (by kernel_rfl) (by decide) (fun K hK => ?_)
                            refine goes_ Try.func18 (by kernel_rfl) rfl #[.slice A0 l0.length c0] (by rfl) rfl rfl (by (try simp only [List.map_toArray, List.map_cons, List.map_nil]); first | done | rfl | (simp only [List.length_drop, List.length_take]; rfl)) ?_
                            with_reducible refine (laws_toJobS.callsRR kj26 _ _ l0 t150 _ ?side1 ?side2 A69.out).mono ?_
                            (case side1 => repeat (first | exact (Kd.C_below HR0.out HB.out) | (with_reducible refine Kd.C_alloc ?_ _) | (with_reducible refine Kd.C_drewN ?_ _) | (with_reducible refine Kd.C_drew ?_)))
                            (case side2 => exact HC0.out)
                            rintro e w88 ⟨v151, rfl, ho0, hb⟩
                            refine ⟨_, rfl, ?_⟩
                            have n0_ := Aside0.mk (Kd.RR_below (by (with_reducible repeat (first | apply Kd.RR_alloc | apply Kd.RR_drewN | apply Kd.RR_drew)); exact HO_6.out) hb)
                            have n1_ := Aside0.mk (Kd.RR_below (by (with_reducible repeat (first | apply Kd.RR_alloc | apply Kd.RR_drewN | apply Kd.RR_drew)); exact HO_9.out) hb)
                            have n2_ := Aside0.mk (Kd.RR_below (by (with_reducible repeat (first | apply Kd.RR_alloc | apply Kd.RR_drewN | apply Kd.RR_drew)); exact HO_126000.out) hb)
                            have n3_ := Aside0.mk (Kd.RR_below (by (with_reducible repeat (first | apply Kd.RR_alloc | apply Kd.RR_drewN | apply Kd.RR_drew)); exact HO_126001.out) hb)
                            have n4_ := Aside0.mk (Kd.RR_lower ho0 (below_size (by repeat (first | (with_reducible first | exact HB.out | apply below_alloc | apply pw_below_drewN | apply below_drew1 | refine below_set ?_ GE101.out | refine below_set ?_ GE125.out) | exact HB.out))))
                            have n5_ := Aside0.mk (blk_below (g := gb101) (o := .cells #[.slice A1_0 l1_0.length c1_0, .slice A1_1 l1_1.length c1_1] 25 (0, 0)) (by (with_reducible repeat (first | refine blk_drewN ?_ _ | refine blk_drew ?_ | refine blk_alloc ?_ _)); exact BK101.out) hb)
                            have n6_ := Aside0.mk (blk_below (g := gb125) (o := .cells #[.slice Ao42 t144.length co42, .slice Ao45 t145.length co45] 31 (0, 0)) (by (with_reducible repeat (first | refine blk_drewN ?_ _ | refine blk_drew ?_ | refine blk_alloc ?_ _)); exact BK125.out) hb)
                            have n7_ := Aside0.mk (below_step (by repeat (first | (with_reducible first | exact HB.out | apply below_alloc | apply pw_below_drewN | apply below_drew1 | refine below_set ?_ GE101.out | refine below_set ?_ GE125.out) | exact HB.out)) hb)
                            clear HO_6
                            clear HO_9
                            clear HO_126000
                            clear HO_126001
                            clear BK101
                            clear BK125
                            clear HB
                            have HO_6 := n0_
                            have HO_9 := n1_
                            have HO_126000 := n2_
                            have HO_126001 := n3_
                            have HO152 := n4_
                            have BK101 := n5_
                            have BK125 := n6_
                            have HB := n7_
                            clear n0_ n1_ n2_ n3_ n4_ n5_ n6_ n7_
                            (try clear hb)
                            (try clear hb2)
                            (try clear hk)
                            (try clear hi)
                            (try clear ho0)
                            refine hK.out _ _ ⟨(blk_cell BK101.out 0).trans rfl, (blk_cell BK101.out 1).trans rfl⟩ (fun hHeld => ?_)
                            clear hK K
                            refine norm_ (a' := ?_) ?_ ?_
                            rotate_left
                            · show Act.put _ (some 76) _ = _
                              simp only [Act.put, List.setIfInBounds_toArray, List.set_cons_zero, List.set_cons_succ, i64_w, i32_w]
                              rfl
                            refine one_ (i := 3) (N := some 78) #[true, true, true, true, false, false] rfl rfl (by kernel_rfl) (by decide) (fun K hK => ?_)
                            refine goes_ Try.func19 (by kernel_rfl) rfl #[.agg #[.slice A1_0 l1_0.length c1_0, .slice A1_1 l1_1.length c1_1]] (by rfl) rfl rfl (by (try simp only [List.map_toArray, List.map_cons, List.map_nil]); first | done | rfl | (simp only [List.length_drop, List.length_take]; rfl)) ?_
                            with_reducible refine (laws_toSchedule.callsRR kj26 _ _ l1_0 _ _ l1_1 t153 t156 _ ?side1 ?side2 ?side3 ?side4 A70.out).mono ?_
                            (case side1 => repeat (first | exact (Kd.C_below HR1_0.out HB.out) | (with_reducible refine Kd.C_alloc ?_ _) | (with_reducible refine Kd.C_drewN ?_ _) | (with_reducible refine Kd.C_drew ?_)))
                            (case side2 => exact HC1_0.out)
                            (case side3 => repeat (first | exact (Kd.C_below HR1_1.out HB.out) | (with_reducible refine Kd.C_alloc ?_ _) | (with_reducible refine Kd.C_drewN ?_ _) | (with_reducible refine Kd.C_drew ?_)))
                            (case side4 => exact HC1_1.out)
                            rintro e w89 ⟨v154, v157, rfl, ho0, ho1, hb⟩
                            refine ⟨_, rfl, ?_⟩
                            have n0_ := Aside0.mk (Kd.RR_mono (Kd.RR_told (Kd.RR_told (Kd.RR_old (by (with_reducible repeat (first | apply Kd.RR_alloc | apply Kd.RR_drewN | apply Kd.RR_drew)); exact HO_6.out) hb) (Kd.RR_base ho0)) (Kd.RR_base ho1)) (fun _ h_ => h_.1))
                            have n1_ := Aside0.mk (Kd.RR_mono (Kd.RR_told (Kd.RR_told (Kd.RR_old (by (with_reducible repeat (first | apply Kd.RR_alloc | apply Kd.RR_drewN | apply Kd.RR_drew)); exact HO_9.out) hb) (Kd.RR_base ho0)) (Kd.RR_base ho1)) (fun _ h_ => h_.1))
                            have n2_ := Aside0.mk (Kd.RR_mono (Kd.RR_told (Kd.RR_told (Kd.RR_old (by (with_reducible repeat (first | apply Kd.RR_alloc | apply Kd.RR_drewN | apply Kd.RR_drew)); exact HO_126000.out) hb) (Kd.RR_base ho0)) (Kd.RR_base ho1)) (fun _ h_ => h_.1))
                            have n3_ := Aside0.mk (Kd.RR_mono (Kd.RR_told (Kd.RR_told (Kd.RR_old (by (with_reducible repeat (first | apply Kd.RR_alloc | apply Kd.RR_drewN | apply Kd.RR_drew)); exact HO_126001.out) hb) (Kd.RR_base ho0)) (Kd.RR_base ho1)) (fun _ h_ => h_.1))
                            have n4_ := Aside0.mk (Kd.RR_below (by (with_reducible repeat (first | apply Kd.RR_alloc | apply Kd.RR_drewN | apply Kd.RR_drew)); exact HO152.out) hb)
                            have n5_ := Aside0.mk (Kd.RR_lower (Kd.RR_new' (Kd.RR_new' (Kd.RR_new' (Kd.RR_new' ho0 (Kd.RR_lt (by (with_reducible repeat (first | apply Kd.RR_alloc | apply Kd.RR_drewN | apply Kd.RR_drew)); exact HO_6.out))) (Kd.RR_lt (by (with_reducible repeat (first | apply Kd.RR_alloc | apply Kd.RR_drewN | apply Kd.RR_drew)); exact HO_9.out))) (Kd.RR_lt (by (with_reducible repeat (first | apply Kd.RR_alloc | apply Kd.RR_drewN | apply Kd.RR_drew)); exact HO_126000.out))) (Kd.RR_lt (by (with_reducible repeat (first | apply Kd.RR_alloc | apply Kd.RR_drewN | apply Kd.RR_drew)); exact HO_126001.out))) (below_size (by repeat (first | (with_reducible first | exact HB.out | apply below_alloc | apply pw_below_drewN | apply below_drew1 | refine below_set ?_ GE101.out | refine below_set ?_ GE125.out) | exact HB.out))))
                            have n6_ := Aside0.mk (Kd.RR_lower (Kd.RR_new' (Kd.RR_new' (Kd.RR_new' (Kd.RR_new' ho1 (Kd.RR_lt (by (with_reducible repeat (first | apply Kd.RR_alloc | apply Kd.RR_drewN | apply Kd.RR_drew)); exact HO_6.out))) (Kd.RR_lt (by (with_reducible repeat (first | apply Kd.RR_alloc | apply Kd.RR_drewN | apply Kd.RR_drew)); exact HO_9.out))) (Kd.RR_lt (by (with_reducible repeat (first | apply Kd.RR_alloc | apply Kd.RR_drewN | apply Kd.RR_drew)); exact HO_126000.out))) (Kd.RR_lt (by (with_reducible repeat (first | apply Kd.RR_alloc | apply Kd.RR_drewN | apply Kd.RR_drew)); exact HO_126001.out))) (below_size (by repeat (first | (with_reducible first | exact HB.out | apply below_alloc | apply pw_below_drewN | apply below_drew1 | refine below_set ?_ GE101.out | refine below_set ?_ GE125.out) | exact HB.out))))
                            have n7_ := Aside0.mk (blk_below (g := gb101) (o := .cells #[.slice A1_0 l1_0.length c1_0, .slice A1_1 l1_1.length c1_1] 25 (0, 0)) (by (with_reducible repeat (first | refine blk_drewN ?_ _ | refine blk_drew ?_ | refine blk_alloc ?_ _)); exact BK101.out) hb)
                            have n8_ := Aside0.mk (blk_below (g := gb125) (o := .cells #[.slice Ao42 t144.length co42, .slice Ao45 t145.length co45] 31 (0, 0)) (by (with_reducible repeat (first | refine blk_drewN ?_ _ | refine blk_drew ?_ | refine blk_alloc ?_ _)); exact BK125.out) hb)
                            have n9_ := Aside0.mk (below_step (by repeat (first | (with_reducible first | exact HB.out | apply below_alloc | apply pw_below_drewN | apply below_drew1 | refine below_set ?_ GE101.out | refine below_set ?_ GE125.out) | exact HB.out)) hb)
                            clear HO_6
                            clear HO_9
                            clear HO_126000
                            clear HO_126001
                            clear HO152
                            clear BK101
                            clear BK125
                            clear HB
                            have HO_6 := n0_
                            have HO_9 := n1_
                            have HO_126000 := n2_
                            have HO_126001 := n3_
                            have HO152 := n4_
                            have HO155 := n5_
                            have HO158 := n6_
                            have BK101 := n7_
                            have BK125 := n8_
                            have HB := n9_
                            clear n0_ n1_ n2_ n3_ n4_ n5_ n6_ n7_ n8_ n9_
                            (try clear hb)
                            (try clear hb2)
                            (try clear hk)
                            (try clear hi)
                            (try clear ho0)
                            (try clear ho1)
                            obtain ⟨Ao90, co90, eo90⟩ := Kd.RR_slice HO152.out
                            (first | subst eo90 | (injection eo90 with f1_ f2_ f3_; have f4_ := f1_.symm; have f5_ := f3_.symm; clear f1_ f2_ f3_; subst f4_; subst f5_))
                            obtain ⟨Ao91, co91, eo91⟩ := Kd.RR_slice HO155.out
                            (first | subst eo91 | (injection eo91 with f1_ f2_ f3_; have f4_ := f1_.symm; have f5_ := f3_.symm; clear f1_ f2_ f3_; subst f4_; subst f5_))
                            obtain ⟨Ao92, co92, eo92⟩ := Kd.RR_slice HO158.out
                            (first | subst eo92 | (injection eo92 with f1_ f2_ f3_; have f4_ := f1_.symm; have f5_ := f3_.symm; clear f1_ f2_ f3_; subst f4_; subst f5_))
                            refine hK.out _ _ ⟨(blk_cell BK101.out 0).trans rfl, (blk_cell BK101.out 1).trans rfl⟩ (fun hHeld => ?_)
                            clear hK K
                            refine norm_ (a' := ?_) ?_ ?_
                            rotate_left
                            · show Act.put _ (some 78) _ = _
                              simp only [Act.put, List.setIfInBounds_toArray, List.set_cons_zero, List.set_cons_succ, i64_w, i32_w]
                              rfl
                            refine one_ (i := 4) (N := some 79) #[true, true, true, true, true, false] rfl rfl (by kernel_rfl) (by decide) (fun K hK => ?_)
                            refine goes_ Try.func20 (by kernel_rfl) rfl #[.slice Ao90 t150.length co90, .agg #[.slice Ao91 t153.length co91, .slice Ao92 t156.length co92]] (by rfl) rfl rfl (by (try simp only [List.map_toArray, List.map_cons, List.map_nil]); first | done | rfl | (simp only [List.length_drop, List.length_take]; rfl)) ?_
                            with_reducible refine (impl_Missed.calls _ _ t150 _ _ t153 _ _ t156 t159 _ ?side1 ?side2 ?side3 ?side4 ?side5 ?side6 A71.out).mono ?_
                            (case side1 => repeat (first | exact (Kd.RR_reads' HO152.out).2.2 | (with_reducible refine Kd.C_alloc ?_ _) | (with_reducible refine Kd.C_drewN ?_ _) | (with_reducible refine Kd.C_drew ?_)))
                            (case side2 => exact (Kd.RR_reads' HO152.out).2.1)
                            (case side3 => repeat (first | exact (Kd.RR_reads' HO155.out).2.2 | (with_reducible refine Kd.C_alloc ?_ _) | (with_reducible refine Kd.C_drewN ?_ _) | (with_reducible refine Kd.C_drew ?_)))
                            (case side4 => exact (Kd.RR_reads' HO155.out).2.1)
                            (case side5 => repeat (first | exact (Kd.RR_reads' HO158.out).2.2 | (with_reducible refine Kd.C_alloc ?_ _) | (with_reducible refine Kd.C_drewN ?_ _) | (with_reducible refine Kd.C_drew ?_)))
                            (case side6 => exact (Kd.RR_reads' HO158.out).2.1)
                            rintro e w93 ⟨v160, rfl, ho0, hb⟩
                            refine ⟨_, rfl, ?_⟩
                            have n0_ := Aside0.mk (Kd.RR_elder' (by (with_reducible repeat (first | apply Kd.RR_alloc | apply Kd.RR_drewN | apply Kd.RR_drew)); exact HO_6.out) (Kd.RR_base ho0) hb)
                            have n1_ := Aside0.mk (Kd.RR_elder' (by (with_reducible repeat (first | apply Kd.RR_alloc | apply Kd.RR_drewN | apply Kd.RR_drew)); exact HO_9.out) (Kd.RR_base ho0) hb)
                            have n2_ := Aside0.mk (Kd.RR_elder' (by (with_reducible repeat (first | apply Kd.RR_alloc | apply Kd.RR_drewN | apply Kd.RR_drew)); exact HO_126000.out) (Kd.RR_base ho0) hb)
                            have n3_ := Aside0.mk (Kd.RR_elder' (by (with_reducible repeat (first | apply Kd.RR_alloc | apply Kd.RR_drewN | apply Kd.RR_drew)); exact HO_126001.out) (Kd.RR_base ho0) hb)
                            have n4_ := Aside0.mk (Kd.RR_below (by (with_reducible repeat (first | apply Kd.RR_alloc | apply Kd.RR_drewN | apply Kd.RR_drew)); exact HO152.out) hb)
                            have n5_ := Aside0.mk (Kd.RR_elder' (by (with_reducible repeat (first | apply Kd.RR_alloc | apply Kd.RR_drewN | apply Kd.RR_drew)); exact HO155.out) (Kd.RR_base ho0) hb)
                            have n6_ := Aside0.mk (Kd.RR_elder' (by (with_reducible repeat (first | apply Kd.RR_alloc | apply Kd.RR_drewN | apply Kd.RR_drew)); exact HO158.out) (Kd.RR_base ho0) hb)
                            have n7_ := Aside0.mk (Kd.RR_lower (Kd.RR_new' (Kd.RR_new' (Kd.RR_new' (Kd.RR_new' (Kd.RR_new' (Kd.RR_new' ho0 (Kd.RR_lt (by (with_reducible repeat (first | apply Kd.RR_alloc | apply Kd.RR_drewN | apply Kd.RR_drew)); exact HO_6.out))) (Kd.RR_lt (by (with_reducible repeat (first | apply Kd.RR_alloc | apply Kd.RR_drewN | apply Kd.RR_drew)); exact HO_9.out))) (Kd.RR_lt (by (with_reducible repeat (first | apply Kd.RR_alloc | apply Kd.RR_drewN | apply Kd.RR_drew)); exact HO_126000.out))) (Kd.RR_lt (by (with_reducible repeat (first | apply Kd.RR_alloc | apply Kd.RR_drewN | apply Kd.RR_drew)); exact HO_126001.out))) (Kd.RR_lt (by (with_reducible repeat (first | apply Kd.RR_alloc | apply Kd.RR_drewN | apply Kd.RR_drew)); exact HO155.out))) (Kd.RR_lt (by (with_reducible repeat (first | apply Kd.RR_alloc | apply Kd.RR_drewN | apply Kd.RR_drew)); exact HO158.out))) (below_size (by repeat (first | (with_reducible first | exact HB.out | apply below_alloc | apply pw_below_drewN | apply below_drew1 | refine below_set ?_ GE101.out | refine below_set ?_ GE125.out) | exact HB.out))))
                            have n8_ := Aside0.mk (blk_below (g := gb101) (o := .cells #[.slice A1_0 l1_0.length c1_0, .slice A1_1 l1_1.length c1_1] 25 (0, 0)) (by (with_reducible repeat (first | refine blk_drewN ?_ _ | refine blk_drew ?_ | refine blk_alloc ?_ _)); exact BK101.out) hb)
                            have n9_ := Aside0.mk (blk_below (g := gb125) (o := .cells #[.slice Ao42 t144.length co42, .slice Ao45 t145.length co45] 31 (0, 0)) (by (with_reducible repeat (first | refine blk_drewN ?_ _ | refine blk_drew ?_ | refine blk_alloc ?_ _)); exact BK125.out) hb)
                            have n10_ := Aside0.mk (below_step (by repeat (first | (with_reducible first | exact HB.out | apply below_alloc | apply pw_below_drewN | apply below_drew1 | refine below_set ?_ GE101.out | refine below_set ?_ GE125.out) | exact HB.out)) hb)
                            clear HO_6
                            clear HO_9
                            clear HO_126000
                            clear HO_126001
                            clear HO152
                            clear HO155
                            clear HO158
                            clear BK101
                            clear BK125
                            clear HB
                            have HO_6 := n0_
                            have HO_9 := n1_
                            have HO_126000 := n2_
                            have HO_126001 := n3_
                            have HO152 := n4_
                            have HO155 := n5_
                            have HO158 := n6_
                            have HO161 := n7_
                            have BK101 := n8_
                            have BK125 := n9_
                            have HB := n10_
                            clear n0_ n1_ n2_ n3_ n4_ n5_ n6_ n7_ n8_ n9_ n10_
                            (try clear hb)
                            (try clear hb2)
                            (try clear hk)
                            (try clear hi)
                            (try clear ho0)
                            refine hK.out _ _ ⟨(blk_cell BK101.out 0).trans rfl, (blk_cell BK101.out 1).trans rfl⟩ (fun hHeld => ?_)
                            clear hK K
                            refine norm_ (a' := ?_) ?_ ?_
                            rotate_left
                            · show Act.put _ (some 79) _ = _
                              simp only [Act.put, List.setIfInBounds_toArray, List.set_cons_zero, List.set_cons_succ, i64_w, i32_w]
                              rfl
                            refine pure_ (i := 5) (N := some 13) (v := ?_) (a' := ?_) #[true, true, true, true, true, true] rfl rfl (by kernel_rfl) (fun _ _ _ h => h) (Or.inl ⟨by rfl, ?_⟩) ?_ ?_
                            rotate_left
                            · intro w'
                              go_simp
                              with_reducible rfl
                            rotate_left
                            · simp only [Act.put, List.setIfInBounds_toArray, List.set_cons_zero, List.set_cons_succ, i64_w, i32_w]
                              rfl
                            refine done_ (by kernel_rfl) ?_
                            obtain ⟨Ao94, co94, eo94⟩ := Kd.RR_slice HO161.out
                            subst eo94
                            try go_wp2_with (first | ((with_reducible refine gate_callee (f := 21) rfl ?_); refine goesL_ (some 82) rfl rfl Try.func21 (by kernel_rfl) rfl #[.slice Ao94 t159.length co94, .slice Ao49 t113.length co49] rfl (by (try simp only [List.map_toArray, List.map_cons, List.map_nil]); first | done | rfl | (simp only [List.length_drop, List.length_take]; rfl)) ?_; (with_reducible refine (laws_eqIntS.calls kj26 _ _ t159 _ _ t113 true _ ?side1 ?side2 ?side3 ?side4 A72.out).mono ?_); (case side1 => repeat (first | exact (Kd.RR_reads' HO161.out).2.2 | (with_reducible refine Kd.C_alloc ?_ _) | (with_reducible refine Kd.C_drewN ?_ _) | (with_reducible refine Kd.C_drew ?_))); (case side2 => exact (Kd.RR_reads' HO161.out).2.1); (case side3 => repeat (first | exact (Kd.RR_reads' HO_6.out).2.2 | (with_reducible refine Kd.C_alloc ?_ _) | (with_reducible refine Kd.C_drewN ?_ _) | (with_reducible refine Kd.C_drew ?_))); (case side4 => exact (Kd.RR_reads' HO_6.out).2.1); rintro e w' ⟨rfl, ⟨nd, rfl⟩⟩; refine ⟨_, rfl, ?_⟩) | ((with_reducible refine gate_callee (f := 27) rfl ?_); refine goesL_ (some 86) rfl rfl Try.func27 (by kernel_rfl) rfl #[.slice Ao48 t148.length co48, .int .i64 1] rfl (by (try simp only [List.map_toArray, List.map_cons, List.map_nil]); first | done | (rw [show t148.length = t126.length from (Kd.RR_reads' HO_9.out).1.symm] <;> rfl) | rfl | (simp only [List.length_drop, List.length_take]; rfl)) ?_; (with_reducible refine (laws_heldIntS.calls kj26 _ _ t148 1 t163 _ ?side1 ?side2 A74.out).mono ?_); (case side1 => repeat (first | exact (Kd.RR_reads' HO_9.out).2.2 | (with_reducible refine Kd.C_alloc ?_ _) | (with_reducible refine Kd.C_drewN ?_ _) | (with_reducible refine Kd.C_drew ?_))); (case side2 => rw [show t148.length = t126.length from (Kd.RR_reads' HO_9.out).1.symm]; exact (Kd.RR_reads' HO_9.out).2.1); rintro e w' ⟨rfl, ⟨nd, rfl⟩⟩; refine ⟨_, rfl, ?_⟩))
                            go_ret
                            exact ⟨by first | rfl | (simp [errW_none, errW_some] <;> rfl) | (simp [*, errW_none, errW_some] <;> rfl), by repeat (first | (with_reducible first | exact HB.out | apply below_alloc | apply pw_below_drewN | apply below_drew1 | refine below_set ?_ GE101.out | refine below_set ?_ GE125.out) | exact HB.out)⟩
                          · rw [if_neg c85] at H
                            have c85b0 : (t163 == t147) = false := beq_eq_false_iff_ne.mpr c85
                            (try (have c85r0 := c85b0; simp only [hl126000_26, hl126001_26] at c85r0))
                            have c85b1 : (t163 != t147) = true := bne_iff_ne.mpr c85
                            (try (have c85r1 := c85b1; simp only [hl126000_26, hl126001_26] at c85r1))
                            exact absurd H (by simp)
                      · replace c73 := Bool.eq_false_iff.mpr c73
                        subst c73
                        have H1 : (some false) = some true := by rw [if_neg (show ¬ (false = true) by decide)] at H; exact H
                        clear H
                        have H := H1
                        clear H1
                        exact absurd H (by simp)
                    · rw [if_neg c68] at H
                      have c68b0 : (t149 == t147) = false := beq_eq_false_iff_ne.mpr c68
                      (try (have c68r0 := c68b0; simp only [hl126000_26, hl126001_26] at c68r0))
                      have c68b1 : (t149 != t147) = true := bne_iff_ne.mpr c68
                      (try (have c68r1 := c68b1; simp only [hl126000_26, hl126001_26] at c68r1))
                      exact absurd H (by simp)
          · replace c24 := Bool.eq_false_iff.mpr c24
            subst c24
            have H1 : (some false) = some true := by rw [if_neg (show ¬ (false = true) by decide)] at H; exact H
            clear H
            have H := H1
            clear H1
            exact absurd H (by simp)
        · replace c21 := Bool.eq_false_iff.mpr c21
          subst c21
          have H1 : (some false) = some true := by rw [if_neg (show ¬ (false = true) by decide)] at H; exact H
          clear H
          have H := H1
          clear H1
          exact absurd H (by simp)
      · replace c18 := Bool.eq_false_iff.mpr c18
        subst c18
        have H1 : (some false) = some true := by rw [if_neg (show ¬ (false = true) by decide)] at H; exact H
        clear H
        have H := H1
        clear H1
        exact absurd H (by simp)

end Go.Proofs.Ytfciajbahgjflaa.Print

namespace Go.Proofs.Ytfciajbahgjflaa.Print
open Go.RowKit Go.Proofs.YtfciajbahgjflaaW.PrintWords Go.Proofs.YtfciajbahgjflaaW.PrintLast Go.Proofs.YtfciajbahgjflaaW.PrintMore
attribute [local go_sem] max2_int min2_int max_two min_two max_three min_three max_four min_four   -- for this text's walks alone
set_option linter.unusedVariables false
set_option linter.unusedSimpArgs false

/-! ### laws_toTask: function 73 -/
def laws_toTask.f (a0_0 : Int) (a0_1 : Int) (a0_2 : Int) : Option (Int × Int × Int) := some (a0_0, a0_1, a0_2)
set_option maxHeartbeats 8000000 in
set_option maxRecDepth 100000 in
theorem laws_toTask.calls (a0_0 : Int) (a0_1 : Int) (a0_2 : Int) (r1 : Int) (r2 : Int) (r3 : Int) (w : World) (h : laws_toTask.f a0_0 a0_1 a0_2 = some (r1, r2, r3)) :
    Calls Try.prog 73 #[.agg #[.int .i64 a0_0, .int .i64 a0_1, .int .i64 a0_2]] w fun e w' => e = .returned (.agg #[.int .i64 r1, .int .i64 r2, .int .i64 r3]) ∧ Below w.heap.size w w' := by
  have hu89 := Try.underlying89
  have hu43 := Try.underlying43
  have HB := Aside0.mk (Below.refl w.heap.size w)
  have H : (some (a0_0, a0_1, a0_2)) = some (r1, r2, r3) := h
  clear h
  simp only [Option.some.injEq, Prod.mk.injEq] at H
  obtain ⟨rfl, rfl, rfl⟩ := H
  go_enter Try.func73, Try.ntmps73
  go_wp2_with (first | ((with_reducible refine gate_dst (N := 1) rfl ?_); refine box_event ?hg (N := 1) ?hd (cs := #[.int .i64 a0_0, .int .i64 a0_1, .int .i64 a0_2]) (t := 89) ?hr ?_; (case hd => rfl); (case hg => rfl); (case hr => first | (go_simp; done) | (go_simp; rfl)); intro gb101 hg w2 hbox hb; have n0_ := Aside0.mk (below_step (by repeat (first | (with_reducible first | exact HB.out | apply below_alloc | apply pw_below_drewN | apply below_drew1) | exact HB.out)) hb); have n1_ := Aside0.mk (hbox); have n2_ := Aside0.mk ((by rw [hg]; exact (below_size (by repeat (first | (with_reducible first | exact HB.out | apply below_alloc | apply pw_below_drewN | apply below_drew1) | exact HB.out))) : w.heap.size ≤ gb101)); have n3_ := Aside0.mk ((by rw [hg]; exact (below_size (by repeat (first | (with_reducible first | exact HB.out | apply below_alloc | apply pw_below_drewN | apply below_drew1) | exact HB.out))) : w.heap.size ≤ gb101)); clear HB; have HB := n0_; have BK101 := n1_; have GW101 := n2_; have GE101 := n3_; clear n0_ n1_ n2_ n3_; clear hb hbox hg) | ((with_reducible refine gate_dst (N := 2) rfl ?_); refine box_event ?hg (N := 2) ?hd (cs := #[.int .i64 0, .int .i64 0, .int .i64 0]) (t := 43) ?hr ?_; (case hd => rfl); (case hg => rfl); (case hr => first | (go_simp; done) | (go_simp; rfl)); intro gb102 hg w3 hbox hb; have n0_ := Aside0.mk (blk_below (g := gb101) (o := .cells #[.int .i64 a0_0, .int .i64 a0_1, .int .i64 a0_2] 89 (0, 0)) (by (with_reducible repeat (first | refine blk_drewN ?_ _ | refine blk_drew ?_ | refine blk_alloc ?_ _)); exact BK101.out) hb); have n1_ := Aside0.mk (below_step (by repeat (first | (with_reducible first | exact HB.out | apply below_alloc | apply pw_below_drewN | apply below_drew1 | refine below_set ?_ GE101.out) | exact HB.out)) hb); have n2_ := Aside0.mk (hbox); have n3_ := Aside0.mk ((by rw [hg]; exact (below_size (by repeat (first | (with_reducible first | exact HB.out | apply below_alloc | apply pw_below_drewN | apply below_drew1 | refine below_set ?_ GE101.out) | exact HB.out))) : w.heap.size ≤ gb102)); have n4_ := Aside0.mk ((by rw [hg]; exact (below_size (by repeat (first | (with_reducible first | exact HB.out | apply below_alloc | apply pw_below_drewN | apply below_drew1 | refine below_set ?_ GE101.out) | exact HB.out))) : w.heap.size ≤ gb102)); have n5_ := Aside0.mk ((by rw [hg]; exact Nat.ne_of_lt (blk_lt (g := gb101) (o := .cells #[.int .i64 a0_0, .int .i64 a0_1, .int .i64 a0_2] 89 (0, 0)) (by (with_reducible repeat (first | refine blk_drewN ?_ _ | refine blk_drew ?_ | refine blk_alloc ?_ _)); exact BK101.out)) : gb101 ≠ gb102)); have n6_ := Aside0.mk ((by rw [hg]; exact Nat.ne_of_gt (blk_lt (g := gb101) (o := .cells #[.int .i64 a0_0, .int .i64 a0_1, .int .i64 a0_2] 89 (0, 0)) (by (with_reducible repeat (first | refine blk_drewN ?_ _ | refine blk_drew ?_ | refine blk_alloc ?_ _)); exact BK101.out)) : gb102 ≠ gb101)); clear BK101; clear HB; have BK101 := n0_; have HB := n1_; have BK102 := n2_; have GW102 := n3_; have GE102 := n4_; have NB101_102 := n5_; have NB102_101 := n6_; clear n0_ n1_ n2_ n3_ n4_ n5_ n6_; clear hb hbox hg) | ((with_reducible refine gate_dst (N := 3) rfl ?_); refine box_event ?hg (N := 3) ?hd (cs := #[.int .i64 0, .int .i64 0, .int .i64 0]) (t := 43) ?hr ?_; (case hd => rfl); (case hg => rfl); (case hr => first | (go_simp; done) | (go_simp; rfl)); intro gb103 hg w4 hbox hb; have n0_ := Aside0.mk (blk_below (g := gb101) (o := .cells #[.int .i64 a0_0, .int .i64 a0_1, .int .i64 a0_2] 89 (0, 0)) (by (with_reducible repeat (first | refine blk_drewN ?_ _ | refine blk_drew ?_ | refine blk_alloc ?_ _)); exact BK101.out) hb); have n1_ := Aside0.mk (blk_below (g := gb102) (o := .cells #[.int .i64 0, .int .i64 0, .int .i64 0] 43 (0, 0)) (by (with_reducible repeat (first | refine blk_drewN ?_ _ | refine blk_drew ?_ | refine blk_alloc ?_ _)); exact BK102.out) hb); have n2_ := Aside0.mk (below_step (by repeat (first | (with_reducible first | exact HB.out | apply below_alloc | apply pw_below_drewN | apply below_drew1 | refine below_set ?_ GE101.out | refine below_set ?_ GE102.out) | exact HB.out)) hb); have n3_ := Aside0.mk (hbox); have n4_ := Aside0.mk ((by rw [hg]; exact (below_size (by repeat (first | (with_reducible first | exact HB.out | apply below_alloc | apply pw_below_drewN | apply below_drew1 | refine below_set ?_ GE101.out | refine below_set ?_ GE102.out) | exact HB.out))) : w.heap.size ≤ gb103)); have n5_ := Aside0.mk ((by rw [hg]; exact (below_size (by repeat (first | (with_reducible first | exact HB.out | apply below_alloc | apply pw_below_drewN | apply below_drew1 | refine below_set ?_ GE101.out | refine below_set ?_ GE102.out) | exact HB.out))) : w.heap.size ≤ gb103)); have n6_ := Aside0.mk ((by rw [hg]; exact Nat.ne_of_lt (blk_lt (g := gb101) (o := .cells #[.int .i64 a0_0, .int .i64 a0_1, .int .i64 a0_2] 89 (0, 0)) (by (with_reducible repeat (first | refine blk_drewN ?_ _ | refine blk_drew ?_ | refine blk_alloc ?_ _)); exact BK101.out)) : gb101 ≠ gb103)); have n7_ := Aside0.mk ((by rw [hg]; exact Nat.ne_of_gt (blk_lt (g := gb101) (o := .cells #[.int .i64 a0_0, .int .i64 a0_1, .int .i64 a0_2] 89 (0, 0)) (by (with_reducible repeat (first | refine blk_drewN ?_ _ | refine blk_drew ?_ | refine blk_alloc ?_ _)); exact BK101.out)) : gb103 ≠ gb101)); have n8_ := Aside0.mk ((by rw [hg]; exact Nat.ne_of_lt (blk_lt (g := gb102) (o := .cells #[.int .i64 0, .int .i64 0, .int .i64 0] 43 (0, 0)) (by (with_reducible repeat (first | refine blk_drewN ?_ _ | refine blk_drew ?_ | refine blk_alloc ?_ _)); exact BK102.out)) : gb102 ≠ gb103)); have n9_ := Aside0.mk ((by rw [hg]; exact Nat.ne_of_gt (blk_lt (g := gb102) (o := .cells #[.int .i64 0, .int .i64 0, .int .i64 0] 43 (0, 0)) (by (with_reducible repeat (first | refine blk_drewN ?_ _ | refine blk_drew ?_ | refine blk_alloc ?_ _)); exact BK102.out)) : gb103 ≠ gb102)); clear BK101; clear BK102; clear HB; have BK101 := n0_; have BK102 := n1_; have HB := n2_; have BK103 := n3_; have GW103 := n4_; have GE103 := n5_; have NB101_103 := n6_; have NB103_101 := n7_; have NB102_103 := n8_; have NB103_102 := n9_; clear n0_ n1_ n2_ n3_ n4_ n5_ n6_ n7_ n8_ n9_; clear hb hbox hg; have hnb5 := NB101_102.out; have hnc5 := NB102_101.out; have hnb6 := NB101_103.out; have hnc6 := NB103_101.out; have hcz7_0 : w4.cell? ⟨gb101, 0, none⟩ = some (.int .i64 a0_0) := (blk_cell BK101.out 0).trans rfl; have hcz7_1 : w4.cell? ⟨gb101, 1, none⟩ = some (.int .i64 a0_1) := (blk_cell BK101.out 1).trans rfl; have hcz7_2 : w4.cell? ⟨gb101, 2, none⟩ = some (.int .i64 a0_2) := (blk_cell BK101.out 2).trans rfl; have hfz7_0 := blk_frozen BK101.out 0; have hfz7_1 := blk_frozen BK101.out 1; have hfz7_2 := blk_frozen BK101.out 2; have hnb8 := NB103_102.out; have hnc8 := NB102_103.out; have hcz9_0 : w4.cell? ⟨gb103, 0, none⟩ = some (.int .i64 0) := (blk_cell BK103.out 0).trans rfl; have hcz9_1 : w4.cell? ⟨gb103, 1, none⟩ = some (.int .i64 0) := (blk_cell BK103.out 1).trans rfl; have hcz9_2 : w4.cell? ⟨gb103, 2, none⟩ = some (.int .i64 0) := (blk_cell BK103.out 2).trans rfl; have hfz9_0 := blk_frozen BK103.out 0; have hfz9_1 := blk_frozen BK103.out 1; have hfz9_2 := blk_frozen BK103.out 2; have hcz10_0 : w4.cell? ⟨gb102, 0, none⟩ = some (.int .i64 0) := (blk_cell BK102.out 0).trans rfl; have hcz10_1 : w4.cell? ⟨gb102, 1, none⟩ = some (.int .i64 0) := (blk_cell BK102.out 1).trans rfl; have hcz10_2 : w4.cell? ⟨gb102, 2, none⟩ = some (.int .i64 0) := (blk_cell BK102.out 2).trans rfl; have hfz10_0 := blk_frozen BK102.out 0; have hfz10_1 := blk_frozen BK102.out 1; have hfz10_2 := blk_frozen BK102.out 2))
  refine bodyPost_ret (results_cell_row rfl _ _ gb102 43 #[.int .i64 a0_0, .int .i64 a0_1, .int .i64 a0_2] (0, 0) _ rfl (by (with_reducible repeat (first | refine blk_drewN ?_ _ | refine blk_drew ?_ | refine blk_alloc ?_ _)); refine blk_put (cs := #[.int .i64 a0_0, .int .i64 a0_1, .int .i64 0]) ?_ 2 _ rfl; (with_reducible repeat (first | refine blk_drewN ?_ _ | refine blk_drew ?_ | refine blk_alloc ?_ _)); refine blk_put (cs := #[.int .i64 a0_0, .int .i64 0, .int .i64 0]) ?_ 1 _ rfl; (with_reducible repeat (first | refine blk_drewN ?_ _ | refine blk_drew ?_ | refine blk_alloc ?_ _)); refine blk_put (cs := #[.int .i64 0, .int .i64 0, .int .i64 0]) ?_ 0 _ rfl; (with_reducible repeat (first | refine blk_drewN ?_ _ | refine blk_drew ?_ | refine blk_alloc ?_ _)); refine blk_far ?_ NB102_103.out _; (with_reducible repeat (first | refine blk_drewN ?_ _ | refine blk_drew ?_ | refine blk_alloc ?_ _)); refine blk_far ?_ NB102_103.out _; (with_reducible repeat (first | refine blk_drewN ?_ _ | refine blk_drew ?_ | refine blk_alloc ?_ _)); refine blk_far ?_ NB102_103.out _; (with_reducible repeat (first | refine blk_drewN ?_ _ | refine blk_drew ?_ | refine blk_alloc ?_ _)); exact BK102.out) Try.underlying43 rfl (by kernel_rfl)) rfl ?_
  exact ⟨by first | rfl | (simp [errW_none, errW_some] <;> rfl) | (simp [*, errW_none, errW_some] <;> rfl), by repeat (first | (with_reducible first | exact HB.out | apply below_alloc | apply pw_below_drewN | apply below_drew1 | refine below_set ?_ GE101.out | refine below_set ?_ GE102.out | refine below_set ?_ GE103.out) | exact HB.out)⟩

end Go.Proofs.Ytfciajbahgjflaa.Print

namespace Go.Proofs.Ytfciajbahgjflaa.Print
open Go.RowKit Go.Proofs.YtfciajbahgjflaaW.PrintWords Go.Proofs.YtfciajbahgjflaaW.PrintLast Go.Proofs.YtfciajbahgjflaaW.PrintMore
attribute [local go_sem] max2_int min2_int max_two min_two max_three min_three max_four min_four   -- for this text's walks alone
set_option linter.unusedVariables false
set_option linter.unusedSimpArgs false

/-! ### laws_toTaskS: function 34 -/
def laws_toTaskS.l0 : Nat → List (S89) → List (S43) → Int → Option ((List (S43)))
  | 0, _, _, _ => none
  | k + 1, x0, x3, x4 => if x4 < (x0.length : Int) then (if 0 ≤ x4 then ((laws_toTask.f ((rd_T89 x0 x4).f0) ((rd_T89 x0 x4).f1) ((rd_T89 x0 x4).f2)).bind fun bt105 => (if x4 < (x3.length : Int) then (laws_toTaskS.l0 k x0 (x3.set (x4 : Int).toNat (⟨bt105.1, bt105.2.1, bt105.2.2⟩ : S43)) (wrap64 (x4 + 1))) else (none))) else (none)) else (some x3)
def laws_toTaskS.f (k : Nat) (l0 : List (S89)) : Option ((List (S43))) := if 0 ≤ (l0.length : Int) then (if ((l0.length : Int) : Int).toNat ≤ 11728124029610 then (laws_toTaskS.l0 k l0 (List.replicate ((l0.length : Int) : Int).toNat z43) 0) else (none)) else (none)
theorem laws_toTaskS.mono_l : ∀ k, (∀ y0 y1 y2, LeO (laws_toTaskS.l0 k y0 y1 y2) (laws_toTaskS.l0 (k + 1) y0 y1 y2))
  | 0 => fun _ _ _ r h => by simp [laws_toTaskS.l0] at h
  | k + 1 => by
    have ih0 := laws_toTaskS.mono_l k
    · intro y0 y1 y2
      unfold laws_toTaskS.l0
      repeat' first
      | (with_reducible exact ih0 _ _ _)
      | (with_reducible exact LeO.refl _)
      | (with_reducible exact LeO.none _)
      | (with_reducible refine LeO.ite ?_ ?_)
      | (with_reducible refine LeO.bind ?_ (fun _ => ?_))
      | exact ih0 _ _ _
      | exact LeO.none _
      | refine LeO.ite ?_ ?_
      | refine LeO.bind ?_ (fun _ => ?_)
theorem laws_toTaskS.mono : ∀ a0 k, LeO (laws_toTaskS.f k a0) (laws_toTaskS.f (k + 1) a0) := by
  intro a0 k
  have ih0 := laws_toTaskS.mono_l k
  unfold laws_toTaskS.f
  repeat' first
      | (with_reducible exact ih0 _ _ _)
      | (with_reducible exact LeO.refl _)
      | (with_reducible exact LeO.none _)
      | (with_reducible refine LeO.ite ?_ ?_)
      | (with_reducible refine LeO.bind ?_ (fun _ => ?_))
      | exact ih0 _ _ _
      | exact LeO.none _
      | refine LeO.ite ?_ ?_
      | refine LeO.bind ?_ (fun _ => ?_)
set_option maxHeartbeats 8000000 in
set_option maxRecDepth 100000 in
theorem laws_toTaskS.calls (k : Nat) (A0 : Option Addr) (c0 : Nat) (l0 : List (S89)) (r : List (S43)) (w : World) (hr0 : Kd.C k89 w A0 l0.length l0) (hc0 : l0.length ≤ c0) (h : laws_toTaskS.f k l0 = some r) :
    Calls Try.prog 34 #[.slice A0 l0.length c0] w fun e w' => ∃ v0_ : Value, e = .returned (v0_) ∧ Kd.R k43 43 w' w.heap.size (fun _ => True) v0_ r ∧ Below w.heap.size w w' := by
  have hu89 := Try.underlying89
  have hu43 := Try.underlying43
  have HR0 := Aside0.mk hr0
  have HC0 := Aside0.mk hc0
  clear hr0 hc0
  have HB := Aside0.mk (Below.refl w.heap.size w)
  have H : (if 0 ≤ (l0.length : Int) then (if ((l0.length : Int) : Int).toNat ≤ 11728124029610 then (laws_toTaskS.l0 k l0 (List.replicate ((l0.length : Int) : Int).toNat z43) 0) else (none)) else (none)) = some r := h
  clear h
  by_cases c2 : 0 ≤ (l0.length : Int)
  · rw [if_pos c2] at H
    have c2b0 := eq_true c2
    have c2b1 : decide (0 ≤ (l0.length : Int)) = true := decide_eq_true c2
    clear c2
    by_cases c3 : ((l0.length : Int) : Int).toNat ≤ 11728124029610
    · rw [if_pos c3] at H
      have c3b0 := eq_true c3
      have c3b1 : decide (((l0.length : Int) : Int).toNat ≤ 11728124029610) = true := decide_eq_true c3
      clear c3
      obtain ⟨y101, hy101⟩ : ∃ y_ : List (S43), y_ = (List.replicate ((l0.length : Int) : Int).toNat z43) := ⟨_, rfl⟩
      replace H : (laws_toTaskS.l0 k l0 y101 0) = some r := by first | (rw [hy101]; with_reducible exact H) | (have H2_ := (Option.bind_some _ _).symm.trans H; rw [hy101]; with_reducible exact H2_) | (have H2_ := (Option.bind_some _ _).symm.trans H; with_reducible exact H2_) | with_reducible exact H | (rw [hy101]; exact H) | exact H
      have Ny101 := Aside0.mk hy101
      clear hy101
      have H' := Aside0.mk H
      clear H
      go_enter Try.func34, Try.ntmps34
      go_wp2_with (first | ((with_reducible refine gate_dst (N := 7) rfl ?_); refine Kd.R_make k43 _ 43 rfl (N := 7) rfl 41 _ _ rfl (l0.length : Int) rfl rfl Try.underlying41 (.agg #[(.int .i64 0), (.int .i64 0), (.int .i64 0)]) 24 info43 rfl (by decide) (by omega) z43 (ok := fun _ => True) (okp := fun _ => True) (k43_mkM _ _ _ z43 ) (fun _ hk => hk) trivial (of_decide_eq_true (by first | (with_reducible assumption) | assumption)) (Nat.le_trans (Nat.mul_le_mul_right _ (of_decide_eq_true (by first | (with_reducible assumption) | assumption) : (l0.length : Int).toNat ≤ 11728124029610)) (by omega)) (Below.refl _ _) (Nat.le_refl _) ?_; intro v102 w4 ho5 hb hg_ hnew_; clear hg_ hnew_; (first | rw [← Ny101.out] at ho5 | (simp only [Int.reduceToNat] at ho5; rw [← Ny101.out] at ho5)); have n0_ := Aside0.mk (Kd.R_lower ho5 (below_size (by repeat (first | (with_reducible first | exact HB.out | apply below_alloc | apply pw_below_drewN | apply below_drew1) | exact HB.out)))); have n1_ := Aside0.mk (below_step (by repeat (first | (with_reducible first | exact HB.out | apply below_alloc | apply pw_below_drewN | apply below_drew1) | exact HB.out)) hb); clear HB; have HO103 := n0_; have HB := n1_; clear n0_ n1_; clear hb ho5))
      go_loopg [4] k (fun kq v4 w' => ∃ (x3_1 : List (S43)) (x4_1 : Int), v4 = .int .i64 x4_1 ∧ Aside0 (laws_toTaskS.l0 kq l0 x3_1 x4_1 = some r) ∧ Aside0 (kq ≤ k) ∧ Aside0 (Kd.R k43 43 w' w.heap.size (fun _ => True) v102 x3_1) ∧ Aside0 (Below w.heap.size w w'))
      case atStart => exact ⟨(y101), (0), (by first | rfl | (simp; done) | (simp [*]; done) | (simp only [i64_w, i32_w]; done) | (simp [*, i64_w, i32_w]; done)), H', ⟨Nat.le_refl _⟩, ⟨by (with_reducible repeat (first | apply Kd.R_alloc | apply Kd.R_drewN | apply Kd.R_drew)); exact HO103.out⟩, ⟨by repeat (first | (with_reducible first | exact HB.out | apply below_alloc | apply pw_below_drewN | apply below_drew1) | exact HB.out)⟩⟩
      case round =>
        clear H'
        try clear c2
        try clear c2b0
        try clear c2b1
        try clear p2
        try clear c3
        try clear c3b0
        try clear c3b1
        obtain ⟨x3_1, x4_1, rfl, HA, HK1, HO_3, HB⟩ := hrel
        cases gk with
        | zero => exact absurd HA.out (by simp [laws_toTaskS.l0])
        | succ k1 =>
          have H := HA.out
          clear HA
          simp only [laws_toTaskS.l0] at H
          by_cases c6 : x4_1 < (l0.length : Int)
          · rw [if_pos c6] at H
            have c6b0 : decide (x4_1 < (l0.length : Int)) = true := decide_eq_true c6
            clear c6
            by_cases c7 : 0 ≤ x4_1
            · rw [if_pos c7] at H
              have c7b0 : decide (0 ≤ x4_1) = true := decide_eq_true c7
              clear c7
              replace H := Option.bind_eq_some_iff.mp H
              obtain ⟨⟨t105, t106, t107⟩, A80, H⟩ := H
              replace H : (if x4_1 < (x3_1.length : Int) then (laws_toTaskS.l0 k1 l0 (x3_1.set (x4_1 : Int).toNat (⟨t105, t106, t107⟩ : S43)) (wrap64 (x4_1 + 1))) else (none)) = some r := H
              have A8 := Aside0.mk A80
              clear A80
              by_cases c9 : x4_1 < (x3_1.length : Int)
              · rw [if_pos c9] at H
                have c9b0 : decide (x4_1 < (x3_1.length : Int)) = true := decide_eq_true c9
                clear c9
                obtain ⟨y108, hy108⟩ : ∃ y_ : List (S43), y_ = (x3_1.set (x4_1 : Int).toNat (⟨t105, t106, t107⟩ : S43)) := ⟨_, rfl⟩
                replace H : (laws_toTaskS.l0 k1 l0 y108 (wrap64 (x4_1 + 1))) = some r := by first | (rw [hy108]; with_reducible exact H) | (have H2_ := (Option.bind_some _ _).symm.trans H; rw [hy108]; with_reducible exact H2_) | (have H2_ := (Option.bind_some _ _).symm.trans H; with_reducible exact H2_) | with_reducible exact H | (rw [hy108]; exact H) | exact H
                have Ny108 := Aside0.mk hy108
                clear hy108
                have H' := Aside0.mk H
                clear H
                have p104 : 0 ≤ (x4_1 : Int) := of_decide_eq_true (by first | (with_reducible assumption) | assumption)
                have q104 : x4_1 < (l0.length : Int) := of_decide_eq_true (by first | (with_reducible assumption) | assumption)
                obtain ⟨ad104, e104, hx104_0, hx104_1, hx104_2⟩ := at_T89 HR0.out x4_1 p104 q104
                cases e104
                replace hx104_0 := (HB.out.cell (World.block_lt_of_cell? w _ hx104_0)).trans hx104_0
                replace hx104_1 := (HB.out.cell (World.block_lt_of_cell? w _ hx104_1)).trans hx104_1
                replace hx104_2 := (HB.out.cell (World.block_lt_of_cell? w _ hx104_2)).trans hx104_2
                replace p104 := eq_true p104
                replace q104 := eq_true q104
                go_wp2_with (first | ((with_reducible refine gate_callee (f := 73) rfl ?_); refine goesL_ (some 20) rfl rfl Try.func73 (by kernel_rfl) rfl #[.agg #[.int .i64 ((rd_T89 l0 x4_1).f0), .int .i64 ((rd_T89 l0 x4_1).f1), .int .i64 ((rd_T89 l0 x4_1).f2)]] rfl (by (try simp only [List.map_toArray, List.map_cons, List.map_nil]); first | done | rfl | (simp only [List.length_drop, List.length_take]; rfl)) ?_; (with_reducible refine (laws_toTask.calls ((rd_T89 l0 x4_1).f0) ((rd_T89 l0 x4_1).f1) ((rd_T89 l0 x4_1).f2) t105 t106 t107 _ A8.out).mono ?_); rintro e w11 ⟨rfl, hb⟩; refine ⟨_, rfl, ?_⟩; have n0_ := Aside0.mk (Kd.R_below (by (with_reducible repeat (first | apply Kd.R_alloc | apply Kd.R_drewN | apply Kd.R_drew)); exact HO_3.out) hb); have n1_ := Aside0.mk (below_step (by repeat (first | (with_reducible first | exact HB.out | apply below_alloc | apply pw_below_drewN | apply below_drew1) | exact HB.out)) hb); clear HO_3; clear HB; have HO_3 := n0_; have HB := n1_; clear n0_ n1_; (try clear hb); (try clear hb2); (try clear hk); (try clear hi); have p10 : 0 ≤ (x4_1 : Int) := of_decide_eq_true (by first | (with_reducible assumption) | assumption); have q10 : (x4_1 : Int) < ((x3_1.length : Int) : Int) := of_decide_eq_true (by first | (with_reducible assumption) | assumption); obtain ⟨go10, co10, eo10, gb10, gl10, cl10, HG10⟩ := Kd.R_form HO_3.out (by omega); (first | cases eo10 | (injection eo10 with ea_ en_ ec_; (first | subst ea_ | (injection ea_ with ea_; subst ea_)); subst ec_; clear en_)); have GB10 := Aside0.mk gb10; have GG10 := Aside0.mk HG10; clear gb10 gl10 HG10; obtain ⟨ce10, hcl10, hM10, hcc10, hfr10⟩ := Kd.R_elem HO_3.out z43 (x4_1 : Int) p10 q10; obtain rfl := k43_openM hM10; have hx10_0 : w11.cell? ⟨go10, (x4_1 : Int).toNat * 3, none⟩ = some (.int .i64 ((rd_T43 x3_1 x4_1).f0)) := hcc10 0 _ rfl; have hx10_1 : w11.cell? ⟨go10, (x4_1 : Int).toNat * 3 + 1, none⟩ = some (.int .i64 ((rd_T43 x3_1 x4_1).f1)) := hcc10 1 _ rfl; have hx10_2 : w11.cell? ⟨go10, (x4_1 : Int).toNat * 3 + 2, none⟩ = some (.int .i64 ((rd_T43 x3_1 x4_1).f2)) := hcc10 2 _ rfl; have hf10_0 : w11.frozen? ⟨go10, (x4_1 : Int).toNat * 3, none⟩ = false := hfr10 0; have hf10_1 : w11.frozen? ⟨go10, (x4_1 : Int).toNat * 3 + 1, none⟩ = false := hfr10 1; have hf10_2 : w11.frozen? ⟨go10, (x4_1 : Int).toNat * 3 + 2, none⟩ = false := hfr10 2; clear hcl10 hcc10 hfr10 hM10; replace p10 := eq_true p10; replace q10 := eq_true q10; have HX12 := Aside0.mk (show Kd.R k43 43 w11 w.heap.size (fun _ => True) (.slice (some ⟨go10, 0, none⟩) x3_1.length co10) x3_1 from (by (with_reducible repeat (first | apply Kd.R_alloc | apply Kd.R_drewN | apply Kd.R_drew)); exact HO_3.out)); obtain ⟨ce12, hcl12, hM12, hcc12, hfr12⟩ := Kd.R_elem HX12.out z43 (x4_1 : Int) (of_decide_eq_true (by first | (with_reducible assumption) | assumption)) (by have h_ : (x4_1 : Int) < ((x3_1.length : Int) : Int) := of_decide_eq_true (by first | (with_reducible assumption) | assumption); first | exact h_ | (have e_ := (Kd.R_reads' HO_3.out).1; omega) | simpa using h_); obtain rfl := k43_openM hM12; have HP12 := Kd.R_seg HX12.out (x4_1 : Int) (of_decide_eq_true (by first | (with_reducible assumption) | assumption)) (by have h_ : (x4_1 : Int) < ((x3_1.length : Int) : Int) := of_decide_eq_true (by first | (with_reducible assumption) | assumption); first | exact h_ | (have e_ := (Kd.R_reads' HO_3.out).1; omega) | simpa using h_) (seg := [.int .i64 t105, .int .i64 t106, .int .i64 t107]) (j := 0) hcl12 hcc12 (show 3 ≤ 3 from by decide) (x' := (⟨t105, t106, t107⟩ : S43)) (k43_mkM _ _ _ (⟨t105, t106, t107⟩ : S43) ) (fun _ hk => hk); have hx12_0 := hcc12 0 _ rfl; (try simp only [show (k43).sz = 3 from rfl, Nat.mul_one, Nat.add_zero] at hx12_0); have hf12_0 := hfr12 0; (try simp only [show (k43).sz = 3 from rfl, Nat.mul_one, Nat.add_zero] at hf12_0); have hx12_1 := hcc12 1 _ rfl; (try simp only [show (k43).sz = 3 from rfl, Nat.mul_one, Nat.add_zero] at hx12_1); have hf12_1 := hfr12 1; (try simp only [show (k43).sz = 3 from rfl, Nat.mul_one, Nat.add_zero] at hf12_1); have hx12_2 := hcc12 2 _ rfl; (try simp only [show (k43).sz = 3 from rfl, Nat.mul_one, Nat.add_zero] at hx12_2); have hf12_2 := hfr12 2; (try simp only [show (k43).sz = 3 from rfl, Nat.mul_one, Nat.add_zero] at hf12_2); clear hcl12 hcc12 hfr12 hM12) | ((with_reducible refine gate_store (t := 43) (p := 21) rfl ?_); refine store_event (t := 43) (p := 21) (v := ?vo_w13) (w1 := (((w11.setCell ⟨go10, (x4_1 : Int).toNat * 3, none⟩ (.int .i64 t105)).setCell ⟨go10, (x4_1 : Int).toNat * 3 + 1, none⟩ (.int .i64 t106)).setCell ⟨go10, (x4_1 : Int).toNat * 3 + 2, none⟩ (.int .i64 t107))) ?hg ?ho ?hn ?hr ?_; (case ho => rfl); (case hg => rfl); (case hn => rfl); (case hr => first | (go_simp; done) | (go_simp; rfl)); intro w13 hw; have hg : w11.grownBy w13 (some go10) := (by rw [hw]; exact HP12.2); have hp_ : Kd.R k43 43 w13 w.heap.size (fun _ => True) (.slice (some ⟨go10, 0, none⟩) x3_1.length co10) y108 := (by rw [hw, Ny108.out]; exact HP12.1); clear HP12; have n0_ := Aside0.mk (hp_); have n1_ := Aside0.mk ((by rw [hw]; exact below_set (below_set (below_set (HB.out) GB10.out) GB10.out) GB10.out : Below w.heap.size w w13)); clear HO_3; clear HB; have HO_3 := n0_; have HB := n1_; clear n0_ n1_; clear hg hw hp_))
                go_roundg k1
                case measure => have := HK1.out; omega
                case rel => exact ⟨(y108), (wrap64 (x4_1 + 1)), (by first | rfl | (simp; done) | (simp [*]; done) | (simp only [i64_w, i32_w]; done) | (simp [*, i64_w, i32_w]; done)), H', ⟨by have := HK1.out; omega⟩, ⟨by (with_reducible repeat (first | apply Kd.R_alloc | apply Kd.R_drewN | apply Kd.R_drew)); exact HO_3.out⟩, ⟨by repeat (first | (with_reducible first | exact HB.out | apply below_alloc | apply pw_below_drewN | apply below_drew1) | exact HB.out)⟩⟩
              · rw [if_neg c9] at H
                exact absurd H (by simp)
            · rw [if_neg c7] at H
              exact absurd H (by simp)
          · rw [if_neg c6] at H
            have c6b0 : decide (x4_1 < (l0.length : Int)) = false := decide_eq_false c6
            clear c6
            obtain rfl := Option.some.inj H
            go_wp2
            go_ret
            exact ⟨_, by first | rfl | (simp [errW_none, errW_some] <;> rfl) | (simp [*, errW_none, errW_some] <;> rfl), by (with_reducible repeat (first | apply Kd.R_alloc | apply Kd.R_drewN | apply Kd.R_drew)); exact HO_3.out, by repeat (first | (with_reducible first | exact HB.out | apply below_alloc | apply pw_below_drewN | apply below_drew1) | exact HB.out)⟩
    · rw [if_neg c3] at H
      exact absurd H (by simp)
  · rw [if_neg c2] at H
    exact absurd H (by simp)

end Go.Proofs.Ytfciajbahgjflaa.Print

namespace Go.Proofs.Ytfciajbahgjflaa.Print
open Go.RowKit Go.Proofs.YtfciajbahgjflaaW.PrintWords Go.Proofs.YtfciajbahgjflaaW.PrintLast Go.Proofs.YtfciajbahgjflaaW.PrintMore
attribute [local go_sem] max2_int min2_int max_two min_two max_three min_three max_four min_four   -- for this text's walks alone
set_option linter.unusedVariables false
set_option linter.unusedSimpArgs false

/-! ### laws_eqTask: function 76 -/
def laws_eqTask.f (a0_0 : Int) (a0_1 : Int) (a0_2 : Int) (a1_0 : Int) (a1_1 : Int) (a1_2 : Int) : Option (Bool) := if a0_0 = a1_0 then (if a0_1 = a1_1 then (if a0_2 = a1_2 then (some true) else (some false)) else (some false)) else (some false)
set_option maxHeartbeats 8000000 in
set_option maxRecDepth 100000 in
theorem laws_eqTask.calls (a0_0 : Int) (a0_1 : Int) (a0_2 : Int) (a1_0 : Int) (a1_1 : Int) (a1_2 : Int) (r : Bool) (w : World) (h : laws_eqTask.f a0_0 a0_1 a0_2 a1_0 a1_1 a1_2 = some r) :
    Calls Try.prog 76 #[.agg #[.int .i64 a0_0, .int .i64 a0_1, .int .i64 a0_2], .agg #[.int .i64 a1_0, .int .i64 a1_1, .int .i64 a1_2]] w fun e w' => e = .returned (.bool r) ∧ Below w.heap.size w w' := by
  have hu43 := Try.underlying43
  have HB := Aside0.mk (Below.refl w.heap.size w)
  have H : (if a0_0 = a1_0 then (if a0_1 = a1_1 then (if a0_2 = a1_2 then (some true) else (some false)) else (some false)) else (some false)) = some r := h
  clear h
  by_cases c3 : a0_0 = a1_0
  · rw [if_pos c3] at H
    have c3b0 : (a0_0 == a1_0) = true := beq_iff_eq.mpr c3
    have c3b1 : (a0_0 != a1_0) = false := bne_eq_false_iff_eq.mpr c3
    clear c3
    by_cases c4 : a0_1 = a1_1
    · rw [if_pos c4] at H
      have c4b0 : (a0_1 == a1_1) = true := beq_iff_eq.mpr c4
      have c4b1 : (a0_1 != a1_1) = false := bne_eq_false_iff_eq.mpr c4
      clear c4
      by_cases c5 : a0_2 = a1_2
      · rw [if_pos c5] at H
        have c5b0 : (a0_2 == a1_2) = true := beq_iff_eq.mpr c5
        have c5b1 : (a0_2 != a1_2) = false := bne_eq_false_iff_eq.mpr c5
        clear c5
        obtain rfl := Option.some.inj H
        go_enter Try.func76, Try.ntmps76
        go_wp2_with (first | ((with_reducible refine gate_dst (N := 2) rfl ?_); refine box_event ?hg (N := 2) ?hd (cs := #[.int .i64 a0_0, .int .i64 a0_1, .int .i64 a0_2]) (t := 43) ?hr ?_; (case hd => rfl); (case hg => rfl); (case hr => first | (go_simp; done) | (go_simp; rfl)); intro gb101 hg w6 hbox hb; have n0_ := Aside0.mk (below_step (by repeat (first | (with_reducible first | exact HB.out | apply below_alloc | apply pw_below_drewN | apply below_drew1) | exact HB.out)) hb); have n1_ := Aside0.mk (hbox); have n2_ := Aside0.mk ((by rw [hg]; exact (below_size (by repeat (first | (with_reducible first | exact HB.out | apply below_alloc | apply pw_below_drewN | apply below_drew1) | exact HB.out))) : w.heap.size ≤ gb101)); have n3_ := Aside0.mk ((by rw [hg]; exact (below_size (by repeat (first | (with_reducible first | exact HB.out | apply below_alloc | apply pw_below_drewN | apply below_drew1) | exact HB.out))) : w.heap.size ≤ gb101)); clear HB; have HB := n0_; have BK101 := n1_; have GW101 := n2_; have GE101 := n3_; clear n0_ n1_ n2_ n3_; clear hb hbox hg) | ((with_reducible refine gate_dst (N := 3) rfl ?_); refine box_event ?hg (N := 3) ?hd (cs := #[.int .i64 a1_0, .int .i64 a1_1, .int .i64 a1_2]) (t := 43) ?hr ?_; (case hd => rfl); (case hg => rfl); (case hr => first | (go_simp; done) | (go_simp; rfl)); intro gb102 hg w7 hbox hb; have n0_ := Aside0.mk (blk_below (g := gb101) (o := .cells #[.int .i64 a0_0, .int .i64 a0_1, .int .i64 a0_2] 43 (0, 0)) (by (with_reducible repeat (first | refine blk_drewN ?_ _ | refine blk_drew ?_ | refine blk_alloc ?_ _)); exact BK101.out) hb); have n1_ := Aside0.mk (below_step (by repeat (first | (with_reducible first | exact HB.out | apply below_alloc | apply pw_below_drewN | apply below_drew1 | refine below_set ?_ GE101.out) | exact HB.out)) hb); have n2_ := Aside0.mk (hbox); have n3_ := Aside0.mk ((by rw [hg]; exact (below_size (by repeat (first | (with_reducible first | exact HB.out | apply below_alloc | apply pw_below_drewN | apply below_drew1 | refine below_set ?_ GE101.out) | exact HB.out))) : w.heap.size ≤ gb102)); have n4_ := Aside0.mk ((by rw [hg]; exact (below_size (by repeat (first | (with_reducible first | exact HB.out | apply below_alloc | apply pw_below_drewN | apply below_drew1 | refine below_set ?_ GE101.out) | exact HB.out))) : w.heap.size ≤ gb102)); have n5_ := Aside0.mk ((by rw [hg]; exact Nat.ne_of_lt (blk_lt (g := gb101) (o := .cells #[.int .i64 a0_0, .int .i64 a0_1, .int .i64 a0_2] 43 (0, 0)) (by (with_reducible repeat (first | refine blk_drewN ?_ _ | refine blk_drew ?_ | refine blk_alloc ?_ _)); exact BK101.out)) : gb101 ≠ gb102)); have n6_ := Aside0.mk ((by rw [hg]; exact Nat.ne_of_gt (blk_lt (g := gb101) (o := .cells #[.int .i64 a0_0, .int .i64 a0_1, .int .i64 a0_2] 43 (0, 0)) (by (with_reducible repeat (first | refine blk_drewN ?_ _ | refine blk_drew ?_ | refine blk_alloc ?_ _)); exact BK101.out)) : gb102 ≠ gb101)); clear BK101; clear HB; have BK101 := n0_; have HB := n1_; have BK102 := n2_; have GW102 := n3_; have GE102 := n4_; have NB101_102 := n5_; have NB102_101 := n6_; clear n0_ n1_ n2_ n3_ n4_ n5_ n6_; clear hb hbox hg; have hnb8 := NB101_102.out; have hnc8 := NB102_101.out; have hcz9_0 : w7.cell? ⟨gb101, 0, none⟩ = some (.int .i64 a0_0) := (blk_cell BK101.out 0).trans rfl; have hcz9_1 : w7.cell? ⟨gb101, 1, none⟩ = some (.int .i64 a0_1) := (blk_cell BK101.out 1).trans rfl; have hcz9_2 : w7.cell? ⟨gb101, 2, none⟩ = some (.int .i64 a0_2) := (blk_cell BK101.out 2).trans rfl; have hfz9_0 := blk_frozen BK101.out 0; have hfz9_1 := blk_frozen BK101.out 1; have hfz9_2 := blk_frozen BK101.out 2; have hcz10_0 : w7.cell? ⟨gb102, 0, none⟩ = some (.int .i64 a1_0) := (blk_cell BK102.out 0).trans rfl; have hcz10_1 : w7.cell? ⟨gb102, 1, none⟩ = some (.int .i64 a1_1) := (blk_cell BK102.out 1).trans rfl; have hcz10_2 : w7.cell? ⟨gb102, 2, none⟩ = some (.int .i64 a1_2) := (blk_cell BK102.out 2).trans rfl; have hfz10_0 := blk_frozen BK102.out 0; have hfz10_1 := blk_frozen BK102.out 1; have hfz10_2 := blk_frozen BK102.out 2))
        go_ret
        exact ⟨by first | rfl | (simp [errW_none, errW_some] <;> rfl) | (simp [*, errW_none, errW_some] <;> rfl), by repeat (first | (with_reducible first | exact HB.out | apply below_alloc | apply pw_below_drewN | apply below_drew1 | refine below_set ?_ GE101.out | refine below_set ?_ GE102.out) | exact HB.out)⟩
      · rw [if_neg c5] at H
        have c5b0 : (a0_2 == a1_2) = false := beq_eq_false_iff_ne.mpr c5
        have c5b1 : (a0_2 != a1_2) = true := bne_iff_ne.mpr c5
        obtain rfl := Option.some.inj H
        go_enter Try.func76, Try.ntmps76
        go_wp2_with (first | ((with_reducible refine gate_dst (N := 2) rfl ?_); refine box_event ?hg (N := 2) ?hd (cs := #[.int .i64 a0_0, .int .i64 a0_1, .int .i64 a0_2]) (t := 43) ?hr ?_; (case hd => rfl); (case hg => rfl); (case hr => first | (go_simp; done) | (go_simp; rfl)); intro gb101 hg w11 hbox hb; have n0_ := Aside0.mk (below_step (by repeat (first | (with_reducible first | exact HB.out | apply below_alloc | apply pw_below_drewN | apply below_drew1) | exact HB.out)) hb); have n1_ := Aside0.mk (hbox); have n2_ := Aside0.mk ((by rw [hg]; exact (below_size (by repeat (first | (with_reducible first | exact HB.out | apply below_alloc | apply pw_below_drewN | apply below_drew1) | exact HB.out))) : w.heap.size ≤ gb101)); have n3_ := Aside0.mk ((by rw [hg]; exact (below_size (by repeat (first | (with_reducible first | exact HB.out | apply below_alloc | apply pw_below_drewN | apply below_drew1) | exact HB.out))) : w.heap.size ≤ gb101)); clear HB; have HB := n0_; have BK101 := n1_; have GW101 := n2_; have GE101 := n3_; clear n0_ n1_ n2_ n3_; clear hb hbox hg) | ((with_reducible refine gate_dst (N := 3) rfl ?_); refine box_event ?hg (N := 3) ?hd (cs := #[.int .i64 a1_0, .int .i64 a1_1, .int .i64 a1_2]) (t := 43) ?hr ?_; (case hd => rfl); (case hg => rfl); (case hr => first | (go_simp; done) | (go_simp; rfl)); intro gb102 hg w12 hbox hb; have n0_ := Aside0.mk (blk_below (g := gb101) (o := .cells #[.int .i64 a0_0, .int .i64 a0_1, .int .i64 a0_2] 43 (0, 0)) (by (with_reducible repeat (first | refine blk_drewN ?_ _ | refine blk_drew ?_ | refine blk_alloc ?_ _)); exact BK101.out) hb); have n1_ := Aside0.mk (below_step (by repeat (first | (with_reducible first | exact HB.out | apply below_alloc | apply pw_below_drewN | apply below_drew1 | refine below_set ?_ GE101.out) | exact HB.out)) hb); have n2_ := Aside0.mk (hbox); have n3_ := Aside0.mk ((by rw [hg]; exact (below_size (by repeat (first | (with_reducible first | exact HB.out | apply below_alloc | apply pw_below_drewN | apply below_drew1 | refine below_set ?_ GE101.out) | exact HB.out))) : w.heap.size ≤ gb102)); have n4_ := Aside0.mk ((by rw [hg]; exact (below_size (by repeat (first | (with_reducible first | exact HB.out | apply below_alloc | apply pw_below_drewN | apply below_drew1 | refine below_set ?_ GE101.out) | exact HB.out))) : w.heap.size ≤ gb102)); have n5_ := Aside0.mk ((by rw [hg]; exact Nat.ne_of_lt (blk_lt (g := gb101) (o := .cells #[.int .i64 a0_0, .int .i64 a0_1, .int .i64 a0_2] 43 (0, 0)) (by (with_reducible repeat (first | refine blk_drewN ?_ _ | refine blk_drew ?_ | refine blk_alloc ?_ _)); exact BK101.out)) : gb101 ≠ gb102)); have n6_ := Aside0.mk ((by rw [hg]; exact Nat.ne_of_gt (blk_lt (g := gb101) (o := .cells #[.int .i64 a0_0, .int .i64 a0_1, .int .i64 a0_2] 43 (0, 0)) (by (with_reducible repeat (first | refine blk_drewN ?_ _ | refine blk_drew ?_ | refine blk_alloc ?_ _)); exact BK101.out)) : gb102 ≠ gb101)); clear BK101; clear HB; have BK101 := n0_; have HB := n1_; have BK102 := n2_; have GW102 := n3_; have GE102 := n4_; have NB101_102 := n5_; have NB102_101 := n6_; clear n0_ n1_ n2_ n3_ n4_ n5_ n6_; clear hb hbox hg; have hnb13 := NB101_102.out; have hnc13 := NB102_101.out; have hcz14_0 : w12.cell? ⟨gb101, 0, none⟩ = some (.int .i64 a0_0) := (blk_cell BK101.out 0).trans rfl; have hcz14_1 : w12.cell? ⟨gb101, 1, none⟩ = some (.int .i64 a0_1) := (blk_cell BK101.out 1).trans rfl; have hcz14_2 : w12.cell? ⟨gb101, 2, none⟩ = some (.int .i64 a0_2) := (blk_cell BK101.out 2).trans rfl; have hfz14_0 := blk_frozen BK101.out 0; have hfz14_1 := blk_frozen BK101.out 1; have hfz14_2 := blk_frozen BK101.out 2; have hcz15_0 : w12.cell? ⟨gb102, 0, none⟩ = some (.int .i64 a1_0) := (blk_cell BK102.out 0).trans rfl; have hcz15_1 : w12.cell? ⟨gb102, 1, none⟩ = some (.int .i64 a1_1) := (blk_cell BK102.out 1).trans rfl; have hcz15_2 : w12.cell? ⟨gb102, 2, none⟩ = some (.int .i64 a1_2) := (blk_cell BK102.out 2).trans rfl; have hfz15_0 := blk_frozen BK102.out 0; have hfz15_1 := blk_frozen BK102.out 1; have hfz15_2 := blk_frozen BK102.out 2))
        go_ret
        exact ⟨by first | rfl | (simp [errW_none, errW_some] <;> rfl) | (simp [*, errW_none, errW_some] <;> rfl), by repeat (first | (with_reducible first | exact HB.out | apply below_alloc | apply pw_below_drewN | apply below_drew1 | refine below_set ?_ GE101.out | refine below_set ?_ GE102.out) | exact HB.out)⟩
    · rw [if_neg c4] at H
      have c4b0 : (a0_1 == a1_1) = false := beq_eq_false_iff_ne.mpr c4
      have c4b1 : (a0_1 != a1_1) = true := bne_iff_ne.mpr c4
      obtain rfl := Option.some.inj H
      go_enter Try.func76, Try.ntmps76
      go_wp2_with (first | ((with_reducible refine gate_dst (N := 2) rfl ?_); refine box_event ?hg (N := 2) ?hd (cs := #[.int .i64 a0_0, .int .i64 a0_1, .int .i64 a0_2]) (t := 43) ?hr ?_; (case hd => rfl); (case hg => rfl); (case hr => first | (go_simp; done) | (go_simp; rfl)); intro gb101 hg w16 hbox hb; have n0_ := Aside0.mk (below_step (by repeat (first | (with_reducible first | exact HB.out | apply below_alloc | apply pw_below_drewN | apply below_drew1) | exact HB.out)) hb); have n1_ := Aside0.mk (hbox); have n2_ := Aside0.mk ((by rw [hg]; exact (below_size (by repeat (first | (with_reducible first | exact HB.out | apply below_alloc | apply pw_below_drewN | apply below_drew1) | exact HB.out))) : w.heap.size ≤ gb101)); have n3_ := Aside0.mk ((by rw [hg]; exact (below_size (by repeat (first | (with_reducible first | exact HB.out | apply below_alloc | apply pw_below_drewN | apply below_drew1) | exact HB.out))) : w.heap.size ≤ gb101)); clear HB; have HB := n0_; have BK101 := n1_; have GW101 := n2_; have GE101 := n3_; clear n0_ n1_ n2_ n3_; clear hb hbox hg) | ((with_reducible refine gate_dst (N := 3) rfl ?_); refine box_event ?hg (N := 3) ?hd (cs := #[.int .i64 a1_0, .int .i64 a1_1, .int .i64 a1_2]) (t := 43) ?hr ?_; (case hd => rfl); (case hg => rfl); (case hr => first | (go_simp; done) | (go_simp; rfl)); intro gb102 hg w17 hbox hb; have n0_ := Aside0.mk (blk_below (g := gb101) (o := .cells #[.int .i64 a0_0, .int .i64 a0_1, .int .i64 a0_2] 43 (0, 0)) (by (with_reducible repeat (first | refine blk_drewN ?_ _ | refine blk_drew ?_ | refine blk_alloc ?_ _)); exact BK101.out) hb); have n1_ := Aside0.mk (below_step (by repeat (first | (with_reducible first | exact HB.out | apply below_alloc | apply pw_below_drewN | apply below_drew1 | refine below_set ?_ GE101.out) | exact HB.out)) hb); have n2_ := Aside0.mk (hbox); have n3_ := Aside0.mk ((by rw [hg]; exact (below_size (by repeat (first | (with_reducible first | exact HB.out | apply below_alloc | apply pw_below_drewN | apply below_drew1 | refine below_set ?_ GE101.out) | exact HB.out))) : w.heap.size ≤ gb102)); have n4_ := Aside0.mk ((by rw [hg]; exact (below_size (by repeat (first | (with_reducible first | exact HB.out | apply below_alloc | apply pw_below_drewN | apply below_drew1 | refine below_set ?_ GE101.out) | exact HB.out))) : w.heap.size ≤ gb102)); have n5_ := Aside0.mk ((by rw [hg]; exact Nat.ne_of_lt (blk_lt (g := gb101) (o := .cells #[.int .i64 a0_0, .int .i64 a0_1, .int .i64 a0_2] 43 (0, 0)) (by (with_reducible repeat (first | refine blk_drewN ?_ _ | refine blk_drew ?_ | refine blk_alloc ?_ _)); exact BK101.out)) : gb101 ≠ gb102)); have n6_ := Aside0.mk ((by rw [hg]; exact Nat.ne_of_gt (blk_lt (g := gb101) (o := .cells #[.int .i64 a0_0, .int .i64 a0_1, .int .i64 a0_2] 43 (0, 0)) (by (with_reducible repeat (first | refine blk_drewN ?_ _ | refine blk_drew ?_ | refine blk_alloc ?_ _)); exact BK101.out)) : gb102 ≠ gb101)); clear BK101; clear HB; have BK101 := n0_; have HB := n1_; have BK102 := n2_; have GW102 := n3_; have GE102 := n4_; have NB101_102 := n5_; have NB102_101 := n6_; clear n0_ n1_ n2_ n3_ n4_ n5_ n6_; clear hb hbox hg; have hnb18 := NB101_102.out; have hnc18 := NB102_101.out; have hcz19_0 : w17.cell? ⟨gb101, 0, none⟩ = some (.int .i64 a0_0) := (blk_cell BK101.out 0).trans rfl; have hcz19_1 : w17.cell? ⟨gb101, 1, none⟩ = some (.int .i64 a0_1) := (blk_cell BK101.out 1).trans rfl; have hcz19_2 : w17.cell? ⟨gb101, 2, none⟩ = some (.int .i64 a0_2) := (blk_cell BK101.out 2).trans rfl; have hfz19_0 := blk_frozen BK101.out 0; have hfz19_1 := blk_frozen BK101.out 1; have hfz19_2 := blk_frozen BK101.out 2; have hcz20_0 : w17.cell? ⟨gb102, 0, none⟩ = some (.int .i64 a1_0) := (blk_cell BK102.out 0).trans rfl; have hcz20_1 : w17.cell? ⟨gb102, 1, none⟩ = some (.int .i64 a1_1) := (blk_cell BK102.out 1).trans rfl; have hcz20_2 : w17.cell? ⟨gb102, 2, none⟩ = some (.int .i64 a1_2) := (blk_cell BK102.out 2).trans rfl; have hfz20_0 := blk_frozen BK102.out 0; have hfz20_1 := blk_frozen BK102.out 1; have hfz20_2 := blk_frozen BK102.out 2))
      go_ret
      exact ⟨by first | rfl | (simp [errW_none, errW_some] <;> rfl) | (simp [*, errW_none, errW_some] <;> rfl), by repeat (first | (with_reducible first | exact HB.out | apply below_alloc | apply pw_below_drewN | apply below_drew1 | refine below_set ?_ GE101.out | refine below_set ?_ GE102.out) | exact HB.out)⟩
  · rw [if_neg c3] at H
    have c3b0 : (a0_0 == a1_0) = false := beq_eq_false_iff_ne.mpr c3
    have c3b1 : (a0_0 != a1_0) = true := bne_iff_ne.mpr c3
    obtain rfl := Option.some.inj H
    go_enter Try.func76, Try.ntmps76
    go_wp2_with (first | ((with_reducible refine gate_dst (N := 2) rfl ?_); refine box_event ?hg (N := 2) ?hd (cs := #[.int .i64 a0_0, .int .i64 a0_1, .int .i64 a0_2]) (t := 43) ?hr ?_; (case hd => rfl); (case hg => rfl); (case hr => first | (go_simp; done) | (go_simp; rfl)); intro gb101 hg w21 hbox hb; have n0_ := Aside0.mk (below_step (by repeat (first | (with_reducible first | exact HB.out | apply below_alloc | apply pw_below_drewN | apply below_drew1) | exact HB.out)) hb); have n1_ := Aside0.mk (hbox); have n2_ := Aside0.mk ((by rw [hg]; exact (below_size (by repeat (first | (with_reducible first | exact HB.out | apply below_alloc | apply pw_below_drewN | apply below_drew1) | exact HB.out))) : w.heap.size ≤ gb101)); have n3_ := Aside0.mk ((by rw [hg]; exact (below_size (by repeat (first | (with_reducible first | exact HB.out | apply below_alloc | apply pw_below_drewN | apply below_drew1) | exact HB.out))) : w.heap.size ≤ gb101)); clear HB; have HB := n0_; have BK101 := n1_; have GW101 := n2_; have GE101 := n3_; clear n0_ n1_ n2_ n3_; clear hb hbox hg) | ((with_reducible refine gate_dst (N := 3) rfl ?_); refine box_event ?hg (N := 3) ?hd (cs := #[.int .i64 a1_0, .int .i64 a1_1, .int .i64 a1_2]) (t := 43) ?hr ?_; (case hd => rfl); (case hg => rfl); (case hr => first | (go_simp; done) | (go_simp; rfl)); intro gb102 hg w22 hbox hb; have n0_ := Aside0.mk (blk_below (g := gb101) (o := .cells #[.int .i64 a0_0, .int .i64 a0_1, .int .i64 a0_2] 43 (0, 0)) (by (with_reducible repeat (first | refine blk_drewN ?_ _ | refine blk_drew ?_ | refine blk_alloc ?_ _)); exact BK101.out) hb); have n1_ := Aside0.mk (below_step (by repeat (first | (with_reducible first | exact HB.out | apply below_alloc | apply pw_below_drewN | apply below_drew1 | refine below_set ?_ GE101.out) | exact HB.out)) hb); have n2_ := Aside0.mk (hbox); have n3_ := Aside0.mk ((by rw [hg]; exact (below_size (by repeat (first | (with_reducible first | exact HB.out | apply below_alloc | apply pw_below_drewN | apply below_drew1 | refine below_set ?_ GE101.out) | exact HB.out))) : w.heap.size ≤ gb102)); have n4_ := Aside0.mk ((by rw [hg]; exact (below_size (by repeat (first | (with_reducible first | exact HB.out | apply below_alloc | apply pw_below_drewN | apply below_drew1 | refine below_set ?_ GE101.out) | exact HB.out))) : w.heap.size ≤ gb102)); have n5_ := Aside0.mk ((by rw [hg]; exact Nat.ne_of_lt (blk_lt (g := gb101) (o := .cells #[.int .i64 a0_0, .int .i64 a0_1, .int .i64 a0_2] 43 (0, 0)) (by (with_reducible repeat (first | refine blk_drewN ?_ _ | refine blk_drew ?_ | refine blk_alloc ?_ _)); exact BK101.out)) : gb101 ≠ gb102)); have n6_ := Aside0.mk ((by rw [hg]; exact Nat.ne_of_gt (blk_lt (g := gb101) (o := .cells #[.int .i64 a0_0, .int .i64 a0_1, .int .i64 a0_2] 43 (0, 0)) (by (with_reducible repeat (first | refine blk_drewN ?_ _ | refine blk_drew ?_ | refine blk_alloc ?_ _)); exact BK101.out)) : gb102 ≠ gb101)); clear BK101; clear HB; have BK101 := n0_; have HB := n1_; have BK102 := n2_; have GW102 := n3_; have GE102 := n4_; have NB101_102 := n5_; have NB102_101 := n6_; clear n0_ n1_ n2_ n3_ n4_ n5_ n6_; clear hb hbox hg; have hnb23 := NB101_102.out; have hnc23 := NB102_101.out; have hcz24_0 : w22.cell? ⟨gb101, 0, none⟩ = some (.int .i64 a0_0) := (blk_cell BK101.out 0).trans rfl; have hcz24_1 : w22.cell? ⟨gb101, 1, none⟩ = some (.int .i64 a0_1) := (blk_cell BK101.out 1).trans rfl; have hcz24_2 : w22.cell? ⟨gb101, 2, none⟩ = some (.int .i64 a0_2) := (blk_cell BK101.out 2).trans rfl; have hfz24_0 := blk_frozen BK101.out 0; have hfz24_1 := blk_frozen BK101.out 1; have hfz24_2 := blk_frozen BK101.out 2; have hcz25_0 : w22.cell? ⟨gb102, 0, none⟩ = some (.int .i64 a1_0) := (blk_cell BK102.out 0).trans rfl; have hcz25_1 : w22.cell? ⟨gb102, 1, none⟩ = some (.int .i64 a1_1) := (blk_cell BK102.out 1).trans rfl; have hcz25_2 : w22.cell? ⟨gb102, 2, none⟩ = some (.int .i64 a1_2) := (blk_cell BK102.out 2).trans rfl; have hfz25_0 := blk_frozen BK102.out 0; have hfz25_1 := blk_frozen BK102.out 1; have hfz25_2 := blk_frozen BK102.out 2))
    go_ret
    exact ⟨by first | rfl | (simp [errW_none, errW_some] <;> rfl) | (simp [*, errW_none, errW_some] <;> rfl), by repeat (first | (with_reducible first | exact HB.out | apply below_alloc | apply pw_below_drewN | apply below_drew1 | refine below_set ?_ GE101.out | refine below_set ?_ GE102.out) | exact HB.out)⟩

end Go.Proofs.Ytfciajbahgjflaa.Print
