/- Functions of the translation as plain Lean functions, and their contracts. No condition. -/
import Derived.Test.YtfciajbahgjflaaPB
import Derived.Test.YtfciajbahgjflaaRR
import Derived.Test.YtfciajbahgjflaaZFnExactGlobalMissedP0
import Derived.Test.YtfciajbahgjflaaZFnExactGlobalMissedP1
namespace Go.Proofs.Ytfciajbahgjflaa.Print
open Go.RowKit Go.Proofs.YtfciajbahgjflaaW.PrintWords Go.Proofs.YtfciajbahgjflaaW.PrintLast Go.Proofs.YtfciajbahgjflaaW.PrintMore
attribute [local go_sem] max2_int min2_int max_two min_two max_three min_three max_four min_four   -- for this text's walks alone
set_option linter.unusedVariables false
set_option linter.unusedSimpArgs false

/-! ### laws_FnExactGlobalMissed: function 8 -/
def laws_FnExactGlobalMissed.j0 : Nat → List (S79) → List Int → List Int → Bool → List (List Int) → List Int → Option (Bool)
  | 0, _, _, _, _, _, _ => none
  | k + 1, x0, x6, x9, x63, x102000, x102001 => if x63 = true then (some false) else ((laws_markIntS.f k x9 1).bind fun bt145 => ((laws_heldIntS.f k bt145.2 1).bind fun t147 => (if t147 < 0 then (some false) else (if t147 = bt145.1 then ((laws_toJobS.f k x0).bind fun t148 => ((laws_toGlobalRun.f k x102000 x102001).bind fun bt151 => ((impl_GlobalMissed.f t148 bt151.1 bt151.2).bind fun t157 => ((laws_eqIntS.f k t157 x6).bind fun t160 => (if t160 = true then ((laws_heldIntS.f k bt145.2 1).bind fun t161 => (if t161 < 0 then (some false) else (if t161 = bt145.1 then (some true) else (some false)))) else (some false)))))) else (some false)))))
def laws_FnExactGlobalMissed.f (k : Nat) (l0 : List (S79)) (l1_0 : List (List Int)) (l1_1 : List Int) : Option (Bool) := (laws_szJobS.f l0 1048576).bind fun t102 => (if t102 < 0 then (some true) else ((laws_szGlobalRun.f k l1_0 l1_1 t102).bind fun t103 => (if t103 < 0 then (some true) else ((laws_toJobS.f k l0).bind fun t104 => ((laws_toGlobalRun.f k l1_0 l1_1).bind fun bt107 => ((spec_GlobalMissed.f k t104 bt107.1 bt107.2).bind fun t113 => ((laws_toJobS.f k l0).bind fun t116 => ((laws_toGlobalRun.f k l1_0 l1_1).bind fun bt119 => ((impl_GlobalMissed.f t116 bt119.1 bt119.2).bind fun t126 => ((laws_eqIntS.f k t126 t113).bind fun t129 => (if t129 = true then ((laws_toJobS.f k l0).bind fun t130 => ((laws_eqJobS.f k t116 t130).bind fun t133 => (if t133 = true then ((laws_toGlobalRun.f k l1_0 l1_1).bind fun bt134 => ((laws_eqGlobalRun.f k bt119.1 bt119.2 bt134.1 bt134.2).bind fun t140 => (if t140 = true then ((laws_markJobS.f k t116 1).bind fun bt141 => ((laws_markGlobalRun.f k bt119.1 bt119.2 bt141.1).bind fun t143 => (if t143 < 0 then (laws_FnExactGlobalMissed.j0 k l0 t113 t126 true l1_0 l1_1) else ((laws_eqIntS.f k t126 t113).bind fun t144 => (laws_FnExactGlobalMissed.j0 k l0 t113 t126 (!t144) l1_0 l1_1))))) else (some false)))) else (some false)))) else (some false))))))))))))
theorem laws_FnExactGlobalMissed.mono_l : ∀ k, (∀ y0 y1 y2 y3 y4 y5, LeO (laws_FnExactGlobalMissed.j0 k y0 y1 y2 y3 y4 y5) (laws_FnExactGlobalMissed.j0 (k + 1) y0 y1 y2 y3 y4 y5))
  | 0 => fun _ _ _ _ _ _ r h => by simp [laws_FnExactGlobalMissed.j0] at h
  | k + 1 => by
    have ih0 := laws_FnExactGlobalMissed.mono_l k
    · intro y0 y1 y2 y3 y4 y5
      unfold laws_FnExactGlobalMissed.j0
      repeat' first
      | (with_reducible exact ih0 _ _ _ _ _ _)
      | (with_reducible exact laws_eqGlobalRun.mono _ _ _ _ _)
      | (with_reducible exact laws_eqIntS.mono _ _ _)
      | (with_reducible exact laws_eqJobS.mono _ _ _)
      | (with_reducible exact laws_heldIntS.mono _ _ _)
      | (with_reducible exact laws_markGlobalRun.mono _ _ _ _)
      | (with_reducible exact laws_markIntS.mono _ _ _)
      | (with_reducible exact laws_markJobS.mono _ _ _)
      | (with_reducible exact laws_szGlobalRun.mono _ _ _ _)
      | (with_reducible exact laws_toGlobalRun.mono _ _ _)
      | (with_reducible exact laws_toJobS.mono _ _)
      | (with_reducible exact spec_GlobalMissed.mono _ _ _ _)
      | (with_reducible exact LeO.refl _)
      | (with_reducible exact LeO.none _)
      | (with_reducible refine LeO.ite ?_ ?_)
      | (with_reducible refine LeO.bind ?_ (fun _ => ?_))
      | exact ih0 _ _ _ _ _ _
      | exact laws_eqGlobalRun.mono _ _ _ _ _
      | exact laws_eqIntS.mono _ _ _
      | exact laws_eqJobS.mono _ _ _
      | exact laws_heldIntS.mono _ _ _
      | exact laws_markGlobalRun.mono _ _ _ _
      | exact laws_markIntS.mono _ _ _
      | exact laws_markJobS.mono _ _ _
      | exact laws_szGlobalRun.mono _ _ _ _
      | exact laws_toGlobalRun.mono _ _ _
      | exact laws_toJobS.mono _ _
      | exact spec_GlobalMissed.mono _ _ _ _
      | exact LeO.none _
      | refine LeO.ite ?_ ?_
      | refine LeO.bind ?_ (fun _ => ?_)
theorem laws_FnExactGlobalMissed.mono : ∀ a0 a1 a2 k, LeO (laws_FnExactGlobalMissed.f k a0 a1 a2) (laws_FnExactGlobalMissed.f (k + 1) a0 a1 a2) := by
  intro a0 a1 a2 k
  have ih0 := laws_FnExactGlobalMissed.mono_l k
  unfold laws_FnExactGlobalMissed.f
  repeat' first
      | (with_reducible exact ih0 _ _ _ _ _ _)
      | (with_reducible exact laws_eqGlobalRun.mono _ _ _ _ _)
      | (with_reducible exact laws_eqIntS.mono _ _ _)
      | (with_reducible exact laws_eqJobS.mono _ _ _)
      | (with_reducible exact laws_heldIntS.mono _ _ _)
      | (with_reducible exact laws_markGlobalRun.mono _ _ _ _)
      | (with_reducible exact laws_markIntS.mono _ _ _)
      | (with_reducible exact laws_markJobS.mono _ _ _)
      | (with_reducible exact laws_szGlobalRun.mono _ _ _ _)
      | (with_reducible exact laws_toGlobalRun.mono _ _ _)
      | (with_reducible exact laws_toJobS.mono _ _)
      | (with_reducible exact spec_GlobalMissed.mono _ _ _ _)
      | (with_reducible exact LeO.refl _)
      | (with_reducible exact LeO.none _)
      | (with_reducible refine LeO.ite ?_ ?_)
      | (with_reducible refine LeO.bind ?_ (fun _ => ?_))
      | exact ih0 _ _ _ _ _ _
      | exact laws_eqGlobalRun.mono _ _ _ _ _
      | exact laws_eqIntS.mono _ _ _
      | exact laws_eqJobS.mono _ _ _
      | exact laws_heldIntS.mono _ _ _
      | exact laws_markGlobalRun.mono _ _ _ _
      | exact laws_markIntS.mono _ _ _
      | exact laws_markJobS.mono _ _ _
      | exact laws_szGlobalRun.mono _ _ _ _
      | exact laws_toGlobalRun.mono _ _ _
      | exact laws_toJobS.mono _ _
      | exact spec_GlobalMissed.mono _ _ _ _
      | exact LeO.none _
      | refine LeO.ite ?_ ?_
      | refine LeO.bind ?_ (fun _ => ?_)
set_option maxHeartbeats 8000000 in
set_option maxRecDepth 100000 in
theorem laws_FnExactGlobalMissed.calls (k : Nat) (A0 : Option Addr) (c0 : Nat) (l0 : List (S79)) (A1_0 : Option Addr) (c1_0 : Nat) (l1_0 : List (List Int)) (A1_1 : Option Addr) (c1_1 : Nat) (l1_1 : List Int) (_r : Bool) (w : World) (hr0 : Kd.C k79 w A0 l0.length l0) (hc0 : l0.length ≤ c0) (hr1_0 : Kd.C (Kd.slice 3 (Kd.int .i64)) w A1_0 l1_0.length l1_0) (hc1_0 : l1_0.length ≤ c1_0) (hr1_1 : Kd.C (Kd.int .i64) w A1_1 l1_1.length l1_1) (hc1_1 : l1_1.length ≤ c1_1) (h : laws_FnExactGlobalMissed.f k l0 l1_0 l1_1 = some true) :
    Calls Try.prog 8 #[.slice A0 l0.length c0, .agg #[.slice A1_0 l1_0.length c1_0, .slice A1_1 l1_1.length c1_1]] w fun e w' => e = .returned (.bool true) ∧ Below w.heap.size w w' := by
  have hu62 := Try.underlying62
  have hu65 := Try.underlying65
  have HR0 := Aside0.mk hr0
  have HC0 := Aside0.mk hc0
  clear hr0 hc0
  have HR1_0 := Aside0.mk hr1_0
  have HC1_0 := Aside0.mk hc1_0
  clear hr1_0 hc1_0
  have HR1_1 := Aside0.mk hr1_1
  have HC1_1 := Aside0.mk hc1_1
  clear hr1_1 hc1_1
  have HB := Aside0.mk (Below.refl w.heap.size w)
  have H : ((laws_szJobS.f l0 1048576).bind fun t102 => (if t102 < 0 then (some true) else ((laws_szGlobalRun.f k l1_0 l1_1 t102).bind fun t103 => (if t103 < 0 then (some true) else ((laws_toJobS.f k l0).bind fun t104 => ((laws_toGlobalRun.f k l1_0 l1_1).bind fun bt107 => ((spec_GlobalMissed.f k t104 bt107.1 bt107.2).bind fun t113 => ((laws_toJobS.f k l0).bind fun t116 => ((laws_toGlobalRun.f k l1_0 l1_1).bind fun bt119 => ((impl_GlobalMissed.f t116 bt119.1 bt119.2).bind fun t126 => ((laws_eqIntS.f k t126 t113).bind fun t129 => (if t129 = true then ((laws_toJobS.f k l0).bind fun t130 => ((laws_eqJobS.f k t116 t130).bind fun t133 => (if t133 = true then ((laws_toGlobalRun.f k l1_0 l1_1).bind fun bt134 => ((laws_eqGlobalRun.f k bt119.1 bt119.2 bt134.1 bt134.2).bind fun t140 => (if t140 = true then ((laws_markJobS.f k t116 1).bind fun bt141 => ((laws_markGlobalRun.f k bt119.1 bt119.2 bt141.1).bind fun t143 => (if t143 < 0 then (laws_FnExactGlobalMissed.j0 k l0 t113 t126 true l1_0 l1_1) else ((laws_eqIntS.f k t126 t113).bind fun t144 => (laws_FnExactGlobalMissed.j0 k l0 t113 t126 (!t144) l1_0 l1_1))))) else (some false)))) else (some false)))) else (some false))))))))))))) = some true := h
  clear h
  replace H := Option.bind_eq_some_iff.mp H
  obtain ⟨t102, A30, H⟩ := H
  replace H : (if t102 < 0 then (some true) else ((laws_szGlobalRun.f k l1_0 l1_1 t102).bind fun t103 => (if t103 < 0 then (some true) else ((laws_toJobS.f k l0).bind fun t104 => ((laws_toGlobalRun.f k l1_0 l1_1).bind fun bt107 => ((spec_GlobalMissed.f k t104 bt107.1 bt107.2).bind fun t113 => ((laws_toJobS.f k l0).bind fun t116 => ((laws_toGlobalRun.f k l1_0 l1_1).bind fun bt119 => ((impl_GlobalMissed.f t116 bt119.1 bt119.2).bind fun t126 => ((laws_eqIntS.f k t126 t113).bind fun t129 => (if t129 = true then ((laws_toJobS.f k l0).bind fun t130 => ((laws_eqJobS.f k t116 t130).bind fun t133 => (if t133 = true then ((laws_toGlobalRun.f k l1_0 l1_1).bind fun bt134 => ((laws_eqGlobalRun.f k bt119.1 bt119.2 bt134.1 bt134.2).bind fun t140 => (if t140 = true then ((laws_markJobS.f k t116 1).bind fun bt141 => ((laws_markGlobalRun.f k bt119.1 bt119.2 bt141.1).bind fun t143 => (if t143 < 0 then (laws_FnExactGlobalMissed.j0 k l0 t113 t126 true l1_0 l1_1) else ((laws_eqIntS.f k t126 t113).bind fun t144 => (laws_FnExactGlobalMissed.j0 k l0 t113 t126 (!t144) l1_0 l1_1))))) else (some false)))) else (some false)))) else (some false)))))))))))) = some true := H
  have A3 := Aside0.mk A30
  clear A30
  by_cases c4 : t102 < 0
  · rw [if_pos c4] at H
    have c4b0 : decide (t102 < 0) = true := decide_eq_true c4
    clear c4
    try (obtain rfl := Option.some.inj H)
    go_enter Try.func8, Try.ntmps8
    go_wp2_with (first | ((with_reducible refine gate_dst (N := 3) rfl ?_); refine box_event ?hg (N := 3) ?hd (cs := #[.slice A1_0 l1_0.length c1_0, .slice A1_1 l1_1.length c1_1]) (t := 62) ?hr ?_; (case hd => rfl); (case hg => rfl); (case hr => first | (go_simp; done) | (go_simp; rfl)); intro gb101 hg w5 hbox hb; have n0_ := Aside0.mk (below_step (by repeat (first | (with_reducible first | exact HB.out | apply below_alloc | apply pw_below_drewN | apply below_drew1) | exact HB.out)) hb); have n1_ := Aside0.mk (hbox); have n2_ := Aside0.mk ((by rw [hg]; exact (below_size (by repeat (first | (with_reducible first | exact HB.out | apply below_alloc | apply pw_below_drewN | apply below_drew1) | exact HB.out))) : w.heap.size ≤ gb101)); have n3_ := Aside0.mk ((by rw [hg]; exact (below_size (by repeat (first | (with_reducible first | exact HB.out | apply below_alloc | apply pw_below_drewN | apply below_drew1) | exact HB.out))) : w.heap.size ≤ gb101)); clear HB; have HB := n0_; have BK101 := n1_; have GW101 := n2_; have GE101 := n3_; clear n0_ n1_ n2_ n3_; clear hb hbox hg) | ((with_reducible refine gate_callee (f := 15) rfl ?_); refine goesL_ (some 16) rfl rfl Try.func15 (by kernel_rfl) rfl #[.slice A0 l0.length c0, .int .i64 1048576] rfl (by (try simp only [List.map_toArray, List.map_cons, List.map_nil]); first | done | rfl | (simp only [List.length_drop, List.length_take]; rfl)) ?_; (with_reducible refine (laws_szJobS.calls _ _ l0 1048576 t102 _ ?side1 ?side2 A3.out).mono ?_); (case side1 => repeat (first | exact (Kd.C_below HR0.out HB.out) | (with_reducible refine Kd.C_alloc ?_ _) | (with_reducible refine Kd.C_drewN ?_ _) | (with_reducible refine Kd.C_drew ?_))); (case side2 => exact HC0.out); rintro e w' ⟨rfl, ⟨nd, rfl⟩⟩; refine ⟨_, rfl, ?_⟩))
    go_ret
    exact ⟨by first | rfl | (simp [errW_none, errW_some] <;> rfl) | (simp [*, errW_none, errW_some] <;> rfl), by repeat (first | (with_reducible first | exact HB.out | apply below_alloc | apply pw_below_drewN | apply below_drew1 | refine below_set ?_ GE101.out) | exact HB.out)⟩
  · rw [if_neg c4] at H
    have c4b0 : decide (t102 < 0) = false := decide_eq_false c4
    clear c4
    replace H := Option.bind_eq_some_iff.mp H
    obtain ⟨t103, A60, H⟩ := H
    replace H : (if t103 < 0 then (some true) else ((laws_toJobS.f k l0).bind fun t104 => ((laws_toGlobalRun.f k l1_0 l1_1).bind fun bt107 => ((spec_GlobalMissed.f k t104 bt107.1 bt107.2).bind fun t113 => ((laws_toJobS.f k l0).bind fun t116 => ((laws_toGlobalRun.f k l1_0 l1_1).bind fun bt119 => ((impl_GlobalMissed.f t116 bt119.1 bt119.2).bind fun t126 => ((laws_eqIntS.f k t126 t113).bind fun t129 => (if t129 = true then ((laws_toJobS.f k l0).bind fun t130 => ((laws_eqJobS.f k t116 t130).bind fun t133 => (if t133 = true then ((laws_toGlobalRun.f k l1_0 l1_1).bind fun bt134 => ((laws_eqGlobalRun.f k bt119.1 bt119.2 bt134.1 bt134.2).bind fun t140 => (if t140 = true then ((laws_markJobS.f k t116 1).bind fun bt141 => ((laws_markGlobalRun.f k bt119.1 bt119.2 bt141.1).bind fun t143 => (if t143 < 0 then (laws_FnExactGlobalMissed.j0 k l0 t113 t126 true l1_0 l1_1) else ((laws_eqIntS.f k t126 t113).bind fun t144 => (laws_FnExactGlobalMissed.j0 k l0 t113 t126 (!t144) l1_0 l1_1))))) else (some false)))) else (some false)))) else (some false)))))))))) = some true := H
    have A6 := Aside0.mk A60
    clear A60
    by_cases c7 : t103 < 0
    · rw [if_pos c7] at H
      have c7b0 : decide (t103 < 0) = true := decide_eq_true c7
      clear c7
      try (obtain rfl := Option.some.inj H)
      go_enter Try.func8, Try.ntmps8
      go_wp2_with (first | ((with_reducible refine gate_dst (N := 3) rfl ?_); refine box_event ?hg (N := 3) ?hd (cs := #[.slice A1_0 l1_0.length c1_0, .slice A1_1 l1_1.length c1_1]) (t := 62) ?hr ?_; (case hd => rfl); (case hg => rfl); (case hr => first | (go_simp; done) | (go_simp; rfl)); intro gb101 hg w8 hbox hb; have n0_ := Aside0.mk (below_step (by repeat (first | (with_reducible first | exact HB.out | apply below_alloc | apply pw_below_drewN | apply below_drew1) | exact HB.out)) hb); have n1_ := Aside0.mk (hbox); have n2_ := Aside0.mk ((by rw [hg]; exact (below_size (by repeat (first | (with_reducible first | exact HB.out | apply below_alloc | apply pw_below_drewN | apply below_drew1) | exact HB.out))) : w.heap.size ≤ gb101)); have n3_ := Aside0.mk ((by rw [hg]; exact (below_size (by repeat (first | (with_reducible first | exact HB.out | apply below_alloc | apply pw_below_drewN | apply below_drew1) | exact HB.out))) : w.heap.size ≤ gb101)); clear HB; have HB := n0_; have BK101 := n1_; have GW101 := n2_; have GE101 := n3_; clear n0_ n1_ n2_ n3_; clear hb hbox hg) | ((with_reducible refine gate_callee (f := 15) rfl ?_); refine goesL_ (some 16) rfl rfl Try.func15 (by kernel_rfl) rfl #[.slice A0 l0.length c0, .int .i64 1048576] rfl (by (try simp only [List.map_toArray, List.map_cons, List.map_nil]); first | done | rfl | (simp only [List.length_drop, List.length_take]; rfl)) ?_; (with_reducible refine (laws_szJobS.calls _ _ l0 1048576 t102 _ ?side1 ?side2 A3.out).mono ?_); (case side1 => repeat (first | exact (Kd.C_below HR0.out HB.out) | (with_reducible refine Kd.C_alloc ?_ _) | (with_reducible refine Kd.C_drewN ?_ _) | (with_reducible refine Kd.C_drew ?_))); (case side2 => exact HC0.out); rintro e w' ⟨rfl, ⟨nd, rfl⟩⟩; refine ⟨_, rfl, ?_⟩; have hcz9_0 : w8.cell? ⟨gb101, 0, none⟩ = some (.slice A1_0 l1_0.length c1_0) := (blk_cell BK101.out 0).trans rfl; have hcz9_1 : w8.cell? ⟨gb101, 1, none⟩ = some (.slice A1_1 l1_1.length c1_1) := (blk_cell BK101.out 1).trans rfl; have hfz9_0 := blk_frozen BK101.out 0; have hfz9_1 := blk_frozen BK101.out 1) | ((with_reducible refine gate_callee (f := 44) rfl ?_); refine goesL_ (some 21) rfl rfl Try.func44 (by kernel_rfl) rfl #[.agg #[.slice A1_0 l1_0.length c1_0, .slice A1_1 l1_1.length c1_1], .int .i64 t102] rfl (by (try simp only [List.map_toArray, List.map_cons, List.map_nil]); first | done | rfl | (simp only [List.length_drop, List.length_take]; rfl)) ?_; (with_reducible refine (laws_szGlobalRun.calls k _ _ l1_0 _ _ l1_1 t102 t103 _ ?side1 ?side2 ?side3 ?side4 A6.out).mono ?_); (case side1 => repeat (first | exact (Kd.C_below HR1_0.out (by repeat (first | (with_reducible first | exact HB.out | apply below_alloc | apply pw_below_drewN | apply below_drew1 | refine below_set ?_ GE101.out) | exact HB.out))) | (with_reducible refine Kd.C_alloc ?_ _) | (with_reducible refine Kd.C_drewN ?_ _) | (with_reducible refine Kd.C_drew ?_))); (case side2 => exact HC1_0.out); (case side3 => repeat (first | exact (Kd.C_below HR1_1.out (by repeat (first | (with_reducible first | exact HB.out | apply below_alloc | apply pw_below_drewN | apply below_drew1 | refine below_set ?_ GE101.out) | exact HB.out))) | (with_reducible refine Kd.C_alloc ?_ _) | (with_reducible refine Kd.C_drewN ?_ _) | (with_reducible refine Kd.C_drew ?_))); (case side4 => exact HC1_1.out); rintro e w10 ⟨rfl, hb⟩; refine ⟨_, rfl, ?_⟩; have n0_ := Aside0.mk (blk_below (g := gb101) (o := .cells #[.slice A1_0 l1_0.length c1_0, .slice A1_1 l1_1.length c1_1] 62 (0, 0)) (by (with_reducible repeat (first | refine blk_drewN ?_ _ | refine blk_drew ?_ | refine blk_alloc ?_ _)); exact BK101.out) hb); have n1_ := Aside0.mk (below_step (by repeat (first | (with_reducible first | exact HB.out | apply below_alloc | apply pw_below_drewN | apply below_drew1 | refine below_set ?_ GE101.out) | exact HB.out)) hb); clear BK101; clear HB; have BK101 := n0_; have HB := n1_; clear n0_ n1_; (try clear hb); (try clear hb2); (try clear hk); (try clear hi)))
      go_ret
      exact ⟨by first | rfl | (simp [errW_none, errW_some] <;> rfl) | (simp [*, errW_none, errW_some] <;> rfl), by repeat (first | (with_reducible first | exact HB.out | apply below_alloc | apply pw_below_drewN | apply below_drew1 | refine below_set ?_ GE101.out) | exact HB.out)⟩
    · rw [if_neg c7] at H
      have c7b0 : decide (t103 < 0) = false := decide_eq_false c7
      clear c7
      replace H := Option.bind_eq_some_iff.mp H
      obtain ⟨t104, A110, H⟩ := H
      replace H : ((laws_toGlobalRun.f k l1_0 l1_1).bind fun bt107 => ((spec_GlobalMissed.f k t104 bt107.1 bt107.2).bind fun t113 => ((laws_toJobS.f k l0).bind fun t116 => ((laws_toGlobalRun.f k l1_0 l1_1).bind fun bt119 => ((impl_GlobalMissed.f t116 bt119.1 bt119.2).bind fun t126 => ((laws_eqIntS.f k t126 t113).bind fun t129 => (if t129 = true then ((laws_toJobS.f k l0).bind fun t130 => ((laws_eqJobS.f k t116 t130).bind fun t133 => (if t133 = true then ((laws_toGlobalRun.f k l1_0 l1_1).bind fun bt134 => ((laws_eqGlobalRun.f k bt119.1 bt119.2 bt134.1 bt134.2).bind fun t140 => (if t140 = true then ((laws_markJobS.f k t116 1).bind fun bt141 => ((laws_markGlobalRun.f k bt119.1 bt119.2 bt141.1).bind fun t143 => (if t143 < 0 then (laws_FnExactGlobalMissed.j0 k l0 t113 t126 true l1_0 l1_1) else ((laws_eqIntS.f k t126 t113).bind fun t144 => (laws_FnExactGlobalMissed.j0 k l0 t113 t126 (!t144) l1_0 l1_1))))) else (some false)))) else (some false)))) else (some false)))))))) = some true := H
      have A11 := Aside0.mk A110
      clear A110
      replace H := Option.bind_eq_some_iff.mp H
      obtain ⟨⟨t107, t110⟩, A120, H⟩ := H
      replace H : ((spec_GlobalMissed.f k t104 t107 t110).bind fun t113 => ((laws_toJobS.f k l0).bind fun t116 => ((laws_toGlobalRun.f k l1_0 l1_1).bind fun bt119 => ((impl_GlobalMissed.f t116 bt119.1 bt119.2).bind fun t126 => ((laws_eqIntS.f k t126 t113).bind fun t129 => (if t129 = true then ((laws_toJobS.f k l0).bind fun t130 => ((laws_eqJobS.f k t116 t130).bind fun t133 => (if t133 = true then ((laws_toGlobalRun.f k l1_0 l1_1).bind fun bt134 => ((laws_eqGlobalRun.f k bt119.1 bt119.2 bt134.1 bt134.2).bind fun t140 => (if t140 = true then ((laws_markJobS.f k t116 1).bind fun bt141 => ((laws_markGlobalRun.f k bt119.1 bt119.2 bt141.1).bind fun t143 => (if t143 < 0 then (laws_FnExactGlobalMissed.j0 k l0 t113 t126 true l1_0 l1_1) else ((laws_eqIntS.f k t126 t113).bind fun t144 => (laws_FnExactGlobalMissed.j0 k l0 t113 t126 (!t144) l1_0 l1_1))))) else (some false)))) else (some false)))) else (some false))))))) = some true := H
      have A12 := Aside0.mk A120
      clear A120
      replace H := Option.bind_eq_some_iff.mp H
      obtain ⟨t113, A130, H⟩ := H
      replace H : ((laws_toJobS.f k l0).bind fun t116 => ((laws_toGlobalRun.f k l1_0 l1_1).bind fun bt119 => ((impl_GlobalMissed.f t116 bt119.1 bt119.2).bind fun t126 => ((laws_eqIntS.f k t126 t113).bind fun t129 => (if t129 = true then ((laws_toJobS.f k l0).bind fun t130 => ((laws_eqJobS.f k t116 t130).bind fun t133 => (if t133 = true then ((laws_toGlobalRun.f k l1_0 l1_1).bind fun bt134 => ((laws_eqGlobalRun.f k bt119.1 bt119.2 bt134.1 bt134.2).bind fun t140 => (if t140 = true then ((laws_markJobS.f k t116 1).bind fun bt141 => ((laws_markGlobalRun.f k bt119.1 bt119.2 bt141.1).bind fun t143 => (if t143 < 0 then (laws_FnExactGlobalMissed.j0 k l0 t113 t126 true l1_0 l1_1) else ((laws_eqIntS.f k t126 t113).bind fun t144 => (laws_FnExactGlobalMissed.j0 k l0 t113 t126 (!t144) l1_0 l1_1))))) else (some false)))) else (some false)))) else (some false)))))) = some true := H
      have A13 := Aside0.mk A130
      clear A130
      replace H := Option.bind_eq_some_iff.mp H
      obtain ⟨t116, A140, H⟩ := H
      replace H : ((laws_toGlobalRun.f k l1_0 l1_1).bind fun bt119 => ((impl_GlobalMissed.f t116 bt119.1 bt119.2).bind fun t126 => ((laws_eqIntS.f k t126 t113).bind fun t129 => (if t129 = true then ((laws_toJobS.f k l0).bind fun t130 => ((laws_eqJobS.f k t116 t130).bind fun t133 => (if t133 = true then ((laws_toGlobalRun.f k l1_0 l1_1).bind fun bt134 => ((laws_eqGlobalRun.f k bt119.1 bt119.2 bt134.1 bt134.2).bind fun t140 => (if t140 = true then ((laws_markJobS.f k t116 1).bind fun bt141 => ((laws_markGlobalRun.f k bt119.1 bt119.2 bt141.1).bind fun t143 => (if t143 < 0 then (laws_FnExactGlobalMissed.j0 k l0 t113 t126 true l1_0 l1_1) else ((laws_eqIntS.f k t126 t113).bind fun t144 => (laws_FnExactGlobalMissed.j0 k l0 t113 t126 (!t144) l1_0 l1_1))))) else (some false)))) else (some false)))) else (some false))))) = some true := H
      have A14 := Aside0.mk A140
      clear A140
      replace H := Option.bind_eq_some_iff.mp H
      obtain ⟨⟨t119, t122⟩, A150, H⟩ := H
      replace H : ((impl_GlobalMissed.f t116 t119 t122).bind fun t126 => ((laws_eqIntS.f k t126 t113).bind fun t129 => (if t129 = true then ((laws_toJobS.f k l0).bind fun t130 => ((laws_eqJobS.f k t116 t130).bind fun t133 => (if t133 = true then ((laws_toGlobalRun.f k l1_0 l1_1).bind fun bt134 => ((laws_eqGlobalRun.f k t119 t122 bt134.1 bt134.2).bind fun t140 => (if t140 = true then ((laws_markJobS.f k t116 1).bind fun bt141 => ((laws_markGlobalRun.f k t119 t122 bt141.1).bind fun t143 => (if t143 < 0 then (laws_FnExactGlobalMissed.j0 k l0 t113 t126 true l1_0 l1_1) else ((laws_eqIntS.f k t126 t113).bind fun t144 => (laws_FnExactGlobalMissed.j0 k l0 t113 t126 (!t144) l1_0 l1_1))))) else (some false)))) else (some false)))) else (some false)))) = some true := H
      have A15 := Aside0.mk A150
      clear A150
      replace H := Option.bind_eq_some_iff.mp H
      obtain ⟨t126, A160, H⟩ := H
      replace H : ((laws_eqIntS.f k t126 t113).bind fun t129 => (if t129 = true then ((laws_toJobS.f k l0).bind fun t130 => ((laws_eqJobS.f k t116 t130).bind fun t133 => (if t133 = true then ((laws_toGlobalRun.f k l1_0 l1_1).bind fun bt134 => ((laws_eqGlobalRun.f k t119 t122 bt134.1 bt134.2).bind fun t140 => (if t140 = true then ((laws_markJobS.f k t116 1).bind fun bt141 => ((laws_markGlobalRun.f k t119 t122 bt141.1).bind fun t143 => (if t143 < 0 then (laws_FnExactGlobalMissed.j0 k l0 t113 t126 true l1_0 l1_1) else ((laws_eqIntS.f k t126 t113).bind fun t144 => (laws_FnExactGlobalMissed.j0 k l0 t113 t126 (!t144) l1_0 l1_1))))) else (some false)))) else (some false)))) else (some false))) = some true := H
      have A16 := Aside0.mk A160
      clear A160
      replace H := Option.bind_eq_some_iff.mp H
      obtain ⟨t129, A170, H⟩ := H
      replace H : (if t129 = true then ((laws_toJobS.f k l0).bind fun t130 => ((laws_eqJobS.f k t116 t130).bind fun t133 => (if t133 = true then ((laws_toGlobalRun.f k l1_0 l1_1).bind fun bt134 => ((laws_eqGlobalRun.f k t119 t122 bt134.1 bt134.2).bind fun t140 => (if t140 = true then ((laws_markJobS.f k t116 1).bind fun bt141 => ((laws_markGlobalRun.f k t119 t122 bt141.1).bind fun t143 => (if t143 < 0 then (laws_FnExactGlobalMissed.j0 k l0 t113 t126 true l1_0 l1_1) else ((laws_eqIntS.f k t126 t113).bind fun t144 => (laws_FnExactGlobalMissed.j0 k l0 t113 t126 (!t144) l1_0 l1_1))))) else (some false)))) else (some false)))) else (some false)) = some true := H
      have A17 := Aside0.mk A170
      clear A170
      by_cases c18 : t129 = true
      · subst c18
        have H1 : ((laws_toJobS.f k l0).bind fun t130 => ((laws_eqJobS.f k t116 t130).bind fun t133 => (if t133 = true then ((laws_toGlobalRun.f k l1_0 l1_1).bind fun bt134 => ((laws_eqGlobalRun.f k t119 t122 bt134.1 bt134.2).bind fun t140 => (if t140 = true then ((laws_markJobS.f k t116 1).bind fun bt141 => ((laws_markGlobalRun.f k t119 t122 bt141.1).bind fun t143 => (if t143 < 0 then (laws_FnExactGlobalMissed.j0 k l0 t113 t126 true l1_0 l1_1) else ((laws_eqIntS.f k t126 t113).bind fun t144 => (laws_FnExactGlobalMissed.j0 k l0 t113 t126 (!t144) l1_0 l1_1))))) else (some false)))) else (some false)))) = some true := by rw [if_pos rfl] at H; exact H
        clear H
        have H := H1
        clear H1
        replace H := Option.bind_eq_some_iff.mp H
        obtain ⟨t130, A190, H⟩ := H
        replace H : ((laws_eqJobS.f k t116 t130).bind fun t133 => (if t133 = true then ((laws_toGlobalRun.f k l1_0 l1_1).bind fun bt134 => ((laws_eqGlobalRun.f k t119 t122 bt134.1 bt134.2).bind fun t140 => (if t140 = true then ((laws_markJobS.f k t116 1).bind fun bt141 => ((laws_markGlobalRun.f k t119 t122 bt141.1).bind fun t143 => (if t143 < 0 then (laws_FnExactGlobalMissed.j0 k l0 t113 t126 true l1_0 l1_1) else ((laws_eqIntS.f k t126 t113).bind fun t144 => (laws_FnExactGlobalMissed.j0 k l0 t113 t126 (!t144) l1_0 l1_1))))) else (some false)))) else (some false))) = some true := H
        have A19 := Aside0.mk A190
        clear A190
        replace H := Option.bind_eq_some_iff.mp H
        obtain ⟨t133, A200, H⟩ := H
        replace H : (if t133 = true then ((laws_toGlobalRun.f k l1_0 l1_1).bind fun bt134 => ((laws_eqGlobalRun.f k t119 t122 bt134.1 bt134.2).bind fun t140 => (if t140 = true then ((laws_markJobS.f k t116 1).bind fun bt141 => ((laws_markGlobalRun.f k t119 t122 bt141.1).bind fun t143 => (if t143 < 0 then (laws_FnExactGlobalMissed.j0 k l0 t113 t126 true l1_0 l1_1) else ((laws_eqIntS.f k t126 t113).bind fun t144 => (laws_FnExactGlobalMissed.j0 k l0 t113 t126 (!t144) l1_0 l1_1))))) else (some false)))) else (some false)) = some true := H
        have A20 := Aside0.mk A200
        clear A200
        by_cases c21 : t133 = true
        · subst c21
          have H1 : ((laws_toGlobalRun.f k l1_0 l1_1).bind fun bt134 => ((laws_eqGlobalRun.f k t119 t122 bt134.1 bt134.2).bind fun t140 => (if t140 = true then ((laws_markJobS.f k t116 1).bind fun bt141 => ((laws_markGlobalRun.f k t119 t122 bt141.1).bind fun t143 => (if t143 < 0 then (laws_FnExactGlobalMissed.j0 k l0 t113 t126 true l1_0 l1_1) else ((laws_eqIntS.f k t126 t113).bind fun t144 => (laws_FnExactGlobalMissed.j0 k l0 t113 t126 (!t144) l1_0 l1_1))))) else (some false)))) = some true := by rw [if_pos rfl] at H; exact H
          clear H
          have H := H1
          clear H1
          replace H := Option.bind_eq_some_iff.mp H
          obtain ⟨⟨t134, t137⟩, A220, H⟩ := H
          replace H : ((laws_eqGlobalRun.f k t119 t122 t134 t137).bind fun t140 => (if t140 = true then ((laws_markJobS.f k t116 1).bind fun bt141 => ((laws_markGlobalRun.f k t119 t122 bt141.1).bind fun t143 => (if t143 < 0 then (laws_FnExactGlobalMissed.j0 k l0 t113 t126 true l1_0 l1_1) else ((laws_eqIntS.f k t126 t113).bind fun t144 => (laws_FnExactGlobalMissed.j0 k l0 t113 t126 (!t144) l1_0 l1_1))))) else (some false))) = some true := H
          have A22 := Aside0.mk A220
          clear A220
          replace H := Option.bind_eq_some_iff.mp H
          obtain ⟨t140, A230, H⟩ := H
          replace H : (if t140 = true then ((laws_markJobS.f k t116 1).bind fun bt141 => ((laws_markGlobalRun.f k t119 t122 bt141.1).bind fun t143 => (if t143 < 0 then (laws_FnExactGlobalMissed.j0 k l0 t113 t126 true l1_0 l1_1) else ((laws_eqIntS.f k t126 t113).bind fun t144 => (laws_FnExactGlobalMissed.j0 k l0 t113 t126 (!t144) l1_0 l1_1))))) else (some false)) = some true := H
          have A23 := Aside0.mk A230
          clear A230
          by_cases c24 : t140 = true
          · subst c24
            have H1 : ((laws_markJobS.f k t116 1).bind fun bt141 => ((laws_markGlobalRun.f k t119 t122 bt141.1).bind fun t143 => (if t143 < 0 then (laws_FnExactGlobalMissed.j0 k l0 t113 t126 true l1_0 l1_1) else ((laws_eqIntS.f k t126 t113).bind fun t144 => (laws_FnExactGlobalMissed.j0 k l0 t113 t126 (!t144) l1_0 l1_1))))) = some true := by rw [if_pos rfl] at H; exact H
            clear H
            have H := H1
            clear H1
            replace H := Option.bind_eq_some_iff.mp H
            obtain ⟨⟨t141, t142⟩, A250, H⟩ := H
            replace H : ((laws_markGlobalRun.f k t119 t122 t141).bind fun t143 => (if t143 < 0 then (laws_FnExactGlobalMissed.j0 k l0 t113 t126 true l1_0 l1_1) else ((laws_eqIntS.f k t126 t113).bind fun t144 => (laws_FnExactGlobalMissed.j0 k l0 t113 t126 (!t144) l1_0 l1_1)))) = some true := H
            have A25 := Aside0.mk A250
            clear A250
            replace H := Option.bind_eq_some_iff.mp H
            obtain ⟨t143, A260, H⟩ := H
            replace H : (if t143 < 0 then (laws_FnExactGlobalMissed.j0 k l0 t113 t126 true l1_0 l1_1) else ((laws_eqIntS.f k t126 t113).bind fun t144 => (laws_FnExactGlobalMissed.j0 k l0 t113 t126 (!t144) l1_0 l1_1))) = some true := H
            have A26 := Aside0.mk A260
            clear A260
            have HC27 := Aside0.mk H
            clear H
            go_enter Try.func8, Try.ntmps8
            try go_wp2_with (first | ((with_reducible refine gate_dst (N := 3) rfl ?_); refine box_event ?hg (N := 3) ?hd (cs := #[.slice A1_0 l1_0.length c1_0, .slice A1_1 l1_1.length c1_1]) (t := 62) ?hr ?_; (case hd => rfl); (case hg => rfl); (case hr => first | (go_simp; done) | (go_simp; rfl)); intro gb101 hg w28 hbox hb; have n0_ := Aside0.mk (below_step (by repeat (first | (with_reducible first | exact HB.out | apply below_alloc | apply pw_below_drewN | apply below_drew1) | exact HB.out)) hb); have n1_ := Aside0.mk (hbox); have n2_ := Aside0.mk ((by rw [hg]; exact (below_size (by repeat (first | (with_reducible first | exact HB.out | apply below_alloc | apply pw_below_drewN | apply below_drew1) | exact HB.out))) : w.heap.size ≤ gb101)); have n3_ := Aside0.mk ((by rw [hg]; exact (below_size (by repeat (first | (with_reducible first | exact HB.out | apply below_alloc | apply pw_below_drewN | apply below_drew1) | exact HB.out))) : w.heap.size ≤ gb101)); clear HB; have HB := n0_; have BK101 := n1_; have GW101 := n2_; have GE101 := n3_; clear n0_ n1_ n2_ n3_; clear hb hbox hg) | ((with_reducible refine gate_callee (f := 15) rfl ?_); refine goesL_ (some 16) rfl rfl Try.func15 (by kernel_rfl) rfl #[.slice A0 l0.length c0, .int .i64 1048576] rfl (by (try simp only [List.map_toArray, List.map_cons, List.map_nil]); first | done | rfl | (simp only [List.length_drop, List.length_take]; rfl)) ?_; (with_reducible refine (laws_szJobS.calls _ _ l0 1048576 t102 _ ?side1 ?side2 A3.out).mono ?_); (case side1 => repeat (first | exact (Kd.C_below HR0.out HB.out) | (with_reducible refine Kd.C_alloc ?_ _) | (with_reducible refine Kd.C_drewN ?_ _) | (with_reducible refine Kd.C_drew ?_))); (case side2 => exact HC0.out); rintro e w' ⟨rfl, ⟨nd, rfl⟩⟩; refine ⟨_, rfl, ?_⟩; (try (rw [drewN_self w28]; generalize hq_ : World.drewN w28 _ = w28; have n0_ : Aside0 (w28.heap[gb101]? = some (.cells #[.slice A1_0 l1_0.length c1_0, .slice A1_1 l1_1.length c1_1] 62 (0, 0))) := ⟨by rw [← hq_]; exact (by (with_reducible repeat (first | refine blk_drewN ?_ _ | refine blk_drew ?_ | refine blk_alloc ?_ _)); exact BK101.out)⟩; have n1_ : Aside0 (Below w.heap.size w w28) := ⟨by rw [← hq_]; exact (by repeat (first | (with_reducible first | exact HB.out | apply below_alloc | apply pw_below_drewN | apply below_drew1 | refine below_set ?_ GE101.out) | exact HB.out))⟩; clear BK101 HB hq_; have BK101 := n0_; have HB := n1_; clear n0_ n1_)); have hcz29_0 : w28.cell? ⟨gb101, 0, none⟩ = some (.slice A1_0 l1_0.length c1_0) := (blk_cell BK101.out 0).trans rfl; have hcz29_1 : w28.cell? ⟨gb101, 1, none⟩ = some (.slice A1_1 l1_1.length c1_1) := (blk_cell BK101.out 1).trans rfl; have hfz29_0 := blk_frozen BK101.out 0; have hfz29_1 := blk_frozen BK101.out 1) | ((with_reducible refine gate_callee (f := 44) rfl ?_); refine goesL_ (some 21) rfl rfl Try.func44 (by kernel_rfl) rfl #[.agg #[.slice A1_0 l1_0.length c1_0, .slice A1_1 l1_1.length c1_1], .int .i64 t102] rfl (by (try simp only [List.map_toArray, List.map_cons, List.map_nil]); first | done | rfl | (simp only [List.length_drop, List.length_take]; rfl)) ?_; (with_reducible refine (laws_szGlobalRun.calls k _ _ l1_0 _ _ l1_1 t102 t103 _ ?side1 ?side2 ?side3 ?side4 A6.out).mono ?_); (case side1 => repeat (first | exact (Kd.C_below HR1_0.out HB.out) | (with_reducible refine Kd.C_alloc ?_ _) | (with_reducible refine Kd.C_drewN ?_ _) | (with_reducible refine Kd.C_drew ?_))); (case side2 => exact HC1_0.out); (case side3 => repeat (first | exact (Kd.C_below HR1_1.out HB.out) | (with_reducible refine Kd.C_alloc ?_ _) | (with_reducible refine Kd.C_drewN ?_ _) | (with_reducible refine Kd.C_drew ?_))); (case side4 => exact HC1_1.out); rintro e w30 ⟨rfl, hb⟩; refine ⟨_, rfl, ?_⟩; have n0_ := Aside0.mk (blk_below (g := gb101) (o := .cells #[.slice A1_0 l1_0.length c1_0, .slice A1_1 l1_1.length c1_1] 62 (0, 0)) (by (with_reducible repeat (first | refine blk_drewN ?_ _ | refine blk_drew ?_ | refine blk_alloc ?_ _)); exact BK101.out) hb); have n1_ := Aside0.mk (below_step (by repeat (first | (with_reducible first | exact HB.out | apply below_alloc | apply pw_below_drewN | apply below_drew1 | refine below_set ?_ GE101.out) | exact HB.out)) hb); clear BK101; clear HB; have BK101 := n0_; have HB := n1_; clear n0_ n1_; (try clear hb); (try clear hb2); (try clear hk); (try clear hi)))
            have n0_ := Aside0.mk (blk_drew BK101.out)
            have n1_ := Aside0.mk (below_drew1 HB.out)
            clear BK101
            clear HB
            have BK101 := n0_
            have HB := n1_
            clear n0_ n1_
            refine start_ (n := 6) (S := fun w' => w'.cell? ⟨gb101, 0, none⟩ = some (.slice A1_0 l1_0.length c1_0) ∧ w'.cell? ⟨gb101, 1, none⟩ = some (.slice A1_1 l1_1.length c1_1)) (ds := []) #[false, false, false, false, false, false] (by kernel_rfl) rfl rfl ⟨(blk_cell BK101.out 0).trans rfl, (blk_cell BK101.out 1).trans rfl⟩ (fun hHeld => ?_)
            generalize w30.drew = w31 at BK101 HB hHeld ⊢
            refine pure_ (i := 0) (N := some 24) (v := ?_) (a' := ?_) #[true, false, false, false, false, false] rfl rfl (by kernel_rfl) (fun _ _ _ h => h) (Or.inl ⟨by rfl, ?_⟩) ?_ ?_
            rotate_left
            · intro w'
              go_simp
              with_reducible rfl
            rotate_left
            · simp only [Act.put, List.setIfInBounds_toArray, List.set_cons_zero, List.set_cons_succ, i64_w, i32_w]
              rfl
            refine take_ (i := 2) (N := some 26) (v := ?_) (a' := ?_) #[true, false, true, false, false, false] rfl rfl (by kernel_rfl) (fun _ _ _ h => h) (Or.inl ⟨by rfl, ?_⟩) hHeld ?_ ?_
            rotate_left
            · rintro w' ⟨s0, s1⟩
              go_simp
              with_reducible rfl
            rotate_left
            · simp only [Act.put, List.setIfInBounds_toArray, List.set_cons_zero, List.set_cons_succ, i64_w, i32_w]
              rfl
            refine one_ (i := 1) (N := some 25) #[true, true, true, false, false, false] rfl rfl (by kernel_rfl) (by decide) (fun K hK => ?_)
            refine goes_ Try.func18 (by kernel_rfl) rfl #[.slice A0 l0.length c0] (by rfl) rfl rfl (by (try simp only [List.map_toArray, List.map_cons, List.map_nil]); first | done | rfl | (simp only [List.length_drop, List.length_take]; rfl)) ?_
            with_reducible refine (laws_toJobS.callsRR k _ _ l0 t104 _ ?side1 ?side2 A11.out).mono ?_
            (case side1 => repeat (first | exact (Kd.C_below HR0.out HB.out) | (with_reducible refine Kd.C_alloc ?_ _) | (with_reducible refine Kd.C_drewN ?_ _) | (with_reducible refine Kd.C_drew ?_)))
            (case side2 => exact HC0.out)
            rintro e w32 ⟨v105, rfl, ho0, hb⟩
            refine ⟨_, rfl, ?_⟩
            have n0_ := Aside0.mk (Kd.RR_lower ho0 (below_size (by repeat (first | (with_reducible first | exact HB.out | apply below_alloc | apply pw_below_drewN | apply below_drew1 | refine below_set ?_ GE101.out) | exact HB.out))))
            have n1_ := Aside0.mk (blk_below (g := gb101) (o := .cells #[.slice A1_0 l1_0.length c1_0, .slice A1_1 l1_1.length c1_1] 62 (0, 0)) (by (with_reducible repeat (first | refine blk_drewN ?_ _ | refine blk_drew ?_ | refine blk_alloc ?_ _)); exact BK101.out) hb)
            have n2_ := Aside0.mk (below_step (by repeat (first | (with_reducible first | exact HB.out | apply below_alloc | apply pw_below_drewN | apply below_drew1 | refine below_set ?_ GE101.out) | exact HB.out)) hb)
            clear BK101
            clear HB
            have HO106 := n0_
            have BK101 := n1_
            have HB := n2_
            clear n0_ n1_ n2_
            (try clear hb)
            (try clear hb2)
            (try clear hk)
            (try clear hi)
            (try clear ho0)
            refine hK.out _ _ ⟨(blk_cell BK101.out 0).trans rfl, (blk_cell BK101.out 1).trans rfl⟩ (fun hHeld => ?_)
            clear hK K
            refine norm_ (a' := ?_) ?_ ?_
            rotate_left
            · show Act.put _ (some 25) _ = _
              simp only [Act.put, List.setIfInBounds_toArray, List.set_cons_zero, List.set_cons_succ, i64_w, i32_w]
              rfl
            refine one_ (i := 3) (N := some 27) #[true, true, true, true, false, false] rfl rfl (by kernel_rfl) (by decide) (fun K hK => ?_)
            refine goes_ Try.func46 (by kernel_rfl) rfl #[.agg #[.slice A1_0 l1_0.length c1_0, .slice A1_1 l1_1.length c1_1]] (by rfl) rfl rfl (by (try simp only [List.map_toArray, List.map_cons, List.map_nil]); first | done | rfl | (simp only [List.length_drop, List.length_take]; rfl)) ?_
            with_reducible refine (laws_toGlobalRun.callsRR k _ _ l1_0 _ _ l1_1 t107 t110 _ ?side1 ?side2 ?side3 ?side4 A12.out).mono ?_
            (case side1 => repeat (first | exact (Kd.C_below HR1_0.out HB.out) | (with_reducible refine Kd.C_alloc ?_ _) | (with_reducible refine Kd.C_drewN ?_ _) | (with_reducible refine Kd.C_drew ?_)))
            (case side2 => exact HC1_0.out)
            (case side3 => repeat (first | exact (Kd.C_below HR1_1.out HB.out) | (with_reducible refine Kd.C_alloc ?_ _) | (with_reducible refine Kd.C_drewN ?_ _) | (with_reducible refine Kd.C_drew ?_)))
            (case side4 => exact HC1_1.out)
            rintro e w33 ⟨v108, v111, rfl, ho0, ho1, hb⟩
            refine ⟨_, rfl, ?_⟩
            have n0_ := Aside0.mk (Kd.RR_below (by (with_reducible repeat (first | apply Kd.RR_alloc | apply Kd.RR_drewN | apply Kd.RR_drew)); exact HO106.out) hb)
            have n1_ := Aside0.mk (Kd.S_lower ho0 (below_size (by repeat (first | (with_reducible first | exact HB.out | apply below_alloc | apply pw_below_drewN | apply below_drew1 | refine below_set ?_ GE101.out) | exact HB.out))))
            have n2_ := Aside0.mk (Kd.RR_lower ho1 (below_size (by repeat (first | (with_reducible first | exact HB.out | apply below_alloc | apply pw_below_drewN | apply below_drew1 | refine below_set ?_ GE101.out) | exact HB.out))))
            have n3_ := Aside0.mk (blk_below (g := gb101) (o := .cells #[.slice A1_0 l1_0.length c1_0, .slice A1_1 l1_1.length c1_1] 62 (0, 0)) (by (with_reducible repeat (first | refine blk_drewN ?_ _ | refine blk_drew ?_ | refine blk_alloc ?_ _)); exact BK101.out) hb)
            have n4_ := Aside0.mk (below_step (by repeat (first | (with_reducible first | exact HB.out | apply below_alloc | apply pw_below_drewN | apply below_drew1 | refine below_set ?_ GE101.out) | exact HB.out)) hb)
            clear HO106
            clear BK101
            clear HB
            have HO106 := n0_
            have HO109 := n1_
            have HO112 := n2_
            have BK101 := n3_
            have HB := n4_
            clear n0_ n1_ n2_ n3_ n4_
            (try clear hb)
            (try clear hb2)
            (try clear hk)
            (try clear hi)
            (try clear ho0)
            (try clear ho1)
            obtain ⟨Ao34, co34, eo34⟩ := Kd.RR_slice HO106.out
            (first | subst eo34 | (injection eo34 with f1_ f2_ f3_; have f4_ := f1_.symm; have f5_ := f3_.symm; clear f1_ f2_ f3_; subst f4_; subst f5_))
            obtain ⟨Ao35, co35, eo35⟩ := Kd.S_slice HO109.out
            (first | subst eo35 | (injection eo35 with f1_ f2_ f3_; have f4_ := f1_.symm; have f5_ := f3_.symm; clear f1_ f2_ f3_; subst f4_; subst f5_))
            obtain ⟨Ao36, co36, eo36⟩ := Kd.RR_slice HO112.out
            (first | subst eo36 | (injection eo36 with f1_ f2_ f3_; have f4_ := f1_.symm; have f5_ := f3_.symm; clear f1_ f2_ f3_; subst f4_; subst f5_))
            refine hK.out _ _ ⟨(blk_cell BK101.out 0).trans rfl, (blk_cell BK101.out 1).trans rfl⟩ (fun hHeld => ?_)
            clear hK K
            refine norm_ (a' := ?_) ?_ ?_
            rotate_left
            · show Act.put _ (some 27) _ = _
              simp only [Act.put, List.setIfInBounds_toArray, List.set_cons_zero, List.set_cons_succ, i64_w, i32_w]
              rfl
            refine one_ (i := 4) (N := some 28) #[true, true, true, true, true, false] rfl rfl (by kernel_rfl) (by decide) (fun K hK => ?_)
            refine goes_ Try.func45 (by kernel_rfl) rfl #[.slice Ao34 t104.length co34, .agg #[.slice Ao35 t107.length co35, .slice Ao36 t110.length co36]] (by rfl) rfl rfl (by (try simp only [List.map_toArray, List.map_cons, List.map_nil]); first | done | rfl | (simp only [List.length_drop, List.length_take]; rfl)) ?_
            with_reducible refine (spec_GlobalMissed.callsRR k _ _ t104 _ _ t107 _ _ t110 t113 _ ?side1 ?side2 ?side3 ?side4 ?side5 ?side6 A13.out).mono ?_
            (case side1 => repeat (first | exact (Kd.RR_reads' HO106.out).2.2 | (with_reducible refine Kd.C_alloc ?_ _) | (with_reducible refine Kd.C_drewN ?_ _) | (with_reducible refine Kd.C_drew ?_)))
            (case side2 => exact (Kd.RR_reads' HO106.out).2.1)
            (case side3 => repeat (first | exact (Kd.S_reads' HO109.out).2.2 | (with_reducible refine Kd.C_alloc ?_ _) | (with_reducible refine Kd.C_drewN ?_ _) | (with_reducible refine Kd.C_drew ?_)))
            (case side4 => exact (Kd.S_reads' HO109.out).2.1)
            (case side5 => repeat (first | exact (Kd.RR_reads' HO112.out).2.2 | (with_reducible refine Kd.C_alloc ?_ _) | (with_reducible refine Kd.C_drewN ?_ _) | (with_reducible refine Kd.C_drew ?_)))
            (case side6 => exact (Kd.RR_reads' HO112.out).2.1)
            rintro e w37 ⟨v114, rfl, ho0, hb⟩
            refine ⟨_, rfl, ?_⟩
            have n0_ := Aside0.mk (Kd.RR_below (by (with_reducible repeat (first | apply Kd.RR_alloc | apply Kd.RR_drewN | apply Kd.RR_drew)); exact HO106.out) hb)
            have n1_ := Aside0.mk (Kd.S_elder' (by (with_reducible repeat (first | apply Kd.S_alloc | apply Kd.S_drewN | apply Kd.S_drew)); exact HO109.out) (Kd.RR_base ho0) hb)
            have n2_ := Aside0.mk (Kd.RR_elder' (by (with_reducible repeat (first | apply Kd.RR_alloc | apply Kd.RR_drewN | apply Kd.RR_drew)); exact HO112.out) (Kd.RR_base ho0) hb)
            have n3_ := Aside0.mk (Kd.RR_lower (Kd.RR_new' ho0 (Kd.RR_lt (by (with_reducible repeat (first | apply Kd.RR_alloc | apply Kd.RR_drewN | apply Kd.RR_drew)); exact HO112.out))) (below_size (by repeat (first | (with_reducible first | exact HB.out | apply below_alloc | apply pw_below_drewN | apply below_drew1 | refine below_set ?_ GE101.out) | exact HB.out))))
            have n4_ := Aside0.mk (blk_below (g := gb101) (o := .cells #[.slice A1_0 l1_0.length c1_0, .slice A1_1 l1_1.length c1_1] 62 (0, 0)) (by (with_reducible repeat (first | refine blk_drewN ?_ _ | refine blk_drew ?_ | refine blk_alloc ?_ _)); exact BK101.out) hb)
            have n5_ := Aside0.mk (below_step (by repeat (first | (with_reducible first | exact HB.out | apply below_alloc | apply pw_below_drewN | apply below_drew1 | refine below_set ?_ GE101.out) | exact HB.out)) hb)
            clear HO106
            clear HO109
            clear HO112
            clear BK101
            clear HB
            have HO106 := n0_
            have HO109 := n1_
            have HO112 := n2_
            have HO115 := n3_
            have BK101 := n4_
            have HB := n5_
            clear n0_ n1_ n2_ n3_ n4_ n5_
            (try clear hb)
            (try clear hb2)
            (try clear hk)
            (try clear hi)
            (try clear ho0)
            refine hK.out _ _ ⟨(blk_cell BK101.out 0).trans rfl, (blk_cell BK101.out 1).trans rfl⟩ (fun hHeld => ?_)
            clear hK K
            refine norm_ (a' := ?_) ?_ ?_
            rotate_left
            · show Act.put _ (some 28) _ = _
              simp only [Act.put, List.setIfInBounds_toArray, List.set_cons_zero, List.set_cons_succ, i64_w, i32_w]
              rfl
            refine pure_ (i := 5) (N := some 6) (v := ?_) (a' := ?_) #[true, true, true, true, true, true] rfl rfl (by kernel_rfl) (fun _ _ _ h => h) (Or.inl ⟨by rfl, ?_⟩) ?_ ?_
            rotate_left
            · intro w'
              go_simp
              with_reducible rfl
            rotate_left
            · simp only [Act.put, List.setIfInBounds_toArray, List.set_cons_zero, List.set_cons_succ, i64_w, i32_w]
              rfl
            refine done_ (by kernel_rfl) ?_
            try go_wp2_with (first | ((with_reducible refine gate_callee (f := 18) rfl ?_); refine goesL_ (some 30) rfl rfl Try.func18 (by kernel_rfl) rfl #[.slice A0 l0.length c0] rfl (by (try simp only [List.map_toArray, List.map_cons, List.map_nil]); first | done | rfl | (simp only [List.length_drop, List.length_take]; rfl)) ?_; (with_reducible refine (laws_toJobS.callsRR k _ _ l0 t116 _ ?side1 ?side2 A14.out).mono ?_); (case side1 => repeat (first | exact (Kd.C_below HR0.out HB.out) | (with_reducible refine Kd.C_alloc ?_ _) | (with_reducible refine Kd.C_drewN ?_ _) | (with_reducible refine Kd.C_drew ?_))); (case side2 => exact HC0.out); rintro e w38 ⟨v117, rfl, ho0, hb⟩; refine ⟨_, rfl, ?_⟩; have n0_ := Aside0.mk (Kd.RR_elder' (by (with_reducible repeat (first | apply Kd.RR_alloc | apply Kd.RR_drewN | apply Kd.RR_drew)); exact HO106.out) (Kd.RR_base ho0) hb); have n1_ := Aside0.mk (Kd.S_below (by (with_reducible repeat (first | apply Kd.S_alloc | apply Kd.S_drewN | apply Kd.S_drew)); exact HO109.out) hb); have n2_ := Aside0.mk (Kd.RR_below (by (with_reducible repeat (first | apply Kd.RR_alloc | apply Kd.RR_drewN | apply Kd.RR_drew)); exact HO112.out) hb); have n3_ := Aside0.mk (Kd.RR_below (by (with_reducible repeat (first | apply Kd.RR_alloc | apply Kd.RR_drewN | apply Kd.RR_drew)); exact HO115.out) hb); have n4_ := Aside0.mk (Kd.RR_lower (Kd.RR_new' ho0 (Kd.RR_lt (by (with_reducible repeat (first | apply Kd.RR_alloc | apply Kd.RR_drewN | apply Kd.RR_drew)); exact HO106.out))) (below_size (by repeat (first | (with_reducible first | exact HB.out | apply below_alloc | apply pw_below_drewN | apply below_drew1 | refine below_set ?_ GE101.out) | exact HB.out)))); have n5_ := Aside0.mk (blk_below (g := gb101) (o := .cells #[.slice A1_0 l1_0.length c1_0, .slice A1_1 l1_1.length c1_1] 62 (0, 0)) (by (with_reducible repeat (first | refine blk_drewN ?_ _ | refine blk_drew ?_ | refine blk_alloc ?_ _)); exact BK101.out) hb); have n6_ := Aside0.mk (below_step (by repeat (first | (with_reducible first | exact HB.out | apply below_alloc | apply pw_below_drewN | apply below_drew1 | refine below_set ?_ GE101.out) | exact HB.out)) hb); clear HO106; clear HO109; clear HO112; clear HO115; clear BK101; clear HB; have HO106 := n0_; have HO109 := n1_; have HO112 := n2_; have HO115 := n3_; have HO118 := n4_; have BK101 := n5_; have HB := n6_; clear n0_ n1_ n2_ n3_ n4_ n5_ n6_; (try clear hb); (try clear hb2); (try clear hk); (try clear hi); (try clear ho0); have hcz39_0 : w38.cell? ⟨gb101, 0, none⟩ = some (.slice A1_0 l1_0.length c1_0) := (blk_cell BK101.out 0).trans rfl; have hcz39_1 : w38.cell? ⟨gb101, 1, none⟩ = some (.slice A1_1 l1_1.length c1_1) := (blk_cell BK101.out 1).trans rfl; have hfz39_0 := blk_frozen BK101.out 0; have hfz39_1 := blk_frozen BK101.out 1) | ((with_reducible refine gate_callee (f := 46) rfl ?_); refine goesL_ (some 32) rfl rfl Try.func46 (by kernel_rfl) rfl #[.agg #[.slice A1_0 l1_0.length c1_0, .slice A1_1 l1_1.length c1_1]] rfl (by (try simp only [List.map_toArray, List.map_cons, List.map_nil]); first | done | rfl | (simp only [List.length_drop, List.length_take]; rfl)) ?_; (with_reducible refine (laws_toGlobalRun.callsRR k _ _ l1_0 _ _ l1_1 t119 t122 _ ?side1 ?side2 ?side3 ?side4 A15.out).mono ?_); (case side1 => repeat (first | exact (Kd.C_below HR1_0.out HB.out) | (with_reducible refine Kd.C_alloc ?_ _) | (with_reducible refine Kd.C_drewN ?_ _) | (with_reducible refine Kd.C_drew ?_))); (case side2 => exact HC1_0.out); (case side3 => repeat (first | exact (Kd.C_below HR1_1.out HB.out) | (with_reducible refine Kd.C_alloc ?_ _) | (with_reducible refine Kd.C_drewN ?_ _) | (with_reducible refine Kd.C_drew ?_))); (case side4 => exact HC1_1.out); rintro e w40 ⟨v120, v123, rfl, ho0, ho1, hb⟩; refine ⟨_, rfl, ?_⟩; have n0_ := Aside0.mk (Kd.RR_below (by (with_reducible repeat (first | apply Kd.RR_alloc | apply Kd.RR_drewN | apply Kd.RR_drew)); exact HO106.out) hb); have n1_ := Aside0.mk (Kd.S_mono (Kd.S_told (Kd.S_told (Kd.S_old (by (with_reducible repeat (first | apply Kd.S_alloc | apply Kd.S_drewN | apply Kd.S_drew)); exact HO109.out) hb) (Kd.S_base ho0)) (Kd.RR_base ho1)) (fun _ h_ => h_.1)); have n2_ := Aside0.mk (Kd.RR_elder' (by (with_reducible repeat (first | apply Kd.RR_alloc | apply Kd.RR_drewN | apply Kd.RR_drew)); exact HO112.out) (Kd.RR_base ho1) hb); have n3_ := Aside0.mk (Kd.RR_elder' (by (with_reducible repeat (first | apply Kd.RR_alloc | apply Kd.RR_drewN | apply Kd.RR_drew)); exact HO115.out) (Kd.RR_base ho1) hb); have n4_ := Aside0.mk (Kd.RR_below (by (with_reducible repeat (first | apply Kd.RR_alloc | apply Kd.RR_drewN | apply Kd.RR_drew)); exact HO118.out) hb); have n5_ := Aside0.mk (Kd.S_lower (Kd.S_new' (Kd.S_new' (Kd.S_new' ho0 (Kd.S_lt (by (with_reducible repeat (first | apply Kd.S_alloc | apply Kd.S_drewN | apply Kd.S_drew)); exact HO109.out))) (Kd.RR_lt (by (with_reducible repeat (first | apply Kd.RR_alloc | apply Kd.RR_drewN | apply Kd.RR_drew)); exact HO112.out))) (Kd.RR_lt (by (with_reducible repeat (first | apply Kd.RR_alloc | apply Kd.RR_drewN | apply Kd.RR_drew)); exact HO115.out))) (below_size (by repeat (first | (with_reducible first | exact HB.out | apply below_alloc | apply pw_below_drewN | apply below_drew1 | refine below_set ?_ GE101.out) | exact HB.out)))); have n6_ := Aside0.mk (Kd.RR_lower (Kd.RR_new' (Kd.RR_new' ho1 (Kd.RR_lt (by (with_reducible repeat (first | apply Kd.RR_alloc | apply Kd.RR_drewN | apply Kd.RR_drew)); exact HO112.out))) (Kd.RR_lt (by (with_reducible repeat (first | apply Kd.RR_alloc | apply Kd.RR_drewN | apply Kd.RR_drew)); exact HO115.out))) (below_size (by repeat (first | (with_reducible first | exact HB.out | apply below_alloc | apply pw_below_drewN | apply below_drew1 | refine below_set ?_ GE101.out) | exact HB.out)))); have n7_ := Aside0.mk (blk_below (g := gb101) (o := .cells #[.slice A1_0 l1_0.length c1_0, .slice A1_1 l1_1.length c1_1] 62 (0, 0)) (by (with_reducible repeat (first | refine blk_drewN ?_ _ | refine blk_drew ?_ | refine blk_alloc ?_ _)); exact BK101.out) hb); have n8_ := Aside0.mk (below_step (by repeat (first | (with_reducible first | exact HB.out | apply below_alloc | apply pw_below_drewN | apply below_drew1 | refine below_set ?_ GE101.out) | exact HB.out)) hb); clear HO106; clear HO109; clear HO112; clear HO115; clear HO118; clear BK101; clear HB; have HO106 := n0_; have HO109 := n1_; have HO112 := n2_; have HO115 := n3_; have HO118 := n4_; have HO121 := n5_; have HO124 := n6_; have BK101 := n7_; have HB := n8_; clear n0_ n1_ n2_ n3_ n4_ n5_ n6_ n7_ n8_; (try clear hb); (try clear hb2); (try clear hk); (try clear hi); (try clear ho0); (try clear ho1)) | ((with_reducible refine gate_dst (N := 8) rfl ?_); refine box_event ?hg (N := 8) ?hd (cs := #[.slice none 0 0, .slice none 0 0]) (t := 65) ?hr ?_; (case hd => rfl); (case hg => rfl); (case hr => first | (go_simp; done) | (go_simp; rfl)); intro gb125 hg w41 hbox hb; have n0_ := Aside0.mk (Kd.RR_below (by (with_reducible repeat (first | apply Kd.RR_alloc | apply Kd.RR_drewN | apply Kd.RR_drew)); exact HO106.out) hb); have n1_ := Aside0.mk (Kd.S_below (by (with_reducible repeat (first | apply Kd.S_alloc | apply Kd.S_drewN | apply Kd.S_drew)); exact HO109.out) hb); have n2_ := Aside0.mk (Kd.RR_below (by (with_reducible repeat (first | apply Kd.RR_alloc | apply Kd.RR_drewN | apply Kd.RR_drew)); exact HO112.out) hb); have n3_ := Aside0.mk (Kd.RR_below (by (with_reducible repeat (first | apply Kd.RR_alloc | apply Kd.RR_drewN | apply Kd.RR_drew)); exact HO115.out) hb); have n4_ := Aside0.mk (Kd.RR_below (by (with_reducible repeat (first | apply Kd.RR_alloc | apply Kd.RR_drewN | apply Kd.RR_drew)); exact HO118.out) hb); have n5_ := Aside0.mk (Kd.S_below (by (with_reducible repeat (first | apply Kd.S_alloc | apply Kd.S_drewN | apply Kd.S_drew)); exact HO121.out) hb); have n6_ := Aside0.mk (Kd.RR_below (by (with_reducible repeat (first | apply Kd.RR_alloc | apply Kd.RR_drewN | apply Kd.RR_drew)); exact HO124.out) hb); have n7_ := Aside0.mk (blk_below (g := gb101) (o := .cells #[.slice A1_0 l1_0.length c1_0, .slice A1_1 l1_1.length c1_1] 62 (0, 0)) (by (with_reducible repeat (first | refine blk_drewN ?_ _ | refine blk_drew ?_ | refine blk_alloc ?_ _)); exact BK101.out) hb); have n8_ := Aside0.mk (below_step (by repeat (first | (with_reducible first | exact HB.out | apply below_alloc | apply pw_below_drewN | apply below_drew1 | refine below_set ?_ GE101.out) | exact HB.out)) hb); have n9_ := Aside0.mk (hbox); have n10_ := Aside0.mk ((by rw [hg]; exact (below_size (by repeat (first | (with_reducible first | exact HB.out | apply below_alloc | apply pw_below_drewN | apply below_drew1 | refine below_set ?_ GE101.out) | exact HB.out))) : w.heap.size ≤ gb125)); have n11_ := Aside0.mk ((by rw [hg]; exact (below_size (by repeat (first | (with_reducible first | exact HB.out | apply below_alloc | apply pw_below_drewN | apply below_drew1 | refine below_set ?_ GE101.out) | exact HB.out))) : w.heap.size ≤ gb125)); have n12_ := Aside0.mk ((by rw [hg]; exact Nat.ne_of_lt (blk_lt (g := gb101) (o := .cells #[.slice A1_0 l1_0.length c1_0, .slice A1_1 l1_1.length c1_1] 62 (0, 0)) (by (with_reducible repeat (first | refine blk_drewN ?_ _ | refine blk_drew ?_ | refine blk_alloc ?_ _)); exact BK101.out)) : gb101 ≠ gb125)); have n13_ := Aside0.mk ((by rw [hg]; exact Nat.ne_of_gt (blk_lt (g := gb101) (o := .cells #[.slice A1_0 l1_0.length c1_0, .slice A1_1 l1_1.length c1_1] 62 (0, 0)) (by (with_reducible repeat (first | refine blk_drewN ?_ _ | refine blk_drew ?_ | refine blk_alloc ?_ _)); exact BK101.out)) : gb125 ≠ gb101)); clear HO106; clear HO109; clear HO112; clear HO115; clear HO118; clear HO121; clear HO124; clear BK101; clear HB; have HO106 := n0_; have HO109 := n1_; have HO112 := n2_; have HO115 := n3_; have HO118 := n4_; have HO121 := n5_; have HO124 := n6_; have BK101 := n7_; have HB := n8_; have BK125 := n9_; have GW125 := n10_; have GE125 := n11_; have NB101_125 := n12_; have NB125_101 := n13_; clear n0_ n1_ n2_ n3_ n4_ n5_ n6_ n7_ n8_ n9_ n10_ n11_ n12_ n13_; clear hb hbox hg; obtain ⟨Ao42, co42, eo42⟩ := Kd.S_slice HO121.out; subst eo42; have hnb43 := NB125_101.out; have hnc43 := NB101_125.out; have hcz44_0 : w41.cell? ⟨gb125, 0, none⟩ = some (.slice none 0 0) := (blk_cell BK125.out 0).trans rfl; have hcz44_1 : w41.cell? ⟨gb125, 1, none⟩ = some (.slice none 0 0) := (blk_cell BK125.out 1).trans rfl; have hfz44_0 := blk_frozen BK125.out 0; have hfz44_1 := blk_frozen BK125.out 1; obtain ⟨Ao45, co45, eo45⟩ := Kd.RR_slice HO124.out; subst eo45; obtain ⟨Ao46, co46, eo46⟩ := Kd.RR_slice HO118.out; subst eo46) | ((with_reducible refine gate_callee (f := 47) rfl ?_); refine goesL_ (some 35) rfl rfl Try.func47 (by kernel_rfl) rfl #[.slice Ao46 t116.length co46, .agg #[.slice Ao42 t119.length co42, .slice Ao45 t122.length co45]] rfl (by (try simp only [List.map_toArray, List.map_cons, List.map_nil]); first | done | rfl | (simp only [List.length_drop, List.length_take]; rfl)) ?_; (with_reducible refine (impl_GlobalMissed.calls _ _ t116 _ _ t119 _ _ t122 t126 _ ?side1 ?side2 ?side3 ?side4 ?side5 ?side6 A16.out).mono ?_); (case side1 => refine (Kd.RR_reads' (e := 77) (base := w.heap.size) (ok := fun k_ => (True ∧ some k_ ≠ (.slice Ao34 t104.length co34 : Value).ownBlock)) (n := t116.length) (c := co46) ?_).2.2; exact (by (with_reducible repeat (first | apply Kd.RR_alloc | apply Kd.RR_drewN | apply Kd.RR_drew)); exact (Kd.RR_mono (Kd.RR_far (p := ⟨gb125, 1, none⟩) (Kd.RR_far (p := ⟨gb125, 0, none⟩) (Kd.RR_types HO118.out BK125.out (by decide)) (fun _ hk => hk.2) (.slice Ao42 t119.length co42)) (fun _ hk => hk.2) (.slice Ao45 t122.length co45)) (fun _ h_ => h_.1)))); (case side2 => exact (Kd.RR_reads' HO118.out).2.1); (case side3 => refine (Kd.S_reads' (e := 23) (base := w.heap.size) (ok := fun k_ => (((some k_ ≠ (.slice Ao45 t122.length co45 : Value).ownBlock ∧ some k_ ≠ (.slice Ao35 t107.length co35 : Value).ownBlock) ∧ some k_ ≠ (.slice Ao36 t110.length co36 : Value).ownBlock) ∧ some k_ ≠ (v114 : Value).ownBlock)) (n := t119.length) (c := co42) ?_).2.2; exact (by (with_reducible repeat (first | apply Kd.S_alloc | apply Kd.S_drewN | apply Kd.S_drew)); exact (Kd.S_mono (Kd.S_far (p := ⟨gb125, 1, none⟩) (Kd.S_far (p := ⟨gb125, 0, none⟩) (Kd.S_types HO121.out BK125.out (by decide)) (fun _ hk => hk.2) (.slice Ao42 t119.length co42)) (fun _ hk => hk.2) (.slice Ao45 t122.length co45)) (fun _ h_ => h_.1)))); (case side4 => exact (Kd.S_reads' HO121.out).2.1); (case side5 => refine (Kd.RR_reads' (e := 3) (base := w.heap.size) (ok := fun k_ => ((True ∧ some k_ ≠ (.slice Ao36 t110.length co36 : Value).ownBlock) ∧ some k_ ≠ (v114 : Value).ownBlock)) (n := t122.length) (c := co45) ?_).2.2; exact (by (with_reducible repeat (first | apply Kd.RR_alloc | apply Kd.RR_drewN | apply Kd.RR_drew)); exact (Kd.RR_mono (Kd.RR_far (p := ⟨gb125, 1, none⟩) (Kd.RR_far (p := ⟨gb125, 0, none⟩) (Kd.RR_types HO124.out BK125.out (by decide)) (fun _ hk => hk.2) (.slice Ao42 t119.length co42)) (fun _ hk => hk.2) (.slice Ao45 t122.length co45)) (fun _ h_ => h_.1)))); (case side6 => exact (Kd.RR_reads' HO124.out).2.1); rintro e w47 ⟨v127, rfl, ho0, hb⟩; refine ⟨_, rfl, ?_⟩; have n0_ := Aside0.mk (Kd.RR_below (by (with_reducible repeat (first | apply Kd.RR_alloc | apply Kd.RR_drewN | apply Kd.RR_drew)); exact (Kd.RR_mono (Kd.RR_far (p := ⟨gb125, 1, none⟩) (Kd.RR_far (p := ⟨gb125, 0, none⟩) (Kd.RR_types HO106.out BK125.out (by decide)) (fun _ hk => hk.2) (.slice Ao42 t119.length co42)) (fun _ hk => hk.2) (.slice Ao45 t122.length co45)) (fun _ h_ => h_.1))) hb); have n1_ := Aside0.mk (Kd.S_elder' (by (with_reducible repeat (first | apply Kd.S_alloc | apply Kd.S_drewN | apply Kd.S_drew)); exact (Kd.S_mono (Kd.S_far (p := ⟨gb125, 1, none⟩) (Kd.S_far (p := ⟨gb125, 0, none⟩) (Kd.S_types HO109.out BK125.out (by decide)) (fun _ hk => hk.2) (.slice Ao42 t119.length co42)) (fun _ hk => hk.2) (.slice Ao45 t122.length co45)) (fun _ h_ => h_.1))) (Kd.RR_base ho0) hb); have n2_ := Aside0.mk (Kd.RR_elder' (by (with_reducible repeat (first | apply Kd.RR_alloc | apply Kd.RR_drewN | apply Kd.RR_drew)); exact (Kd.RR_mono (Kd.RR_far (p := ⟨gb125, 1, none⟩) (Kd.RR_far (p := ⟨gb125, 0, none⟩) (Kd.RR_types HO112.out BK125.out (by decide)) (fun _ hk => hk.2) (.slice Ao42 t119.length co42)) (fun _ hk => hk.2) (.slice Ao45 t122.length co45)) (fun _ h_ => h_.1))) (Kd.RR_base ho0) hb); have n3_ := Aside0.mk (Kd.RR_elder' (by (with_reducible repeat (first | apply Kd.RR_alloc | apply Kd.RR_drewN | apply Kd.RR_drew)); exact (Kd.RR_mono (Kd.RR_far (p := ⟨gb125, 1, none⟩) (Kd.RR_far (p := ⟨gb125, 0, none⟩) (Kd.RR_types HO115.out BK125.out (by decide)) (fun _ hk => hk.2) (.slice Ao42 t119.length co42)) (fun _ hk => hk.2) (.slice Ao45 t122.length co45)) (fun _ h_ => h_.1))) (Kd.RR_base ho0) hb); have n4_ := Aside0.mk (Kd.RR_below (by (with_reducible repeat (first | apply Kd.RR_alloc | apply Kd.RR_drewN | apply Kd.RR_drew)); exact (Kd.RR_mono (Kd.RR_far (p := ⟨gb125, 1, none⟩) (Kd.RR_far (p := ⟨gb125, 0, none⟩) (Kd.RR_types HO118.out BK125.out (by decide)) (fun _ hk => hk.2) (.slice Ao42 t119.length co42)) (fun _ hk => hk.2) (.slice Ao45 t122.length co45)) (fun _ h_ => h_.1))) hb); have n5_ := Aside0.mk (Kd.S_elder' (by (with_reducible repeat (first | apply Kd.S_alloc | apply Kd.S_drewN | apply Kd.S_drew)); exact (Kd.S_mono (Kd.S_far (p := ⟨gb125, 1, none⟩) (Kd.S_far (p := ⟨gb125, 0, none⟩) (Kd.S_types HO121.out BK125.out (by decide)) (fun _ hk => hk.2) (.slice Ao42 t119.length co42)) (fun _ hk => hk.2) (.slice Ao45 t122.length co45)) (fun _ h_ => h_.1))) (Kd.RR_base ho0) hb); have n6_ := Aside0.mk (Kd.RR_elder' (by (with_reducible repeat (first | apply Kd.RR_alloc | apply Kd.RR_drewN | apply Kd.RR_drew)); exact (Kd.RR_mono (Kd.RR_far (p := ⟨gb125, 1, none⟩) (Kd.RR_far (p := ⟨gb125, 0, none⟩) (Kd.RR_types HO124.out BK125.out (by decide)) (fun _ hk => hk.2) (.slice Ao42 t119.length co42)) (fun _ hk => hk.2) (.slice Ao45 t122.length co45)) (fun _ h_ => h_.1))) (Kd.RR_base ho0) hb); have n7_ := Aside0.mk (Kd.RR_lower (Kd.RR_new' (Kd.RR_new' (Kd.RR_new' ho0 (Kd.RR_lt (by (with_reducible repeat (first | apply Kd.RR_alloc | apply Kd.RR_drewN | apply Kd.RR_drew)); exact (Kd.RR_mono (Kd.RR_far (p := ⟨gb125, 1, none⟩) (Kd.RR_far (p := ⟨gb125, 0, none⟩) (Kd.RR_types HO112.out BK125.out (by decide)) (fun _ hk => hk.2) (.slice Ao42 t119.length co42)) (fun _ hk => hk.2) (.slice Ao45 t122.length co45)) (fun _ h_ => h_.1))))) (Kd.RR_lt (by (with_reducible repeat (first | apply Kd.RR_alloc | apply Kd.RR_drewN | apply Kd.RR_drew)); exact (Kd.RR_mono (Kd.RR_far (p := ⟨gb125, 1, none⟩) (Kd.RR_far (p := ⟨gb125, 0, none⟩) (Kd.RR_types HO115.out BK125.out (by decide)) (fun _ hk => hk.2) (.slice Ao42 t119.length co42)) (fun _ hk => hk.2) (.slice Ao45 t122.length co45)) (fun _ h_ => h_.1))))) (Kd.RR_lt (by (with_reducible repeat (first | apply Kd.RR_alloc | apply Kd.RR_drewN | apply Kd.RR_drew)); exact (Kd.RR_mono (Kd.RR_far (p := ⟨gb125, 1, none⟩) (Kd.RR_far (p := ⟨gb125, 0, none⟩) (Kd.RR_types HO124.out BK125.out (by decide)) (fun _ hk => hk.2) (.slice Ao42 t119.length co42)) (fun _ hk => hk.2) (.slice Ao45 t122.length co45)) (fun _ h_ => h_.1))))) (below_size (by repeat (first | (with_reducible first | exact HB.out | apply below_alloc | apply pw_below_drewN | apply below_drew1 | refine below_set ?_ GE101.out | refine below_set ?_ GE125.out) | exact HB.out)))); have n8_ := Aside0.mk (blk_below (g := gb101) (o := .cells #[.slice A1_0 l1_0.length c1_0, .slice A1_1 l1_1.length c1_1] 62 (0, 0)) (by (with_reducible repeat (first | refine blk_drewN ?_ _ | refine blk_drew ?_ | refine blk_alloc ?_ _)); refine blk_far ?_ NB101_125.out _; (with_reducible repeat (first | refine blk_drewN ?_ _ | refine blk_drew ?_ | refine blk_alloc ?_ _)); refine blk_far ?_ NB101_125.out _; (with_reducible repeat (first | refine blk_drewN ?_ _ | refine blk_drew ?_ | refine blk_alloc ?_ _)); exact BK101.out) hb); have n9_ := Aside0.mk (blk_below (g := gb125) (o := .cells #[.slice Ao42 t119.length co42, .slice Ao45 t122.length co45] 65 (0, 0)) (by (with_reducible repeat (first | refine blk_drewN ?_ _ | refine blk_drew ?_ | refine blk_alloc ?_ _)); refine blk_put (cs := #[.slice Ao42 t119.length co42, .slice none 0 0]) ?_ 1 _ rfl; (with_reducible repeat (first | refine blk_drewN ?_ _ | refine blk_drew ?_ | refine blk_alloc ?_ _)); refine blk_put (cs := #[.slice none 0 0, .slice none 0 0]) ?_ 0 _ rfl; (with_reducible repeat (first | refine blk_drewN ?_ _ | refine blk_drew ?_ | refine blk_alloc ?_ _)); exact BK125.out) hb); have n10_ := Aside0.mk (below_step (by repeat (first | (with_reducible first | exact HB.out | apply below_alloc | apply pw_below_drewN | apply below_drew1 | refine below_set ?_ GE101.out | refine below_set ?_ GE125.out) | exact HB.out)) hb); clear HO106; clear HO109; clear HO112; clear HO115; clear HO118; clear HO121; clear HO124; clear BK101; clear BK125; clear HB; have HO106 := n0_; have HO109 := n1_; have HO112 := n2_; have HO115 := n3_; have HO118 := n4_; have HO121 := n5_; have HO124 := n6_; have HO128 := n7_; have BK101 := n8_; have BK125 := n9_; have HB := n10_; clear n0_ n1_ n2_ n3_ n4_ n5_ n6_ n7_ n8_ n9_ n10_; (try clear hb); (try clear hb2); (try clear hk); (try clear hi); (try clear ho0); obtain ⟨Ao48, co48, eo48⟩ := Kd.RR_slice HO128.out; subst eo48; obtain ⟨Ao49, co49, eo49⟩ := Kd.RR_slice HO115.out; subst eo49) | ((with_reducible refine gate_callee (f := 21) rfl ?_); refine goesL_ (some 38) rfl rfl Try.func21 (by kernel_rfl) rfl #[.slice Ao48 t126.length co48, .slice Ao49 t113.length co49] rfl (by (try simp only [List.map_toArray, List.map_cons, List.map_nil]); first | done | rfl | (simp only [List.length_drop, List.length_take]; rfl)) ?_; (with_reducible refine (laws_eqIntS.calls k _ _ t126 _ _ t113 true _ ?side1 ?side2 ?side3 ?side4 A17.out).mono ?_); (case side1 => repeat (first | exact (Kd.RR_reads' HO128.out).2.2 | (with_reducible refine Kd.C_alloc ?_ _) | (with_reducible refine Kd.C_drewN ?_ _) | (with_reducible refine Kd.C_drew ?_))); (case side2 => exact (Kd.RR_reads' HO128.out).2.1); (case side3 => repeat (first | exact (Kd.RR_reads' HO115.out).2.2 | (with_reducible refine Kd.C_alloc ?_ _) | (with_reducible refine Kd.C_drewN ?_ _) | (with_reducible refine Kd.C_drew ?_))); (case side4 => exact (Kd.RR_reads' HO115.out).2.1); rintro e w' ⟨rfl, ⟨nd, rfl⟩⟩; refine ⟨_, rfl, ?_⟩) | ((with_reducible refine gate_callee (f := 18) rfl ?_); refine goesL_ (some 42) rfl rfl Try.func18 (by kernel_rfl) rfl #[.slice A0 l0.length c0] rfl (by (try simp only [List.map_toArray, List.map_cons, List.map_nil]); first | done | rfl | (simp only [List.length_drop, List.length_take]; rfl)) ?_; (with_reducible refine (laws_toJobS.callsRR k _ _ l0 t130 _ ?side1 ?side2 A19.out).mono ?_); (case side1 => repeat (first | exact (Kd.C_below HR0.out (by repeat (first | (with_reducible first | exact HB.out | apply below_alloc | apply pw_below_drewN | apply below_drew1 | refine below_set ?_ GE101.out | refine below_set ?_ GE125.out) | exact HB.out))) | (with_reducible refine Kd.C_alloc ?_ _) | (with_reducible refine Kd.C_drewN ?_ _) | (with_reducible refine Kd.C_drew ?_))); (case side2 => exact HC0.out); rintro e w50 ⟨v131, rfl, ho0, hb⟩; refine ⟨_, rfl, ?_⟩; have n0_ := Aside0.mk (Kd.RR_elder' (by (with_reducible repeat (first | apply Kd.RR_alloc | apply Kd.RR_drewN | apply Kd.RR_drew)); exact HO106.out) (Kd.RR_base ho0) hb); have n1_ := Aside0.mk (Kd.S_below (by (with_reducible repeat (first | apply Kd.S_alloc | apply Kd.S_drewN | apply Kd.S_drew)); exact HO109.out) hb); have n2_ := Aside0.mk (Kd.RR_below (by (with_reducible repeat (first | apply Kd.RR_alloc | apply Kd.RR_drewN | apply Kd.RR_drew)); exact HO112.out) hb); have n3_ := Aside0.mk (Kd.RR_below (by (with_reducible repeat (first | apply Kd.RR_alloc | apply Kd.RR_drewN | apply Kd.RR_drew)); exact HO115.out) hb); have n4_ := Aside0.mk (Kd.RR_elder' (by (with_reducible repeat (first | apply Kd.RR_alloc | apply Kd.RR_drewN | apply Kd.RR_drew)); exact HO118.out) (Kd.RR_base ho0) hb); have n5_ := Aside0.mk (Kd.S_below (by (with_reducible repeat (first | apply Kd.S_alloc | apply Kd.S_drewN | apply Kd.S_drew)); exact HO121.out) hb); have n6_ := Aside0.mk (Kd.RR_below (by (with_reducible repeat (first | apply Kd.RR_alloc | apply Kd.RR_drewN | apply Kd.RR_drew)); exact HO124.out) hb); have n7_ := Aside0.mk (Kd.RR_below (by (with_reducible repeat (first | apply Kd.RR_alloc | apply Kd.RR_drewN | apply Kd.RR_drew)); exact HO128.out) hb); have n8_ := Aside0.mk (Kd.RR_lower (Kd.RR_new' (Kd.RR_new' ho0 (Kd.RR_lt (by (with_reducible repeat (first | apply Kd.RR_alloc | apply Kd.RR_drewN | apply Kd.RR_drew)); exact HO106.out))) (Kd.RR_lt (by (with_reducible repeat (first | apply Kd.RR_alloc | apply Kd.RR_drewN | apply Kd.RR_drew)); exact HO118.out))) (below_size (by repeat (first | (with_reducible first | exact HB.out | apply below_alloc | apply pw_below_drewN | apply below_drew1 | refine below_set ?_ GE101.out | refine below_set ?_ GE125.out) | exact HB.out)))); have n9_ := Aside0.mk (blk_below (g := gb101) (o := .cells #[.slice A1_0 l1_0.length c1_0, .slice A1_1 l1_1.length c1_1] 62 (0, 0)) (by (with_reducible repeat (first | refine blk_drewN ?_ _ | refine blk_drew ?_ | refine blk_alloc ?_ _)); exact BK101.out) hb); have n10_ := Aside0.mk (blk_below (g := gb125) (o := .cells #[.slice Ao42 t119.length co42, .slice Ao45 t122.length co45] 65 (0, 0)) (by (with_reducible repeat (first | refine blk_drewN ?_ _ | refine blk_drew ?_ | refine blk_alloc ?_ _)); exact BK125.out) hb); have n11_ := Aside0.mk (below_step (by repeat (first | (with_reducible first | exact HB.out | apply below_alloc | apply pw_below_drewN | apply below_drew1 | refine below_set ?_ GE101.out | refine below_set ?_ GE125.out) | exact HB.out)) hb); clear HO106; clear HO109; clear HO112; clear HO115; clear HO118; clear HO121; clear HO124; clear HO128; clear BK101; clear BK125; clear HB; have HO106 := n0_; have HO109 := n1_; have HO112 := n2_; have HO115 := n3_; have HO118 := n4_; have HO121 := n5_; have HO124 := n6_; have HO128 := n7_; have HO132 := n8_; have BK101 := n9_; have BK125 := n10_; have HB := n11_; clear n0_ n1_ n2_ n3_ n4_ n5_ n6_ n7_ n8_ n9_ n10_ n11_; (try clear hb); (try clear hb2); (try clear hk); (try clear hi); (try clear ho0); obtain ⟨Ao51, co51, eo51⟩ := Kd.RR_slice HO132.out; subst eo51) | ((with_reducible refine gate_callee (f := 22) rfl ?_); refine goesL_ (some 43) rfl rfl Try.func22 (by kernel_rfl) rfl #[.slice Ao46 t116.length co46, .slice Ao51 t130.length co51] rfl (by (try simp only [List.map_toArray, List.map_cons, List.map_nil]); first | done | rfl | (simp only [List.length_drop, List.length_take]; rfl)) ?_; (with_reducible refine (laws_eqJobS.calls k _ _ t116 _ _ t130 true _ ?side1 ?side2 ?side3 ?side4 A20.out).mono ?_); (case side1 => repeat (first | exact (Kd.RR_reads' HO118.out).2.2 | (with_reducible refine Kd.C_alloc ?_ _) | (with_reducible refine Kd.C_drewN ?_ _) | (with_reducible refine Kd.C_drew ?_))); (case side2 => exact (Kd.RR_reads' HO118.out).2.1); (case side3 => repeat (first | exact (Kd.RR_reads' HO132.out).2.2 | (with_reducible refine Kd.C_alloc ?_ _) | (with_reducible refine Kd.C_drewN ?_ _) | (with_reducible refine Kd.C_drew ?_))); (case side4 => exact (Kd.RR_reads' HO132.out).2.1); rintro e w52 ⟨rfl, hb⟩; refine ⟨_, rfl, ?_⟩; have n0_ := Aside0.mk (Kd.RR_below (by (with_reducible repeat (first | apply Kd.RR_alloc | apply Kd.RR_drewN | apply Kd.RR_drew)); exact HO106.out) hb); have n1_ := Aside0.mk (Kd.S_below (by (with_reducible repeat (first | apply Kd.S_alloc | apply Kd.S_drewN | apply Kd.S_drew)); exact HO109.out) hb); have n2_ := Aside0.mk (Kd.RR_below (by (with_reducible repeat (first | apply Kd.RR_alloc | apply Kd.RR_drewN | apply Kd.RR_drew)); exact HO112.out) hb); have n3_ := Aside0.mk (Kd.RR_below (by (with_reducible repeat (first | apply Kd.RR_alloc | apply Kd.RR_drewN | apply Kd.RR_drew)); exact HO115.out) hb); have n4_ := Aside0.mk (Kd.RR_below (by (with_reducible repeat (first | apply Kd.RR_alloc | apply Kd.RR_drewN | apply Kd.RR_drew)); exact HO118.out) hb); have n5_ := Aside0.mk (Kd.S_below (by (with_reducible repeat (first | apply Kd.S_alloc | apply Kd.S_drewN | apply Kd.S_drew)); exact HO121.out) hb); have n6_ := Aside0.mk (Kd.RR_below (by (with_reducible repeat (first | apply Kd.RR_alloc | apply Kd.RR_drewN | apply Kd.RR_drew)); exact HO124.out) hb); have n7_ := Aside0.mk (Kd.RR_below (by (with_reducible repeat (first | apply Kd.RR_alloc | apply Kd.RR_drewN | apply Kd.RR_drew)); exact HO128.out) hb); have n8_ := Aside0.mk (Kd.RR_below (by (with_reducible repeat (first | apply Kd.RR_alloc | apply Kd.RR_drewN | apply Kd.RR_drew)); exact HO132.out) hb); have n9_ := Aside0.mk (blk_below (g := gb101) (o := .cells #[.slice A1_0 l1_0.length c1_0, .slice A1_1 l1_1.length c1_1] 62 (0, 0)) (by (with_reducible repeat (first | refine blk_drewN ?_ _ | refine blk_drew ?_ | refine blk_alloc ?_ _)); exact BK101.out) hb); have n10_ := Aside0.mk (blk_below (g := gb125) (o := .cells #[.slice Ao42 t119.length co42, .slice Ao45 t122.length co45] 65 (0, 0)) (by (with_reducible repeat (first | refine blk_drewN ?_ _ | refine blk_drew ?_ | refine blk_alloc ?_ _)); exact BK125.out) hb); have n11_ := Aside0.mk (below_step (by repeat (first | (with_reducible first | exact HB.out | apply below_alloc | apply pw_below_drewN | apply below_drew1 | refine below_set ?_ GE101.out | refine below_set ?_ GE125.out) | exact HB.out)) hb); clear HO106; clear HO109; clear HO112; clear HO115; clear HO118; clear HO121; clear HO124; clear HO128; clear HO132; clear BK101; clear BK125; clear HB; have HO106 := n0_; have HO109 := n1_; have HO112 := n2_; have HO115 := n3_; have HO118 := n4_; have HO121 := n5_; have HO124 := n6_; have HO128 := n7_; have HO132 := n8_; have BK101 := n9_; have BK125 := n10_; have HB := n11_; clear n0_ n1_ n2_ n3_ n4_ n5_ n6_ n7_ n8_ n9_ n10_ n11_; (try clear hb); (try clear hb2); (try clear hk); (try clear hi)))
            have n0_ := Aside0.mk (Kd.RR_drew HO106.out)
            have n1_ := Aside0.mk (Kd.S_drew HO109.out)
            have n2_ := Aside0.mk (Kd.RR_drew HO112.out)
            have n3_ := Aside0.mk (Kd.RR_drew HO115.out)
            have n4_ := Aside0.mk (Kd.RR_drew HO118.out)
            have n5_ := Aside0.mk (Kd.S_drew HO121.out)
            have n6_ := Aside0.mk (Kd.RR_drew HO124.out)
            have n7_ := Aside0.mk (Kd.RR_drew HO128.out)
            have n8_ := Aside0.mk (Kd.RR_drew HO132.out)
            have n9_ := Aside0.mk (blk_drew BK101.out)
            have n10_ := Aside0.mk (blk_drew BK125.out)
            have n11_ := Aside0.mk (below_drew1 HB.out)
            clear HO106
            clear HO109
            clear HO112
            clear HO115
            clear HO118
            clear HO121
            clear HO124
            clear HO128
            clear HO132
            clear BK101
            clear BK125
            clear HB
            have HO106 := n0_
            have HO109 := n1_
            have HO112 := n2_
            have HO115 := n3_
            have HO118 := n4_
            have HO121 := n5_
            have HO124 := n6_
            have HO128 := n7_
            have HO132 := n8_
            have BK101 := n9_
            have BK125 := n10_
            have HB := n11_
            clear n0_ n1_ n2_ n3_ n4_ n5_ n6_ n7_ n8_ n9_ n10_ n11_
            refine start_ (n := 5) (S := fun w' => w'.cell? ⟨gb125, 0, none⟩ = some (.slice Ao42 t119.length co42) ∧ w'.cell? ⟨gb125, 1, none⟩ = some (.slice Ao45 t122.length co45) ∧ w'.cell? ⟨gb101, 0, none⟩ = some (.slice A1_0 l1_0.length c1_0) ∧ w'.cell? ⟨gb101, 1, none⟩ = some (.slice A1_1 l1_1.length c1_1)) (ds := []) #[false, false, false, false, false] (by kernel_rfl) rfl rfl ⟨(blk_cell BK125.out 0).trans rfl, (blk_cell BK125.out 1).trans rfl, (blk_cell BK101.out 0).trans rfl, (blk_cell BK101.out 1).trans rfl⟩ (fun hHeld => ?_)
            generalize w52.drew = w53 at HO106 HO109 HO112 HO115 HO118 HO121 HO124 HO128 HO132 BK101 BK125 HB hHeld ⊢
            refine take_ (i := 0) (N := some 45) (v := ?_) (a' := ?_) #[true, false, false, false, false] rfl rfl (by kernel_rfl) (fun _ _ _ h => h) (Or.inl ⟨by rfl, ?_⟩) hHeld ?_ ?_
            rotate_left
            · rintro w' ⟨s0, s1, s2, s3⟩
              go_simp
              with_reducible rfl
            rotate_left
            · simp only [Act.put, List.setIfInBounds_toArray, List.set_cons_zero, List.set_cons_succ, i64_w, i32_w]
              rfl
            refine take_ (i := 1) (N := some 46) (v := ?_) (a' := ?_) #[true, true, false, false, false] rfl rfl (by kernel_rfl) (fun _ _ _ h => h) (Or.inl ⟨by rfl, ?_⟩) hHeld ?_ ?_
            rotate_left
            · rintro w' ⟨s0, s1, s2, s3⟩
              go_simp
              with_reducible rfl
            rotate_left
            · simp only [Act.put, List.setIfInBounds_toArray, List.set_cons_zero, List.set_cons_succ, i64_w, i32_w]
              rfl
            refine one_ (i := 2) (N := some 47) #[true, true, true, false, false] rfl rfl (by kernel_rfl) (by decide) (fun K hK => ?_)
            refine goes_ Try.func46 (by kernel_rfl) rfl #[.agg #[.slice A1_0 l1_0.length c1_0, .slice A1_1 l1_1.length c1_1]] (by rfl) rfl rfl (by (try simp only [List.map_toArray, List.map_cons, List.map_nil]); first | done | rfl | (simp only [List.length_drop, List.length_take]; rfl)) ?_
            with_reducible refine (laws_toGlobalRun.callsRR k _ _ l1_0 _ _ l1_1 t134 t137 _ ?side1 ?side2 ?side3 ?side4 A22.out).mono ?_
            (case side1 => repeat (first | exact (Kd.C_below HR1_0.out HB.out) | (with_reducible refine Kd.C_alloc ?_ _) | (with_reducible refine Kd.C_drewN ?_ _) | (with_reducible refine Kd.C_drew ?_)))
            (case side2 => exact HC1_0.out)
            (case side3 => repeat (first | exact (Kd.C_below HR1_1.out HB.out) | (with_reducible refine Kd.C_alloc ?_ _) | (with_reducible refine Kd.C_drewN ?_ _) | (with_reducible refine Kd.C_drew ?_)))
            (case side4 => exact HC1_1.out)
            rintro e w54 ⟨v135, v138, rfl, ho0, ho1, hb⟩
            refine ⟨_, rfl, ?_⟩
            have n0_ := Aside0.mk (Kd.RR_below (by (with_reducible repeat (first | apply Kd.RR_alloc | apply Kd.RR_drewN | apply Kd.RR_drew)); exact HO106.out) hb)
            have n1_ := Aside0.mk (Kd.S_mono (Kd.S_told (Kd.S_told (Kd.S_old (by (with_reducible repeat (first | apply Kd.S_alloc | apply Kd.S_drewN | apply Kd.S_drew)); exact HO109.out) hb) (Kd.S_base ho0)) (Kd.RR_base ho1)) (fun _ h_ => h_.1))
            have n2_ := Aside0.mk (Kd.RR_elder' (by (with_reducible repeat (first | apply Kd.RR_alloc | apply Kd.RR_drewN | apply Kd.RR_drew)); exact HO112.out) (Kd.RR_base ho1) hb)
            have n3_ := Aside0.mk (Kd.RR_elder' (by (with_reducible repeat (first | apply Kd.RR_alloc | apply Kd.RR_drewN | apply Kd.RR_drew)); exact HO115.out) (Kd.RR_base ho1) hb)
            have n4_ := Aside0.mk (Kd.RR_below (by (with_reducible repeat (first | apply Kd.RR_alloc | apply Kd.RR_drewN | apply Kd.RR_drew)); exact HO118.out) hb)
            have n5_ := Aside0.mk (Kd.S_mono (Kd.S_told (Kd.S_told (Kd.S_old (by (with_reducible repeat (first | apply Kd.S_alloc | apply Kd.S_drewN | apply Kd.S_drew)); exact HO121.out) hb) (Kd.S_base ho0)) (Kd.RR_base ho1)) (fun _ h_ => h_.1))
            have n6_ := Aside0.mk (Kd.RR_elder' (by (with_reducible repeat (first | apply Kd.RR_alloc | apply Kd.RR_drewN | apply Kd.RR_drew)); exact HO124.out) (Kd.RR_base ho1) hb)
            have n7_ := Aside0.mk (Kd.RR_elder' (by (with_reducible repeat (first | apply Kd.RR_alloc | apply Kd.RR_drewN | apply Kd.RR_drew)); exact HO128.out) (Kd.RR_base ho1) hb)
            have n8_ := Aside0.mk (Kd.RR_below (by (with_reducible repeat (first | apply Kd.RR_alloc | apply Kd.RR_drewN | apply Kd.RR_drew)); exact HO132.out) hb)
            have n9_ := Aside0.mk (Kd.S_lower (Kd.S_new' (Kd.S_new' (Kd.S_new' (Kd.S_new' (Kd.S_new' (Kd.S_new' ho0 (Kd.S_lt (by (with_reducible repeat (first | apply Kd.S_alloc | apply Kd.S_drewN | apply Kd.S_drew)); exact HO109.out))) (Kd.RR_lt (by (with_reducible repeat (first | apply Kd.RR_alloc | apply Kd.RR_drewN | apply Kd.RR_drew)); exact HO112.out))) (Kd.RR_lt (by (with_reducible repeat (first | apply Kd.RR_alloc | apply Kd.RR_drewN | apply Kd.RR_drew)); exact HO115.out))) (Kd.S_lt (by (with_reducible repeat (first | apply Kd.S_alloc | apply Kd.S_drewN | apply Kd.S_drew)); exact HO121.out))) (Kd.RR_lt (by (with_reducible repeat (first | apply Kd.RR_alloc | apply Kd.RR_drewN | apply Kd.RR_drew)); exact HO124.out))) (Kd.RR_lt (by (with_reducible repeat (first | apply Kd.RR_alloc | apply Kd.RR_drewN | apply Kd.RR_drew)); exact HO128.out))) (below_size (by repeat (first | (with_reducible first | exact HB.out | apply below_alloc | apply pw_below_drewN | apply below_drew1 | refine below_set ?_ GE101.out | refine below_set ?_ GE125.out) | exact HB.out))))
            have n10_ := Aside0.mk (Kd.RR_lower (Kd.RR_new' (Kd.RR_new' (Kd.RR_new' (Kd.RR_new' ho1 (Kd.RR_lt (by (with_reducible repeat (first | apply Kd.RR_alloc | apply Kd.RR_drewN | apply Kd.RR_drew)); exact HO112.out))) (Kd.RR_lt (by (with_reducible repeat (first | apply Kd.RR_alloc | apply Kd.RR_drewN | apply Kd.RR_drew)); exact HO115.out))) (Kd.RR_lt (by (with_reducible repeat (first | apply Kd.RR_alloc | apply Kd.RR_drewN | apply Kd.RR_drew)); exact HO124.out))) (Kd.RR_lt (by (with_reducible repeat (first | apply Kd.RR_alloc | apply Kd.RR_drewN | apply Kd.RR_drew)); exact HO128.out))) (below_size (by repeat (first | (with_reducible first | exact HB.out | apply below_alloc | apply pw_below_drewN | apply below_drew1 | refine below_set ?_ GE101.out | refine below_set ?_ GE125.out) | exact HB.out))))
            have n11_ := Aside0.mk (blk_below (g := gb101) (o := .cells #[.slice A1_0 l1_0.length c1_0, .slice A1_1 l1_1.length c1_1] 62 (0, 0)) (by (with_reducible repeat (first | refine blk_drewN ?_ _ | refine blk_drew ?_ | refine blk_alloc ?_ _)); exact BK101.out) hb)
            have n12_ := Aside0.mk (blk_below (g := gb125) (o := .cells #[.slice Ao42 t119.length co42, .slice Ao45 t122.length co45] 65 (0, 0)) (by (with_reducible repeat (first | refine blk_drewN ?_ _ | refine blk_drew ?_ | refine blk_alloc ?_ _)); exact BK125.out) hb)
            have n13_ := Aside0.mk (below_step (by repeat (first | (with_reducible first | exact HB.out | apply below_alloc | apply pw_below_drewN | apply below_drew1 | refine below_set ?_ GE101.out | refine below_set ?_ GE125.out) | exact HB.out)) hb)
            clear HO106
            clear HO109
            clear HO112
            clear HO115
            clear HO118
            clear HO121
            clear HO124
            clear HO128
            clear HO132
            clear BK101
            clear BK125
            clear HB
            have HO106 := n0_
            have HO109 := n1_
            have HO112 := n2_
            have HO115 := n3_
            have HO118 := n4_
            have HO121 := n5_
            have HO124 := n6_
            have HO128 := n7_
            have HO132 := n8_
            have HO136 := n9_
            have HO139 := n10_
            have BK101 := n11_
            have BK125 := n12_
            have HB := n13_
            clear n0_ n1_ n2_ n3_ n4_ n5_ n6_ n7_ n8_ n9_ n10_ n11_ n12_ n13_
            (try clear hb)
            (try clear hb2)
            (try clear hk)
            (try clear hi)
            (try clear ho0)
            (try clear ho1)
            obtain ⟨Ao55, co55, eo55⟩ := Kd.S_slice HO136.out
            (first | subst eo55 | (injection eo55 with f1_ f2_ f3_; have f4_ := f1_.symm; have f5_ := f3_.symm; clear f1_ f2_ f3_; subst f4_; subst f5_))
            obtain ⟨Ao56, co56, eo56⟩ := Kd.RR_slice HO139.out
            (first | subst eo56 | (injection eo56 with f1_ f2_ f3_; have f4_ := f1_.symm; have f5_ := f3_.symm; clear f1_ f2_ f3_; subst f4_; subst f5_))
            refine hK.out _ _ ⟨(blk_cell BK125.out 0).trans rfl, (blk_cell BK125.out 1).trans rfl, (blk_cell BK101.out 0).trans rfl, (blk_cell BK101.out 1).trans rfl⟩ (fun hHeld => ?_)
            clear hK K
            refine norm_ (a' := ?_) ?_ ?_
            rotate_left
            · show Act.put _ (some 47) _ = _
              simp only [Act.put, List.setIfInBounds_toArray, List.set_cons_zero, List.set_cons_succ, i64_w, i32_w]
              rfl
            refine one_ (i := 3) (N := some 48) #[true, true, true, true, false] rfl rfl (by kernel_rfl) (by decide) (fun K hK => ?_)
            refine goes_ Try.func48 (by kernel_rfl) rfl #[.agg #[.slice Ao42 t119.length co42, .slice Ao45 t122.length co45], .agg #[.slice Ao55 t134.length co55, .slice Ao56 t137.length co56]] (by rfl) rfl rfl (by (try simp only [List.map_toArray, List.map_cons, List.map_nil]); first | done | rfl | (simp only [List.length_drop, List.length_take]; rfl)) ?_
            with_reducible refine (laws_eqGlobalRun.calls k _ _ t119 _ _ t122 _ _ t134 _ _ t137 true _ ?side1 ?side2 ?side3 ?side4 ?side5 ?side6 ?side7 ?side8 A23.out).mono ?_
            (case side1 => repeat (first | exact (Kd.S_reads' HO121.out).2.2 | (with_reducible refine Kd.C_alloc ?_ _) | (with_reducible refine Kd.C_drewN ?_ _) | (with_reducible refine Kd.C_drew ?_)))
            (case side2 => exact (Kd.S_reads' HO121.out).2.1)
            (case side3 => repeat (first | exact (Kd.RR_reads' HO124.out).2.2 | (with_reducible refine Kd.C_alloc ?_ _) | (with_reducible refine Kd.C_drewN ?_ _) | (with_reducible refine Kd.C_drew ?_)))
            (case side4 => exact (Kd.RR_reads' HO124.out).2.1)
            (case side5 => repeat (first | exact (Kd.S_reads' HO136.out).2.2 | (with_reducible refine Kd.C_alloc ?_ _) | (with_reducible refine Kd.C_drewN ?_ _) | (with_reducible refine Kd.C_drew ?_)))
            (case side6 => exact (Kd.S_reads' HO136.out).2.1)
            (case side7 => repeat (first | exact (Kd.RR_reads' HO139.out).2.2 | (with_reducible refine Kd.C_alloc ?_ _) | (with_reducible refine Kd.C_drewN ?_ _) | (with_reducible refine Kd.C_drew ?_)))
            (case side8 => exact (Kd.RR_reads' HO139.out).2.1)
            rintro e w57 ⟨rfl, hb⟩
            refine ⟨_, rfl, ?_⟩
            have n0_ := Aside0.mk (Kd.RR_below (by (with_reducible repeat (first | apply Kd.RR_alloc | apply Kd.RR_drewN | apply Kd.RR_drew)); exact HO106.out) hb)
            have n1_ := Aside0.mk (Kd.S_below (by (with_reducible repeat (first | apply Kd.S_alloc | apply Kd.S_drewN | apply Kd.S_drew)); exact HO109.out) hb)
            have n2_ := Aside0.mk (Kd.RR_below (by (with_reducible repeat (first | apply Kd.RR_alloc | apply Kd.RR_drewN | apply Kd.RR_drew)); exact HO112.out) hb)
            have n3_ := Aside0.mk (Kd.RR_below (by (with_reducible repeat (first | apply Kd.RR_alloc | apply Kd.RR_drewN | apply Kd.RR_drew)); exact HO115.out) hb)
            have n4_ := Aside0.mk (Kd.RR_below (by (with_reducible repeat (first | apply Kd.RR_alloc | apply Kd.RR_drewN | apply Kd.RR_drew)); exact HO118.out) hb)
            have n5_ := Aside0.mk (Kd.S_below (by (with_reducible repeat (first | apply Kd.S_alloc | apply Kd.S_drewN | apply Kd.S_drew)); exact HO121.out) hb)
            have n6_ := Aside0.mk (Kd.RR_below (by (with_reducible repeat (first | apply Kd.RR_alloc | apply Kd.RR_drewN | apply Kd.RR_drew)); exact HO124.out) hb)
            have n7_ := Aside0.mk (Kd.RR_below (by (with_reducible repeat (first | apply Kd.RR_alloc | apply Kd.RR_drewN | apply Kd.RR_drew)); exact HO128.out) hb)
            have n8_ := Aside0.mk (Kd.RR_below (by (with_reducible repeat (first | apply Kd.RR_alloc | apply Kd.RR_drewN | apply Kd.RR_drew)); exact HO132.out) hb)
            have n9_ := Aside0.mk (Kd.S_below (by (with_reducible repeat (first | apply Kd.S_alloc | apply Kd.S_drewN | apply Kd.S_drew)); exact HO136.out) hb)
            have n10_ := Aside0.mk (Kd.RR_below (by (with_reducible repeat (first | apply Kd.RR_alloc | apply Kd.RR_drewN | apply Kd.RR_drew)); exact HO139.out) hb)
            have n11_ := Aside0.mk (blk_below (g := gb101) (o := .cells #[.slice A1_0 l1_0.length c1_0, .slice A1_1 l1_1.length c1_1] 62 (0, 0)) (by (with_reducible repeat (first | refine blk_drewN ?_ _ | refine blk_drew ?_ | refine blk_alloc ?_ _)); exact BK101.out) hb)
            have n12_ := Aside0.mk (blk_below (g := gb125) (o := .cells #[.slice Ao42 t119.length co42, .slice Ao45 t122.length co45] 65 (0, 0)) (by (with_reducible repeat (first | refine blk_drewN ?_ _ | refine blk_drew ?_ | refine blk_alloc ?_ _)); exact BK125.out) hb)
            have n13_ := Aside0.mk (below_step (by repeat (first | (with_reducible first | exact HB.out | apply below_alloc | apply pw_below_drewN | apply below_drew1 | refine below_set ?_ GE101.out | refine below_set ?_ GE125.out) | exact HB.out)) hb)
            clear HO106
            clear HO109
            clear HO112
            clear HO115
            clear HO118
            clear HO121
            clear HO124
            clear HO128
            clear HO132
            clear HO136
            clear HO139
            clear BK101
            clear BK125
            clear HB
            have HO106 := n0_
            have HO109 := n1_
            have HO112 := n2_
            have HO115 := n3_
            have HO118 := n4_
            have HO121 := n5_
            have HO124 := n6_
            have HO128 := n7_
            have HO132 := n8_
            have HO136 := n9_
            have HO139 := n10_
            have BK101 := n11_
            have BK125 := n12_
            have HB := n13_
            clear n0_ n1_ n2_ n3_ n4_ n5_ n6_ n7_ n8_ n9_ n10_ n11_ n12_ n13_
            (try clear hb)
            (try clear hb2)
            (try clear hk)
            (try clear hi)
            refine hK.out _ _ ⟨(blk_cell BK125.out 0).trans rfl, (blk_cell BK125.out 1).trans rfl, (blk_cell BK101.out 0).trans rfl, (blk_cell BK101.out 1).trans rfl⟩ (fun hHeld => ?_)
            clear hK K
            refine norm_ (a' := ?_) ?_ ?_
            rotate_left
            · show Act.put _ (some 48) _ = _
              simp only [Act.put, List.setIfInBounds_toArray, List.set_cons_zero, List.set_cons_succ, i64_w, i32_w]
              rfl
            refine pure_ (i := 4) (N := some 49) (v := ?_) (a' := ?_) #[true, true, true, true, true] rfl rfl (by kernel_rfl) (fun _ _ _ h => h) (Or.inl ⟨by rfl, ?_⟩) ?_ ?_
            rotate_left
            · intro w'
              go_simp
              with_reducible rfl
            rotate_left
            · simp only [Act.put, List.setIfInBounds_toArray, List.set_cons_zero, List.set_cons_succ, i64_w, i32_w]
              rfl
            refine done_ (by kernel_rfl) ?_
            go_upto_region 21 with (first | ((with_reducible refine gate_callee (f := 24) rfl ?_); refine goesL_ (some 52) rfl rfl Try.func24 (by kernel_rfl) rfl #[.slice Ao46 t116.length co46, .int .i64 1] rfl (by (try simp only [List.map_toArray, List.map_cons, List.map_nil]); first | done | rfl | (simp only [List.length_drop, List.length_take]; rfl)) ?_; (with_reducible refine (laws_markJobS.callsRR k (fun k_ => some k_ = (.slice Ao46 t116.length co46 : Value).ownBlock) (.slice Ao46 t116.length co46) t116 1 t141 t142 w _ ?side1 ?side2 A25.out).mono ?_); (case side1 => repeat (first | (with_reducible first | exact HB.out | apply below_alloc | apply pw_below_drewN | apply below_drew1 | refine below_set ?_ GE101.out | refine below_set ?_ GE125.out) | exact HB.out)); (case side2 => exact Kd.RR_tight rfl HO118.out); rintro e w58 ⟨rfl, hy0, hb, hkp⟩; refine ⟨_, rfl, ?_⟩; have n0_ := Aside0.mk (blk_kept (by (with_reducible repeat (first | refine blk_drewN ?_ _ | refine blk_drew ?_ | refine blk_alloc ?_ _)); exact BK101.out) hkp (fun hs_ => (fun e_ => (Kd.RR_ne HO118.out BK101.out (by decide)) e_) hs_)); have n1_ := Aside0.mk (Kd.RR_mono (ok' := fun k_ => some k_ ≠ (.slice Ao46 t116.length co46 : Value).ownBlock ∧ some k_ ≠ (.slice Ao51 t130.length co51 : Value).ownBlock) (Kd.RR_keptB (HO106.out) hkp (fun k_ hk_ hs_ => (hk_.1.2) hs_)) (fun k_ hk_ => ⟨hk_.1.1.2, hk_.1.2⟩)); have n2_ := Aside0.mk (Kd.S_mono (ok' := fun k_ => some k_ ≠ (.slice Ao36 t110.length co36 : Value).ownBlock ∧ some k_ ≠ (.slice Ao49 t113.length co49 : Value).ownBlock ∧ some k_ ≠ (.slice Ao42 t119.length co42 : Value).ownBlock ∧ some k_ ≠ (.slice Ao45 t122.length co45 : Value).ownBlock ∧ some k_ ≠ (.slice Ao48 t126.length co48 : Value).ownBlock ∧ some k_ ≠ (.slice Ao55 t134.length co55 : Value).ownBlock ∧ some k_ ≠ (.slice Ao56 t137.length co56 : Value).ownBlock) (Kd.S_keptB ((Kd.S_apart' HO109.out (Kd.RR_typed HO118.out) (by decide))) hkp (fun k_ hk_ hs_ => (hk_.2) hs_)) (fun k_ hk_ => ⟨hk_.1.1.1.1.1.1.1.1, hk_.1.1.1.1.1.1.1.2, hk_.1.1.1.1.1.1.2, hk_.1.1.1.1.1.2, hk_.1.1.1.1.2, hk_.1.1.1.2, hk_.1.1.2⟩)); have n3_ := Aside0.mk (Kd.RR_mono (ok' := fun k_ => some k_ ≠ (.slice Ao49 t113.length co49 : Value).ownBlock ∧ some k_ ≠ (.slice Ao45 t122.length co45 : Value).ownBlock ∧ some k_ ≠ (.slice Ao48 t126.length co48 : Value).ownBlock ∧ some k_ ≠ (.slice Ao56 t137.length co56 : Value).ownBlock) (Kd.RR_keptB ((Kd.RR_apart' HO112.out (Kd.RR_typed HO118.out) (by decide))) hkp (fun k_ hk_ hs_ => (hk_.2) hs_)) (fun k_ hk_ => ⟨hk_.1.1.1.1.1.2, hk_.1.1.1.1.2, hk_.1.1.1.2, hk_.1.1.2⟩)); have n4_ := Aside0.mk (Kd.RR_mono (ok' := fun k_ => some k_ ≠ (.slice Ao36 t110.length co36 : Value).ownBlock ∧ some k_ ≠ (.slice Ao45 t122.length co45 : Value).ownBlock ∧ some k_ ≠ (.slice Ao48 t126.length co48 : Value).ownBlock ∧ some k_ ≠ (.slice Ao56 t137.length co56 : Value).ownBlock) (Kd.RR_keptB ((Kd.RR_apart' HO115.out (Kd.RR_typed HO118.out) (by decide))) hkp (fun k_ hk_ hs_ => (hk_.2) hs_)) (fun k_ hk_ => ⟨hk_.1.1.1.1.1.2, hk_.1.1.1.1.2, hk_.1.1.1.2, hk_.1.1.2⟩)); have n5_ := Aside0.mk (Kd.RR_reok rfl hy0 (fun k_ e_ => Kd.RR_ok HO118.out k_ e_)); have n6_ := Aside0.mk (Kd.S_mono (ok' := fun k_ => some k_ ≠ (.slice Ao35 t107.length co35 : Value).ownBlock ∧ some k_ ≠ (.slice Ao36 t110.length co36 : Value).ownBlock ∧ some k_ ≠ (.slice Ao49 t113.length co49 : Value).ownBlock ∧ some k_ ≠ (.slice Ao45 t122.length co45 : Value).ownBlock ∧ some k_ ≠ (.slice Ao48 t126.length co48 : Value).ownBlock ∧ some k_ ≠ (.slice Ao55 t134.length co55 : Value).ownBlock ∧ some k_ ≠ (.slice Ao56 t137.length co56 : Value).ownBlock) (Kd.S_keptB ((Kd.S_apart' HO121.out (Kd.RR_typed HO118.out) (by decide))) hkp (fun k_ hk_ hs_ => (hk_.2) hs_)) (fun k_ hk_ => ⟨hk_.1.1.1.1.1.1.1.2, hk_.1.1.1.1.1.1.2, hk_.1.1.1.1.1.2, hk_.1.1.1.1.1.1.1.1, hk_.1.1.1.1.2, hk_.1.1.1.2, hk_.1.1.2⟩)); have n7_ := Aside0.mk (Kd.RR_mono (ok' := fun k_ => some k_ ≠ (.slice Ao36 t110.length co36 : Value).ownBlock ∧ some k_ ≠ (.slice Ao49 t113.length co49 : Value).ownBlock ∧ some k_ ≠ (.slice Ao48 t126.length co48 : Value).ownBlock ∧ some k_ ≠ (.slice Ao56 t137.length co56 : Value).ownBlock) (Kd.RR_keptB ((Kd.RR_apart' HO124.out (Kd.RR_typed HO118.out) (by decide))) hkp (fun k_ hk_ hs_ => (hk_.2) hs_)) (fun k_ hk_ => ⟨hk_.1.1.1.1.1.2, hk_.1.1.1.1.2, hk_.1.1.1.2, hk_.1.1.2⟩)); have n8_ := Aside0.mk (blk_kept (by (with_reducible repeat (first | refine blk_drewN ?_ _ | refine blk_drew ?_ | refine blk_alloc ?_ _)); exact BK125.out) hkp (fun hs_ => (fun e_ => (Kd.RR_ne HO118.out BK125.out (by decide)) e_) hs_)); have n9_ := Aside0.mk (Kd.RR_mono (ok' := fun k_ => some k_ ≠ (.slice Ao36 t110.length co36 : Value).ownBlock ∧ some k_ ≠ (.slice Ao49 t113.length co49 : Value).ownBlock ∧ some k_ ≠ (.slice Ao45 t122.length co45 : Value).ownBlock ∧ some k_ ≠ (.slice Ao56 t137.length co56 : Value).ownBlock) (Kd.RR_keptB ((Kd.RR_apart' HO128.out (Kd.RR_typed HO118.out) (by decide))) hkp (fun k_ hk_ hs_ => (hk_.2) hs_)) (fun k_ hk_ => ⟨hk_.1.1.1.1.1.2, hk_.1.1.1.1.2, hk_.1.1.1.2, hk_.1.1.2⟩)); have n10_ := Aside0.mk (Kd.RR_mono (ok' := fun k_ => some k_ ≠ (.slice Ao34 t104.length co34 : Value).ownBlock ∧ some k_ ≠ (.slice Ao46 t116.length co46 : Value).ownBlock) (Kd.RR_keptB (HO132.out) hkp (fun k_ hk_ hs_ => (hk_.2) hs_)) (fun k_ hk_ => ⟨hk_.1.1.2, hk_.1.2⟩)); have n11_ := Aside0.mk (Kd.S_mono (ok' := fun k_ => some k_ ≠ (.slice Ao35 t107.length co35 : Value).ownBlock ∧ some k_ ≠ (.slice Ao36 t110.length co36 : Value).ownBlock ∧ some k_ ≠ (.slice Ao49 t113.length co49 : Value).ownBlock ∧ some k_ ≠ (.slice Ao42 t119.length co42 : Value).ownBlock ∧ some k_ ≠ (.slice Ao45 t122.length co45 : Value).ownBlock ∧ some k_ ≠ (.slice Ao48 t126.length co48 : Value).ownBlock ∧ some k_ ≠ (.slice Ao56 t137.length co56 : Value).ownBlock) (Kd.S_keptB ((Kd.S_apart' HO136.out (Kd.RR_typed HO118.out) (by decide))) hkp (fun k_ hk_ hs_ => (hk_.2) hs_)) (fun k_ hk_ => ⟨hk_.1.1.1.1.1.1.1.2, hk_.1.1.1.1.1.1.2, hk_.1.1.1.1.1.2, hk_.1.1.1.1.2, hk_.1.1.1.2, hk_.1.1.2, hk_.1.1.1.1.1.1.1.1⟩)); have n12_ := Aside0.mk (Kd.RR_mono (ok' := fun k_ => some k_ ≠ (.slice Ao36 t110.length co36 : Value).ownBlock ∧ some k_ ≠ (.slice Ao49 t113.length co49 : Value).ownBlock ∧ some k_ ≠ (.slice Ao45 t122.length co45 : Value).ownBlock ∧ some k_ ≠ (.slice Ao48 t126.length co48 : Value).ownBlock) (Kd.RR_keptB ((Kd.RR_apart' HO139.out (Kd.RR_typed HO118.out) (by decide))) hkp (fun k_ hk_ hs_ => (hk_.2) hs_)) (fun k_ hk_ => ⟨hk_.1.1.1.1.1.2, hk_.1.1.1.1.2, hk_.1.1.1.2, hk_.1.1.2⟩)); have n13_ := Aside0.mk (hb); clear BK101; clear HO106; clear HO109; clear HO112; clear HO115; clear HO118; clear HO121; clear HO124; clear BK125; clear HO128; clear HO132; clear HO136; clear HO139; clear HB; have BK101 := n0_; have HO106 := n1_; have HO109 := n2_; have HO112 := n3_; have HO115 := n4_; have HO118 := n5_; have HO121 := n6_; have HO124 := n7_; have BK125 := n8_; have HO128 := n9_; have HO132 := n10_; have HO136 := n11_; have HO139 := n12_; have HB := n13_; clear n0_ n1_ n2_ n3_ n4_ n5_ n6_ n7_ n8_ n9_ n10_ n11_ n12_ n13_; (try clear hb); (try clear hkp); (try clear hy0); have hcz59_0 : w58.cell? ⟨gb125, 0, none⟩ = some (.slice Ao42 t119.length co42) := (blk_cell BK125.out 0).trans rfl; have hcz59_1 : w58.cell? ⟨gb125, 1, none⟩ = some (.slice Ao45 t122.length co45) := (blk_cell BK125.out 1).trans rfl; have hfz59_0 := blk_frozen BK125.out 0; have hfz59_1 := blk_frozen BK125.out 1) | ((with_reducible refine gate_callee (f := 49) rfl ?_); refine goesL_ (some 55) rfl rfl Try.func49 (by kernel_rfl) rfl #[.agg #[.slice Ao42 t119.length co42, .slice Ao45 t122.length co45], .int .i64 t141] rfl (by (try simp only [List.map_toArray, List.map_cons, List.map_nil]); first | done | rfl | (simp only [List.length_drop, List.length_take]; rfl)) ?_; (refine (laws_markGlobalRun.callsW k (fun k_ => (((some k_ ≠ (.slice Ao49 t113.length co49 : Value).ownBlock ∧ some k_ ≠ (.slice Ao48 t126.length co48 : Value).ownBlock) ∧ some k_ ≠ (.slice Ao45 t122.length co45 : Value).ownBlock) ∧ k_ ≠ gb101) ∧ k_ ≠ gb125) (.slice Ao42 t119.length co42) (.slice Ao45 t122.length co45) t119 t122 t141 t143 w _ HB.out (Kd.S_types (Kd.S_types (Kd.S_mono HO121.out (fun _ hk => ⟨⟨hk.2.2.1, hk.2.2.2.2.1⟩, hk.2.2.2.1⟩)) BK101.out (by decide)) BK125.out (by decide)) (Kd.RR_tight rfl HO124.out) (fun k_ hk_ => hk_.1.1.2) A26.out).mono ?_); rintro e w60 ⟨rfl, hb, hkp⟩; refine ⟨_, rfl, ?_⟩; have n3_ := Aside0.mk (Kd.RR_reok (ok := fun k_ => some k_ ≠ (.slice Ao36 t110.length co36 : Value).ownBlock ∧ some k_ ≠ (.slice none 0 0 : Value).ownBlock ∧ some k_ ≠ (.slice Ao48 t126.length co48 : Value).ownBlock ∧ some k_ ≠ (.slice Ao56 t137.length co56 : Value).ownBlock) rfl (Kd.RR_keptB (Kd.RR_tight rfl HO115.out) hkp (fun k_ hk_ hs_ => hs_.elim (fun h => h.1.1.1.1 hk_) (fun h => (Kd.RR_ok HO115.out k_ hk_.symm).2.1 h))) (fun k_ e_ => ⟨(Kd.RR_ok HO115.out k_ e_).1, by simp [Value.ownBlock], (Kd.RR_ok HO115.out k_ e_).2.2.1, (Kd.RR_ok HO115.out k_ e_).2.2.2⟩)); have n7_ := Aside0.mk (Kd.RR_reok (ok := fun k_ => some k_ ≠ (.slice Ao36 t110.length co36 : Value).ownBlock ∧ some k_ ≠ (.slice Ao49 t113.length co49 : Value).ownBlock ∧ some k_ ≠ (.slice none 0 0 : Value).ownBlock ∧ some k_ ≠ (.slice Ao56 t137.length co56 : Value).ownBlock) rfl (Kd.RR_keptB (Kd.RR_tight rfl HO128.out) hkp (fun k_ hk_ hs_ => hs_.elim (fun h => h.1.1.1.2 hk_) (fun h => (Kd.RR_ok HO128.out k_ hk_.symm).2.2.1 h))) (fun k_ e_ => ⟨(Kd.RR_ok HO128.out k_ e_).1, (Kd.RR_ok HO128.out k_ e_).2.1, by simp [Value.ownBlock], (Kd.RR_ok HO128.out k_ e_).2.2.2⟩)); have n5_ := Aside0.mk (Kd.S_nil (Kd.slice 3 (Kd.int .i64)) 23 w60 w.heap.size (fun k_ => some k_ ≠ (.slice Ao35 t107.length co35 : Value).ownBlock ∧ some k_ ≠ (.slice Ao36 t110.length co36 : Value).ownBlock ∧ some k_ ≠ (.slice Ao49 t113.length co49 : Value).ownBlock ∧ some k_ ≠ (.slice none 0 0 : Value).ownBlock ∧ some k_ ≠ (.slice Ao48 t126.length co48 : Value).ownBlock ∧ some k_ ≠ (.slice Ao55 t134.length co55 : Value).ownBlock ∧ some k_ ≠ (.slice Ao56 t137.length co56 : Value).ownBlock)); have n6_ := Aside0.mk (Kd.RR_nil (Kd.int .i64) 3 w60 w.heap.size (fun k_ => some k_ ≠ (.slice Ao36 t110.length co36 : Value).ownBlock ∧ some k_ ≠ (.slice Ao49 t113.length co49 : Value).ownBlock ∧ some k_ ≠ (.slice Ao48 t126.length co48 : Value).ownBlock ∧ some k_ ≠ (.slice Ao56 t137.length co56 : Value).ownBlock)); have n11_ := Aside0.mk (blk_kept BK101.out hkp (fun hs_ => hs_.elim (fun h => h.1.2 rfl) (fun h => (Kd.RR_ne HO124.out BK101.out (by decide)) h))); have n12_ := Aside0.mk (blk_kept BK125.out hkp (fun hs_ => hs_.elim (fun h => h.2 rfl) (fun h => (Kd.RR_ne HO124.out BK125.out (by decide)) h))); have n13_ := Aside0.mk hb; clear HO106 HO109 HO112 HO115 HO118 HO121 HO124 HO128 HO132 HO136 HO139 BK101 BK125 HB; have HO115 := n3_; have HO121 := n5_; have HO124 := n6_; have HO128 := n7_; have BK101 := n11_; have BK125 := n12_; have HB := n13_; clear n3_ n5_ n6_ n7_ n11_ n12_ n13_ hb hkp))
            (try simp only [Act.put, List.setIfInBounds_toArray, List.set_cons_zero, List.set_cons_succ])
            go_cut [63] (fun v63 wc => ∃ (kq : Nat) (x63_26 : Bool), v63 = .bool x63_26 ∧ Aside0 (laws_FnExactGlobalMissed.j0 kq l0 t113 t126 x63_26 l1_0 l1_1 = some true) ∧ Aside0 (kq ≤ k) ∧ Aside0 (Kd.RR (Kd.int .i64) 3 wc w.heap.size (fun k_ => some k_ ≠ ((.slice Ao48 t126.length co48) : Value).ownBlock ∧ some k_ ≠ (.slice none 0 0 : Value).ownBlock) (.slice Ao49 t113.length co49) t113) ∧ Aside0 (Kd.RR (Kd.int .i64) 3 wc w.heap.size (fun k_ => some k_ ≠ ((.slice Ao49 t113.length co49) : Value).ownBlock ∧ some k_ ≠ (.slice none 0 0 : Value).ownBlock) (.slice Ao48 t126.length co48) t126) ∧ Aside0 (Kd.S (Kd.slice 3 (Kd.int .i64)) 23 wc w.heap.size (fun k_ => some k_ ≠ ((.slice Ao49 t113.length co49) : Value).ownBlock ∧ some k_ ≠ ((.slice Ao48 t126.length co48) : Value).ownBlock ∧ some k_ ≠ (.slice none 0 0 : Value).ownBlock) (.slice none 0 0) []) ∧ Aside0 (Kd.RR (Kd.int .i64) 3 wc w.heap.size (fun k_ => some k_ ≠ ((.slice Ao49 t113.length co49) : Value).ownBlock ∧ some k_ ≠ ((.slice Ao48 t126.length co48) : Value).ownBlock) (.slice none 0 0) []) ∧ Aside0 (wc.heap[gb101]? = some (.cells #[(.slice A1_0 l1_0.length c1_0), (.slice A1_1 l1_1.length c1_1)] 62 (0, 0))) ∧ Aside0 (wc.heap[gb125]? = some (.cells #[(.slice Ao42 t119.length co42), (.slice Ao45 t122.length co45)] 65 (0, 0))) ∧ Aside0 (Below w.heap.size w wc))
            case first =>
              have H := HC27.out
              clear HC27
              by_cases c61 : t143 < 0
              · rw [if_pos c61] at H
                have c61b0 : decide (t143 < 0) = true := decide_eq_true c61
                clear c61
                (first | rw [c61b0] | (simp only [i64_w, i32_w]; rw [c61b0]) | skip)
                have H' := Aside0.mk H
                clear H
                go_wp2
                go_meet
                case rel => exact ⟨_, (true), (by first | rfl | (simp; done) | (simp [*]; done) | (simp only [i64_w, i32_w]; done) | (simp [*, i64_w, i32_w]; done)), H', ⟨by first | omega | exact Nat.le_refl _⟩, ⟨by (with_reducible repeat (first | apply Kd.RR_alloc | apply Kd.RR_drewN | apply Kd.RR_drew)); exact Kd.RR_mono HO115.out (fun _ hk => ⟨hk.2.2.1, hk.2.1⟩)⟩, ⟨by (with_reducible repeat (first | apply Kd.RR_alloc | apply Kd.RR_drewN | apply Kd.RR_drew)); exact Kd.RR_mono HO128.out (fun _ hk => ⟨hk.2.1, hk.2.2.1⟩)⟩, ⟨by (with_reducible repeat (first | apply Kd.S_alloc | apply Kd.S_drewN | apply Kd.S_drew)); exact Kd.S_mono HO121.out (fun _ hk => ⟨hk.2.2.1, ⟨hk.2.2.2.2.1, hk.2.2.2.1⟩⟩)⟩, ⟨by (with_reducible repeat (first | apply Kd.RR_alloc | apply Kd.RR_drewN | apply Kd.RR_drew)); exact Kd.RR_mono HO124.out (fun _ hk => ⟨hk.2.1, hk.2.2.1⟩)⟩, ⟨by (with_reducible repeat (first | refine blk_drewN ?_ _ | refine blk_drew ?_ | refine blk_alloc ?_ _)); exact BK101.out⟩, ⟨by (with_reducible repeat (first | refine blk_drewN ?_ _ | refine blk_drew ?_ | refine blk_alloc ?_ _)); exact BK125.out⟩, ⟨by repeat (first | (with_reducible first | exact HB.out | apply below_alloc | apply pw_below_drewN | apply below_drew1 | refine below_set ?_ GE101.out | refine below_set ?_ GE125.out) | exact HB.out)⟩⟩
              · rw [if_neg c61] at H
                have c61b0 : decide (t143 < 0) = false := decide_eq_false c61
                clear c61
                (first | rw [c61b0] | (simp only [i64_w, i32_w]; rw [c61b0]) | skip)
                replace H := Option.bind_eq_some_iff.mp H
                obtain ⟨t144, A620, H⟩ := H
                replace H : (laws_FnExactGlobalMissed.j0 k l0 t113 t126 (!t144) l1_0 l1_1) = some true := H
                have A62 := Aside0.mk A620
                clear A620
                have H' := Aside0.mk H
                clear H
                go_wp2_with (first | (go_at_call 21; (with_reducible refine (laws_eqIntS.calls k _ _ t126 _ _ t113 t144 _ ?side1 ?side2 ?side3 ?side4 A62.out).mono ?_); (case side1 => repeat (first | exact (Kd.RR_reads' HO128.out).2.2 | (with_reducible refine Kd.C_alloc ?_ _) | (with_reducible refine Kd.C_drewN ?_ _) | (with_reducible refine Kd.C_drew ?_))); (case side2 => exact (Kd.RR_reads' HO128.out).2.1); (case side3 => repeat (first | exact (Kd.RR_reads' HO115.out).2.2 | (with_reducible refine Kd.C_alloc ?_ _) | (with_reducible refine Kd.C_drewN ?_ _) | (with_reducible refine Kd.C_drew ?_))); (case side4 => exact (Kd.RR_reads' HO115.out).2.1); rintro e w' ⟨rfl, ⟨nd, rfl⟩⟩))
                go_meet
                case rel => exact ⟨_, (!t144), (by first | rfl | (simp; done) | (simp [*]; done) | (simp only [i64_w, i32_w]; done) | (simp [*, i64_w, i32_w]; done)), H', ⟨by first | omega | exact Nat.le_refl _⟩, ⟨by (with_reducible repeat (first | apply Kd.RR_alloc | apply Kd.RR_drewN | apply Kd.RR_drew)); exact Kd.RR_mono HO115.out (fun _ hk => ⟨hk.2.2.1, hk.2.1⟩)⟩, ⟨by (with_reducible repeat (first | apply Kd.RR_alloc | apply Kd.RR_drewN | apply Kd.RR_drew)); exact Kd.RR_mono HO128.out (fun _ hk => ⟨hk.2.1, hk.2.2.1⟩)⟩, ⟨by (with_reducible repeat (first | apply Kd.S_alloc | apply Kd.S_drewN | apply Kd.S_drew)); exact Kd.S_mono HO121.out (fun _ hk => ⟨hk.2.2.1, ⟨hk.2.2.2.2.1, hk.2.2.2.1⟩⟩)⟩, ⟨by (with_reducible repeat (first | apply Kd.RR_alloc | apply Kd.RR_drewN | apply Kd.RR_drew)); exact Kd.RR_mono HO124.out (fun _ hk => ⟨hk.2.1, hk.2.2.1⟩)⟩, ⟨by (with_reducible repeat (first | refine blk_drewN ?_ _ | refine blk_drew ?_ | refine blk_alloc ?_ _)); exact BK101.out⟩, ⟨by (with_reducible repeat (first | refine blk_drewN ?_ _ | refine blk_drew ?_ | refine blk_alloc ?_ _)); exact BK125.out⟩, ⟨by repeat (first | (with_reducible first | exact HB.out | apply below_alloc | apply pw_below_drewN | apply below_drew1 | refine below_set ?_ GE101.out | refine below_set ?_ GE125.out) | exact HB.out)⟩⟩
            case rest =>
              clear HC27
              try clear c1
              try clear c2
              try clear p2
              try clear c4
              try clear c4b0
              try clear c6
              try clear c7
              try clear c7b0
              try clear c8
              try clear c15
              try clear c18
              try clear c21
              try clear c22
              try clear c24
              try clear c43
              try clear c44
              try clear c45
              try clear c46
              try clear c47
              try clear c48
              try clear c49
              try clear c61
              try clear c61b0
              try clear hcz29_0
              try clear hcz29_1
              try clear hcz39_0
              try clear hcz39_1
              try clear hcz44_0
              try clear hcz44_1
              try clear hcz59_0
              try clear hcz59_1
              try clear hcz9_0
              try clear hcz9_1
              try clear hfz29_0
              try clear hfz29_1
              try clear hfz39_0
              try clear hfz39_1
              try clear hfz44_0
              try clear hfz44_1
              try clear hfz59_0
              try clear hfz59_1
              try clear hfz9_0
              try clear hfz9_1
              obtain ⟨kq, x63_26, rfl, HA, HJ26, HO_6, HO_9, HO_126000, HO_126001, BK101, BK125, HB⟩ := hcut
              cases kq with
              | zero => exact absurd HA.out (by simp [laws_FnExactGlobalMissed.j0])
              | succ kj26 =>
                have H := HA.out
                clear HA
                simp only [laws_FnExactGlobalMissed.j0] at H
                by_cases c63 : x63_26 = true
                · subst c63
                  have H1 : (some false) = some true := by rw [if_pos rfl] at H; exact H
                  clear H
                  have H := H1
                  clear H1
                  exact absurd H (by simp)
                · replace c63 := Bool.eq_false_iff.mpr c63
                  subst c63
                  have H1 : ((laws_markIntS.f kj26 t126 1).bind fun bt145 => ((laws_heldIntS.f kj26 bt145.2 1).bind fun t147 => (if t147 < 0 then (some false) else (if t147 = bt145.1 then ((laws_toJobS.f kj26 l0).bind fun t148 => ((laws_toGlobalRun.f kj26 l1_0 l1_1).bind fun bt151 => ((impl_GlobalMissed.f t148 bt151.1 bt151.2).bind fun t157 => ((laws_eqIntS.f kj26 t157 t113).bind fun t160 => (if t160 = true then ((laws_heldIntS.f kj26 bt145.2 1).bind fun t161 => (if t161 < 0 then (some false) else (if t161 = bt145.1 then (some true) else (some false)))) else (some false)))))) else (some false))))) = some true := by rw [if_neg (show ¬ (false = true) by decide)] at H; exact H
                  clear H
                  have H := H1
                  clear H1
                  replace H := Option.bind_eq_some_iff.mp H
                  obtain ⟨⟨t145, t146⟩, A640, H⟩ := H
                  replace H : ((laws_heldIntS.f kj26 t146 1).bind fun t147 => (if t147 < 0 then (some false) else (if t147 = t145 then ((laws_toJobS.f kj26 l0).bind fun t148 => ((laws_toGlobalRun.f kj26 l1_0 l1_1).bind fun bt151 => ((impl_GlobalMissed.f t148 bt151.1 bt151.2).bind fun t157 => ((laws_eqIntS.f kj26 t157 t113).bind fun t160 => (if t160 = true then ((laws_heldIntS.f kj26 t146 1).bind fun t161 => (if t161 < 0 then (some false) else (if t161 = t145 then (some true) else (some false)))) else (some false)))))) else (some false)))) = some true := H
                  have A64 := Aside0.mk A640
                  clear A640
                  replace H := Option.bind_eq_some_iff.mp H
                  obtain ⟨t147, A650, H⟩ := H
                  replace H : (if t147 < 0 then (some false) else (if t147 = t145 then ((laws_toJobS.f kj26 l0).bind fun t148 => ((laws_toGlobalRun.f kj26 l1_0 l1_1).bind fun bt151 => ((impl_GlobalMissed.f t148 bt151.1 bt151.2).bind fun t157 => ((laws_eqIntS.f kj26 t157 t113).bind fun t160 => (if t160 = true then ((laws_heldIntS.f kj26 t146 1).bind fun t161 => (if t161 < 0 then (some false) else (if t161 = t145 then (some true) else (some false)))) else (some false)))))) else (some false))) = some true := H
                  have A65 := Aside0.mk A650
                  clear A650
                  by_cases c66 : t147 < 0
                  · rw [if_pos c66] at H
                    have c66b0 : decide (t147 < 0) = true := decide_eq_true c66
                    clear c66
                    exact absurd H (by simp)
                  · rw [if_neg c66] at H
                    have c66b0 : decide (t147 < 0) = false := decide_eq_false c66
                    clear c66
                    by_cases c68 : t147 = t145
                    · rw [if_pos c68] at H
                      have c68b0 : (t147 == t145) = true := beq_iff_eq.mpr c68
                      have c68b1 : (t147 != t145) = false := bne_eq_false_iff_eq.mpr c68
                      clear c68
                      replace H := Option.bind_eq_some_iff.mp H
                      obtain ⟨t148, A690, H⟩ := H
                      replace H : ((laws_toGlobalRun.f kj26 l1_0 l1_1).bind fun bt151 => ((impl_GlobalMissed.f t148 bt151.1 bt151.2).bind fun t157 => ((laws_eqIntS.f kj26 t157 t113).bind fun t160 => (if t160 = true then ((laws_heldIntS.f kj26 t146 1).bind fun t161 => (if t161 < 0 then (some false) else (if t161 = t145 then (some true) else (some false)))) else (some false))))) = some true := H
                      have A69 := Aside0.mk A690
                      clear A690
                      replace H := Option.bind_eq_some_iff.mp H
                      obtain ⟨⟨t151, t154⟩, A700, H⟩ := H
                      replace H : ((impl_GlobalMissed.f t148 t151 t154).bind fun t157 => ((laws_eqIntS.f kj26 t157 t113).bind fun t160 => (if t160 = true then ((laws_heldIntS.f kj26 t146 1).bind fun t161 => (if t161 < 0 then (some false) else (if t161 = t145 then (some true) else (some false)))) else (some false)))) = some true := H
                      have A70 := Aside0.mk A700
                      clear A700
                      replace H := Option.bind_eq_some_iff.mp H
                      obtain ⟨t157, A710, H⟩ := H
                      replace H : ((laws_eqIntS.f kj26 t157 t113).bind fun t160 => (if t160 = true then ((laws_heldIntS.f kj26 t146 1).bind fun t161 => (if t161 < 0 then (some false) else (if t161 = t145 then (some true) else (some false)))) else (some false))) = some true := H
                      have A71 := Aside0.mk A710
                      clear A710
                      replace H := Option.bind_eq_some_iff.mp H
                      obtain ⟨t160, A720, H⟩ := H
                      replace H : (if t160 = true then ((laws_heldIntS.f kj26 t146 1).bind fun t161 => (if t161 < 0 then (some false) else (if t161 = t145 then (some true) else (some false)))) else (some false)) = some true := H
                      have A72 := Aside0.mk A720
                      clear A720
                      by_cases c73 : t160 = true
                      · subst c73
                        have H1 : ((laws_heldIntS.f kj26 t146 1).bind fun t161 => (if t161 < 0 then (some false) else (if t161 = t145 then (some true) else (some false)))) = some true := by rw [if_pos rfl] at H; exact H
                        clear H
                        have H := H1
                        clear H1
                        replace H := Option.bind_eq_some_iff.mp H
                        obtain ⟨t161, A740, H⟩ := H
                        replace H : (if t161 < 0 then (some false) else (if t161 = t145 then (some true) else (some false))) = some true := H
                        have A74 := Aside0.mk A740
                        clear A740
                        by_cases c75 : t161 < 0
                        · rw [if_pos c75] at H
                          have c75b0 : decide (t161 < 0) = true := decide_eq_true c75
                          clear c75
                          exact absurd H (by simp)
                        · rw [if_neg c75] at H
                          have c75b0 : decide (t161 < 0) = false := decide_eq_false c75
                          clear c75
                          by_cases c85 : t161 = t145
                          · rw [if_pos c85] at H
                            have c85b0 : (t161 == t145) = true := beq_iff_eq.mpr c85
                            have c85b1 : (t161 != t145) = false := bne_eq_false_iff_eq.mpr c85
                            clear c85
                            try (obtain rfl := Option.some.inj H)
                            try go_wp2_with (first | ((with_reducible refine gate_callee (f := 26) rfl ?_); refine goesL_ (some 66) rfl rfl Try.func26 (by kernel_rfl) rfl #[.slice Ao48 t126.length co48, .int .i64 1] rfl (by (try simp only [List.map_toArray, List.map_cons, List.map_nil]); first | done | rfl | (simp only [List.length_drop, List.length_take]; rfl)) ?_; (with_reducible refine (laws_markIntS.callsRR kj26 (fun k_ => some k_ = (.slice Ao48 t126.length co48 : Value).ownBlock) (.slice Ao48 t126.length co48) t126 1 t145 t146 w _ ?side1 ?side2 A64.out).mono ?_); (case side1 => repeat (first | (with_reducible first | exact HB.out | apply below_alloc | apply pw_below_drewN | apply below_drew1 | refine below_set ?_ GE101.out | refine below_set ?_ GE125.out) | exact HB.out)); (case side2 => exact Kd.RR_tight rfl HO_9.out); rintro e w86 ⟨rfl, hy0, hb, hkp⟩; refine ⟨_, rfl, ?_⟩; have n0_ := Aside0.mk (Kd.RR_mono (ok' := fun k_ => some k_ ≠ (.slice Ao48 t126.length co48 : Value).ownBlock ∧ some k_ ≠ (.slice none 0 0 : Value).ownBlock) (Kd.RR_keptB (HO_6.out) hkp (fun k_ hk_ hs_ => (hk_.1) hs_)) (fun k_ hk_ => ⟨hk_.1.1, hk_.1.2⟩)); have n1_ := Aside0.mk (Kd.RR_reok rfl hy0 (fun k_ e_ => Kd.RR_ok HO_9.out k_ e_)); have n2_ := Aside0.mk (Kd.S_mono (ok' := fun k_ => some k_ ≠ (.slice Ao49 t113.length co49 : Value).ownBlock ∧ some k_ ≠ (.slice Ao48 t126.length co48 : Value).ownBlock ∧ some k_ ≠ (.slice none 0 0 : Value).ownBlock) (Kd.S_keptB (HO_126000.out) hkp (fun k_ hk_ hs_ => (hk_.2.1) hs_)) (fun k_ hk_ => ⟨hk_.1.1, hk_.1.2.1, hk_.1.2.2⟩)); have n3_ := Aside0.mk (Kd.RR_mono (ok' := fun k_ => some k_ ≠ (.slice Ao49 t113.length co49 : Value).ownBlock ∧ some k_ ≠ (.slice Ao48 t126.length co48 : Value).ownBlock) (Kd.RR_keptB (HO_126001.out) hkp (fun k_ hk_ hs_ => (hk_.2) hs_)) (fun k_ hk_ => ⟨hk_.1.1, hk_.1.2⟩)); have n4_ := Aside0.mk (blk_kept (by (with_reducible repeat (first | refine blk_drewN ?_ _ | refine blk_drew ?_ | refine blk_alloc ?_ _)); exact BK101.out) hkp (fun hs_ => (fun e_ => (Kd.RR_ne HO_9.out BK101.out (by decide)) e_) hs_)); have n5_ := Aside0.mk (blk_kept (by (with_reducible repeat (first | refine blk_drewN ?_ _ | refine blk_drew ?_ | refine blk_alloc ?_ _)); exact BK125.out) hkp (fun hs_ => (fun e_ => (Kd.RR_ne HO_9.out BK125.out (by decide)) e_) hs_)); have n6_ := Aside0.mk (hb); clear HO_6; clear HO_9; clear HO_126000; clear HO_126001; clear BK101; clear BK125; clear HB; have HO_6 := n0_; have HO_9 := n1_; have HO_126000 := n2_; have HO_126001 := n3_; have BK101 := n4_; have BK125 := n5_; have HB := n6_; clear n0_ n1_ n2_ n3_ n4_ n5_ n6_; (try clear hb); (try clear hkp); (try clear hy0)) | ((with_reducible refine gate_callee (f := 27) rfl ?_); refine goesL_ (some 69) rfl rfl Try.func27 (by kernel_rfl) rfl #[.slice Ao48 t146.length co48, .int .i64 1] rfl (by (try simp only [List.map_toArray, List.map_cons, List.map_nil]); first | done | (rw [show t146.length = t126.length from (Kd.RR_reads' HO_9.out).1.symm] <;> rfl) | rfl | (simp only [List.length_drop, List.length_take]; rfl)) ?_; (with_reducible refine (laws_heldIntS.calls kj26 _ _ t146 1 t147 _ ?side1 ?side2 A65.out).mono ?_); (case side1 => repeat (first | exact (Kd.RR_reads' HO_9.out).2.2 | (with_reducible refine Kd.C_alloc ?_ _) | (with_reducible refine Kd.C_drewN ?_ _) | (with_reducible refine Kd.C_drew ?_))); (case side2 => rw [show t146.length = t126.length from (Kd.RR_reads' HO_9.out).1.symm]; exact (Kd.RR_reads' HO_9.out).2.1); rintro e w' ⟨rfl, ⟨nd, rfl⟩⟩; refine ⟨_, rfl, ?_⟩))
                            (try (rw [drewN_self w86]; generalize hq_ : World.drewN w86 _ = w86; have n0_ : Aside0 (Kd.S (Kd.slice 3 (Kd.int .i64)) 23 w86 w.heap.size (fun k_ => some k_ ≠ (.slice none 0 0 : Value).ownBlock ∧ some k_ ≠ (.slice Ao49 t113.length co49 : Value).ownBlock ∧ some k_ ≠ (.slice Ao48 t126.length co48 : Value).ownBlock) (.slice none 0 0) []) := ⟨by rw [← hq_]; exact (by (with_reducible repeat (first | apply Kd.S_alloc | apply Kd.S_drewN | apply Kd.S_drew)); exact Kd.S_mono HO_126000.out (fun _ hk => ⟨hk.2.2, ⟨hk.1, hk.2.1⟩⟩))⟩; have n1_ : Aside0 (Kd.RR (Kd.int .i64) 3 w86 w.heap.size (fun k_ => some k_ ≠ (.slice Ao49 t113.length co49 : Value).ownBlock ∧ some k_ ≠ (.slice Ao48 t126.length co48 : Value).ownBlock) (.slice none 0 0) []) := ⟨by rw [← hq_]; exact (by (with_reducible repeat (first | apply Kd.RR_alloc | apply Kd.RR_drewN | apply Kd.RR_drew)); exact HO_126001.out)⟩; have n2_ : Aside0 (Kd.RR (Kd.int .i64) 3 w86 w.heap.size (fun k_ => some k_ ≠ (.slice none 0 0 : Value).ownBlock ∧ some k_ ≠ (.slice Ao48 t126.length co48 : Value).ownBlock) (.slice Ao49 t113.length co49) t113) := ⟨by rw [← hq_]; exact (by (with_reducible repeat (first | apply Kd.RR_alloc | apply Kd.RR_drewN | apply Kd.RR_drew)); exact Kd.RR_mono HO_6.out (fun _ hk => ⟨hk.2, hk.1⟩))⟩; have n3_ : Aside0 (Kd.RR (Kd.int .i64) 3 w86 w.heap.size (fun k_ => some k_ ≠ (.slice none 0 0 : Value).ownBlock ∧ some k_ ≠ (.slice Ao49 t113.length co49 : Value).ownBlock) (.slice Ao48 t126.length co48) t146) := ⟨by rw [← hq_]; exact (by (with_reducible repeat (first | apply Kd.RR_alloc | apply Kd.RR_drewN | apply Kd.RR_drew)); exact Kd.RR_mono HO_9.out (fun _ hk => ⟨hk.2, hk.1⟩))⟩; have n4_ : Aside0 (w86.heap[gb101]? = some (.cells #[.slice A1_0 l1_0.length c1_0, .slice A1_1 l1_1.length c1_1] 62 (0, 0))) := ⟨by rw [← hq_]; exact (by (with_reducible repeat (first | refine blk_drewN ?_ _ | refine blk_drew ?_ | refine blk_alloc ?_ _)); exact BK101.out)⟩; have n5_ : Aside0 (w86.heap[gb125]? = some (.cells #[.slice Ao42 t119.length co42, .slice Ao45 t122.length co45] 65 (0, 0))) := ⟨by rw [← hq_]; exact (by (with_reducible repeat (first | refine blk_drewN ?_ _ | refine blk_drew ?_ | refine blk_alloc ?_ _)); exact BK125.out)⟩; have n6_ : Aside0 (Below w.heap.size w w86) := ⟨by rw [← hq_]; exact (by repeat (first | (with_reducible first | exact HB.out | apply below_alloc | apply pw_below_drewN | apply below_drew1 | refine below_set ?_ GE101.out | refine below_set ?_ GE125.out) | exact HB.out))⟩; clear HO_126000 HO_126001 HO_6 HO_9 BK101 BK125 HB hq_; have HO_126000 := n0_; have HO_126001 := n1_; have HO_6 := n2_; have HO_9 := n3_; have BK101 := n4_; have BK125 := n5_; have HB := n6_; clear n0_ n1_ n2_ n3_ n4_ n5_ n6_))
                            have n0_ := Aside0.mk (Kd.RR_drew HO_6.out)
                            have n1_ := Aside0.mk (Kd.RR_drew HO_9.out)
                            have n2_ := Aside0.mk (Kd.S_drew HO_126000.out)
                            have n3_ := Aside0.mk (Kd.RR_drew HO_126001.out)
                            have n4_ := Aside0.mk (blk_drew BK101.out)
                            have n5_ := Aside0.mk (blk_drew BK125.out)
                            have n6_ := Aside0.mk (below_drew1 HB.out)
                            clear HO_6
                            clear HO_9
                            clear HO_126000
                            clear HO_126001
                            clear BK101
                            clear BK125
                            clear HB
                            have HO_6 := n0_
                            have HO_9 := n1_
                            have HO_126000 := n2_
                            have HO_126001 := n3_
                            have BK101 := n4_
                            have BK125 := n5_
                            have HB := n6_
                            clear n0_ n1_ n2_ n3_ n4_ n5_ n6_
                            refine start_ (n := 6) (S := fun w' => w'.cell? ⟨gb101, 0, none⟩ = some (.slice A1_0 l1_0.length c1_0) ∧ w'.cell? ⟨gb101, 1, none⟩ = some (.slice A1_1 l1_1.length c1_1)) (ds := []) #[false, false, false, false, false, false] (by kernel_rfl) rfl rfl ⟨(blk_cell BK101.out 0).trans rfl, (blk_cell BK101.out 1).trans rfl⟩ (fun hHeld => ?_)
                            generalize w86.drew = w87 at HO_6 HO_9 HO_126000 HO_126001 BK101 BK125 HB hHeld ⊢
                            refine pure_ (i := 0) (N := some 75) (v := ?_) (a' := ?_) #[true, false, false, false, false, false] rfl rfl (by kernel_rfl) (fun _ _ _ h => h) (Or.inl ⟨by rfl, ?_⟩) ?_ ?_
                            rotate_left
                            · intro w'
                              go_simp
                              with_reducible rfl
                            rotate_left
                            · simp only [Act.put, List.setIfInBounds_toArray, List.set_cons_zero, List.set_cons_succ, i64_w, i32_w]
                              rfl
                            refine take_ (i := 2) (N := some 77) (v := ?_) (a' := ?_) #[true, false, true, false, false, false] rfl rfl (by kernel_rfl) (fun _ _ _ h => h) (Or.inl ⟨by rfl, ?_⟩) hHeld ?_ ?_
                            rotate_left
                            · rintro w' ⟨s0, s1⟩
                              go_simp
                              with_reducible rfl
                            rotate_left
                            · simp only [Act.put, List.setIfInBounds_toArray, List.set_cons_zero, List.set_cons_succ, i64_w, i32_w]
                              rfl
                            refine one_ (i := 1) (N := some 76) #[true, true, true, false, false, false] rfl rfl (by kernel_rfl) (by decide) (fun K hK => ?_)
                            refine goes_ Try.func18 (by kernel_rfl) rfl #[.slice A0 l0.length c0] (by rfl) rfl rfl (by (try simp only [List.map_toArray, List.map_cons, List.map_nil]); first | done | rfl | (simp only [List.length_drop, List.length_take]; rfl)) ?_
                            with_reducible refine (laws_toJobS.callsRR kj26 _ _ l0 t148 _ ?side1 ?side2 A69.out).mono ?_
                            (case side1 => repeat (first | exact (Kd.C_below HR0.out HB.out) | (with_reducible refine Kd.C_alloc ?_ _) | (with_reducible refine Kd.C_drewN ?_ _) | (with_reducible refine Kd.C_drew ?_)))
                            (case side2 => exact HC0.out)
                            rintro e w88 ⟨v149, rfl, ho0, hb⟩
                            refine ⟨_, rfl, ?_⟩
                            have n0_ := Aside0.mk (Kd.RR_below (by (with_reducible repeat (first | apply Kd.RR_alloc | apply Kd.RR_drewN | apply Kd.RR_drew)); exact HO_6.out) hb)
                            have n1_ := Aside0.mk (Kd.RR_below (by (with_reducible repeat (first | apply Kd.RR_alloc | apply Kd.RR_drewN | apply Kd.RR_drew)); exact HO_9.out) hb)
                            have n2_ := Aside0.mk (Kd.S_below (by (with_reducible repeat (first | apply Kd.S_alloc | apply Kd.S_drewN | apply Kd.S_drew)); exact HO_126000.out) hb)
                            have n3_ := Aside0.mk (Kd.RR_below (by (with_reducible repeat (first | apply Kd.RR_alloc | apply Kd.RR_drewN | apply Kd.RR_drew)); exact HO_126001.out) hb)
                            have n4_ := Aside0.mk (Kd.RR_lower ho0 (below_size (by repeat (first | (with_reducible first | exact HB.out | apply below_alloc | apply pw_below_drewN | apply below_drew1 | refine below_set ?_ GE101.out | refine below_set ?_ GE125.out) | exact HB.out))))
                            have n5_ := Aside0.mk (blk_below (g := gb101) (o := .cells #[.slice A1_0 l1_0.length c1_0, .slice A1_1 l1_1.length c1_1] 62 (0, 0)) (by (with_reducible repeat (first | refine blk_drewN ?_ _ | refine blk_drew ?_ | refine blk_alloc ?_ _)); exact BK101.out) hb)
                            have n6_ := Aside0.mk (blk_below (g := gb125) (o := .cells #[.slice Ao42 t119.length co42, .slice Ao45 t122.length co45] 65 (0, 0)) (by (with_reducible repeat (first | refine blk_drewN ?_ _ | refine blk_drew ?_ | refine blk_alloc ?_ _)); exact BK125.out) hb)
                            have n7_ := Aside0.mk (below_step (by repeat (first | (with_reducible first | exact HB.out | apply below_alloc | apply pw_below_drewN | apply below_drew1 | refine below_set ?_ GE101.out | refine below_set ?_ GE125.out) | exact HB.out)) hb)
                            clear HO_6
                            clear HO_9
                            clear HO_126000
                            clear HO_126001
                            clear BK101
                            clear BK125
                            clear HB
                            have HO_6 := n0_
                            have HO_9 := n1_
                            have HO_126000 := n2_
                            have HO_126001 := n3_
                            have HO150 := n4_
                            have BK101 := n5_
                            have BK125 := n6_
                            have HB := n7_
                            clear n0_ n1_ n2_ n3_ n4_ n5_ n6_ n7_
                            (try clear hb)
                            (try clear hb2)
                            (try clear hk)
                            (try clear hi)
                            (try clear ho0)
                            refine hK.out _ _ ⟨(blk_cell BK101.out 0).trans rfl, (blk_cell BK101.out 1).trans rfl⟩ (fun hHeld => ?_)
                            clear hK K
                            refine norm_ (a' := ?_) ?_ ?_
                            rotate_left
                            · show Act.put _ (some 76) _ = _
                              simp only [Act.put, List.setIfInBounds_toArray, List.set_cons_zero, List.set_cons_succ, i64_w, i32_w]
                              rfl
                            refine one_ (i := 3) (N := some 78) #[true, true, true, true, false, false] rfl rfl (by kernel_rfl) (by decide) (fun K hK => ?_)
                            refine goes_ Try.func46 (by kernel_rfl) rfl #[.agg #[.slice A1_0 l1_0.length c1_0, .slice A1_1 l1_1.length c1_1]] (by rfl) rfl rfl (by (try simp only [List.map_toArray, List.map_cons, List.map_nil]); first | done | rfl | (simp only [List.length_drop, List.length_take]; rfl)) ?_
                            with_reducible refine (laws_toGlobalRun.callsRR kj26 _ _ l1_0 _ _ l1_1 t151 t154 _ ?side1 ?side2 ?side3 ?side4 A70.out).mono ?_
                            (case side1 => repeat (first | exact (Kd.C_below HR1_0.out HB.out) | (with_reducible refine Kd.C_alloc ?_ _) | (with_reducible refine Kd.C_drewN ?_ _) | (with_reducible refine Kd.C_drew ?_)))
                            (case side2 => exact HC1_0.out)
                            (case side3 => repeat (first | exact (Kd.C_below HR1_1.out HB.out) | (with_reducible refine Kd.C_alloc ?_ _) | (with_reducible refine Kd.C_drewN ?_ _) | (with_reducible refine Kd.C_drew ?_)))
                            (case side4 => exact HC1_1.out)
                            rintro e w89 ⟨v152, v155, rfl, ho0, ho1, hb⟩
                            refine ⟨_, rfl, ?_⟩
                            have n0_ := Aside0.mk (Kd.RR_elder' (by (with_reducible repeat (first | apply Kd.RR_alloc | apply Kd.RR_drewN | apply Kd.RR_drew)); exact HO_6.out) (Kd.RR_base ho1) hb)
                            have n1_ := Aside0.mk (Kd.RR_elder' (by (with_reducible repeat (first | apply Kd.RR_alloc | apply Kd.RR_drewN | apply Kd.RR_drew)); exact HO_9.out) (Kd.RR_base ho1) hb)
                            have n2_ := Aside0.mk (Kd.S_mono (Kd.S_told (Kd.S_told (Kd.S_old (by (with_reducible repeat (first | apply Kd.S_alloc | apply Kd.S_drewN | apply Kd.S_drew)); exact HO_126000.out) hb) (Kd.S_base ho0)) (Kd.RR_base ho1)) (fun _ h_ => h_.1))
                            have n3_ := Aside0.mk (Kd.RR_elder' (by (with_reducible repeat (first | apply Kd.RR_alloc | apply Kd.RR_drewN | apply Kd.RR_drew)); exact HO_126001.out) (Kd.RR_base ho1) hb)
                            have n4_ := Aside0.mk (Kd.RR_below (by (with_reducible repeat (first | apply Kd.RR_alloc | apply Kd.RR_drewN | apply Kd.RR_drew)); exact HO150.out) hb)
                            have n5_ := Aside0.mk (Kd.S_lower (Kd.S_new' (Kd.S_new' (Kd.S_new' (Kd.S_new' ho0 (Kd.RR_lt (by (with_reducible repeat (first | apply Kd.RR_alloc | apply Kd.RR_drewN | apply Kd.RR_drew)); exact HO_6.out))) (Kd.RR_lt (by (with_reducible repeat (first | apply Kd.RR_alloc | apply Kd.RR_drewN | apply Kd.RR_drew)); exact HO_9.out))) (Kd.S_lt (by (with_reducible repeat (first | apply Kd.S_alloc | apply Kd.S_drewN | apply Kd.S_drew)); exact HO_126000.out))) (Kd.RR_lt (by (with_reducible repeat (first | apply Kd.RR_alloc | apply Kd.RR_drewN | apply Kd.RR_drew)); exact HO_126001.out))) (below_size (by repeat (first | (with_reducible first | exact HB.out | apply below_alloc | apply pw_below_drewN | apply below_drew1 | refine below_set ?_ GE101.out | refine below_set ?_ GE125.out) | exact HB.out))))
                            have n6_ := Aside0.mk (Kd.RR_lower (Kd.RR_new' (Kd.RR_new' (Kd.RR_new' ho1 (Kd.RR_lt (by (with_reducible repeat (first | apply Kd.RR_alloc | apply Kd.RR_drewN | apply Kd.RR_drew)); exact HO_6.out))) (Kd.RR_lt (by (with_reducible repeat (first | apply Kd.RR_alloc | apply Kd.RR_drewN | apply Kd.RR_drew)); exact HO_9.out))) (Kd.RR_lt (by (with_reducible repeat (first | apply Kd.RR_alloc | apply Kd.RR_drewN | apply Kd.RR_drew)); exact HO_126001.out))) (below_size (by repeat (first | (with_reducible first | exact HB.out | apply below_alloc | apply pw_below_drewN | apply below_drew1 | refine below_set ?_ GE101.out | refine below_set ?_ GE125.out) | exact HB.out))))
                            have n7_ := Aside0.mk (blk_below (g := gb101) (o := .cells #[.slice A1_0 l1_0.length c1_0, .slice A1_1 l1_1.length c1_1] 62 (0, 0)) (by (with_reducible repeat (first | refine blk_drewN ?_ _ | refine blk_drew ?_ | refine blk_alloc ?_ _)); exact BK101.out) hb)
                            have n8_ := Aside0.mk (blk_below (g := gb125) (o := .cells #[.slice Ao42 t119.length co42, .slice Ao45 t122.length co45] 65 (0, 0)) (by (with_reducible repeat (first | refine blk_drewN ?_ _ | refine blk_drew ?_ | refine blk_alloc ?_ _)); exact BK125.out) hb)
                            have n9_ := Aside0.mk (below_step (by repeat (first | (with_reducible first | exact HB.out | apply below_alloc | apply pw_below_drewN | apply below_drew1 | refine below_set ?_ GE101.out | refine below_set ?_ GE125.out) | exact HB.out)) hb)
                            clear HO_6
                            clear HO_9
                            clear HO_126000
                            clear HO_126001
                            clear HO150
                            clear BK101
                            clear BK125
                            clear HB
                            have HO_6 := n0_
                            have HO_9 := n1_
                            have HO_126000 := n2_
                            have HO_126001 := n3_
                            have HO150 := n4_
                            have HO153 := n5_
                            have HO156 := n6_
                            have BK101 := n7_
                            have BK125 := n8_
                            have HB := n9_
                            clear n0_ n1_ n2_ n3_ n4_ n5_ n6_ n7_ n8_ n9_
                            (try clear hb)
                            (try clear hb2)
                            (try clear hk)
                            (try clear hi)
                            (try clear ho0)
                            (try clear ho1)
                            obtain ⟨Ao90, co90, eo90⟩ := Kd.RR_slice HO150.out
                            (first | subst eo90 | (injection eo90 with f1_ f2_ f3_; have f4_ := f1_.symm; have f5_ := f3_.symm; clear f1_ f2_ f3_; subst f4_; subst f5_))
                            obtain ⟨Ao91, co91, eo91⟩ := Kd.S_slice HO153.out
                            (first | subst eo91 | (injection eo91 with f1_ f2_ f3_; have f4_ := f1_.symm; have f5_ := f3_.symm; clear f1_ f2_ f3_; subst f4_; subst f5_))
                            obtain ⟨Ao92, co92, eo92⟩ := Kd.RR_slice HO156.out
                            (first | subst eo92 | (injection eo92 with f1_ f2_ f3_; have f4_ := f1_.symm; have f5_ := f3_.symm; clear f1_ f2_ f3_; subst f4_; subst f5_))
                            refine hK.out _ _ ⟨(blk_cell BK101.out 0).trans rfl, (blk_cell BK101.out 1).trans rfl⟩ (fun hHeld => ?_)
                            clear hK K
                            refine norm_ (a' := ?_) ?_ ?_
                            rotate_left
                            · show Act.put _ (some 78) _ = _
                              simp only [Act.put, List.setIfInBounds_toArray, List.set_cons_zero, List.set_cons_succ, i64_w, i32_w]
                              rfl
                            refine one_ (i := 4) (N := some 79) #[true, true, true, true, true, false] rfl rfl (by kernel_rfl) (by decide) (fun K hK => ?_)
                            refine goes_ Try.func47 (by kernel_rfl) rfl #[.slice Ao90 t148.length co90, .agg #[.slice Ao91 t151.length co91, .slice Ao92 t154.length co92]] (by rfl) rfl rfl (by (try simp only [List.map_toArray, List.map_cons, List.map_nil]); first | done | rfl | (simp only [List.length_drop, List.length_take]; rfl)) ?_
                            with_reducible refine (impl_GlobalMissed.calls _ _ t148 _ _ t151 _ _ t154 t157 _ ?side1 ?side2 ?side3 ?side4 ?side5 ?side6 A71.out).mono ?_
                            (case side1 => repeat (first | exact (Kd.RR_reads' HO150.out).2.2 | (with_reducible refine Kd.C_alloc ?_ _) | (with_reducible refine Kd.C_drewN ?_ _) | (with_reducible refine Kd.C_drew ?_)))
                            (case side2 => exact (Kd.RR_reads' HO150.out).2.1)
                            (case side3 => repeat (first | exact (Kd.S_reads' HO153.out).2.2 | (with_reducible refine Kd.C_alloc ?_ _) | (with_reducible refine Kd.C_drewN ?_ _) | (with_reducible refine Kd.C_drew ?_)))
                            (case side4 => exact (Kd.S_reads' HO153.out).2.1)
                            (case side5 => repeat (first | exact (Kd.RR_reads' HO156.out).2.2 | (with_reducible refine Kd.C_alloc ?_ _) | (with_reducible refine Kd.C_drewN ?_ _) | (with_reducible refine Kd.C_drew ?_)))
                            (case side6 => exact (Kd.RR_reads' HO156.out).2.1)
                            rintro e w93 ⟨v158, rfl, ho0, hb⟩
                            refine ⟨_, rfl, ?_⟩
                            have n0_ := Aside0.mk (Kd.RR_elder' (by (with_reducible repeat (first | apply Kd.RR_alloc | apply Kd.RR_drewN | apply Kd.RR_drew)); exact HO_6.out) (Kd.RR_base ho0) hb)
                            have n1_ := Aside0.mk (Kd.RR_elder' (by (with_reducible repeat (first | apply Kd.RR_alloc | apply Kd.RR_drewN | apply Kd.RR_drew)); exact HO_9.out) (Kd.RR_base ho0) hb)
                            have n2_ := Aside0.mk (Kd.S_elder' (by (with_reducible repeat (first | apply Kd.S_alloc | apply Kd.S_drewN | apply Kd.S_drew)); exact HO_126000.out) (Kd.RR_base ho0) hb)
                            have n3_ := Aside0.mk (Kd.RR_elder' (by (with_reducible repeat (first | apply Kd.RR_alloc | apply Kd.RR_drewN | apply Kd.RR_drew)); exact HO_126001.out) (Kd.RR_base ho0) hb)
                            have n4_ := Aside0.mk (Kd.RR_below (by (with_reducible repeat (first | apply Kd.RR_alloc | apply Kd.RR_drewN | apply Kd.RR_drew)); exact HO150.out) hb)
                            have n5_ := Aside0.mk (Kd.S_elder' (by (with_reducible repeat (first | apply Kd.S_alloc | apply Kd.S_drewN | apply Kd.S_drew)); exact HO153.out) (Kd.RR_base ho0) hb)
                            have n6_ := Aside0.mk (Kd.RR_elder' (by (with_reducible repeat (first | apply Kd.RR_alloc | apply Kd.RR_drewN | apply Kd.RR_drew)); exact HO156.out) (Kd.RR_base ho0) hb)
                            have n7_ := Aside0.mk (Kd.RR_lower (Kd.RR_new' (Kd.RR_new' (Kd.RR_new' (Kd.RR_new' ho0 (Kd.RR_lt (by (with_reducible repeat (first | apply Kd.RR_alloc | apply Kd.RR_drewN | apply Kd.RR_drew)); exact HO_6.out))) (Kd.RR_lt (by (with_reducible repeat (first | apply Kd.RR_alloc | apply Kd.RR_drewN | apply Kd.RR_drew)); exact HO_9.out))) (Kd.RR_lt (by (with_reducible repeat (first | apply Kd.RR_alloc | apply Kd.RR_drewN | apply Kd.RR_drew)); exact HO_126001.out))) (Kd.RR_lt (by (with_reducible repeat (first | apply Kd.RR_alloc | apply Kd.RR_drewN | apply Kd.RR_drew)); exact HO156.out))) (below_size (by repeat (first | (with_reducible first | exact HB.out | apply below_alloc | apply pw_below_drewN | apply below_drew1 | refine below_set ?_ GE101.out | refine below_set ?_ GE125.out) | exact HB.out))))
                            have n8_ := Aside0.mk (blk_below (g := gb101) (o := .cells #[.slice A1_0 l1_0.length c1_0, .slice A1_1 l1_1.length c1_1] 62 (0, 0)) (by (with_reducible repeat (first | refine blk_drewN ?_ _ | refine blk_drew ?_ | refine blk_alloc ?_ _)); exact BK101.out) hb)
                            have n9_ := Aside0.mk (blk_below (g := gb125) (o := .cells #[.slice Ao42 t119.length co42, .slice Ao45 t122.length co45] 65 (0, 0)) (by (with_reducible repeat (first | refine blk_drewN ?_ _ | refine blk_drew ?_ | refine blk_alloc ?_ _)); exact BK125.out) hb)
                            have n10_ := Aside0.mk (below_step (by repeat (first | (with_reducible first | exact HB.out | apply below_alloc | apply pw_below_drewN | apply below_drew1 | refine below_set ?_ GE101.out | refine below_set ?_ GE125.out) | exact HB.out)) hb)
                            clear HO_6
                            clear HO_9
                            clear HO_126000
                            clear HO_126001
                            clear HO150
                            clear HO153
                            clear HO156
                            clear BK101
                            clear BK125
                            clear HB
                            have HO_6 := n0_
                            have HO_9 := n1_
                            have HO_126000 := n2_
                            have HO_126001 := n3_
                            have HO150 := n4_
                            have HO153 := n5_
                            have HO156 := n6_
                            have HO159 := n7_
                            have BK101 := n8_
                            have BK125 := n9_
                            have HB := n10_
                            clear n0_ n1_ n2_ n3_ n4_ n5_ n6_ n7_ n8_ n9_ n10_
                            (try clear hb)
                            (try clear hb2)
                            (try clear hk)
                            (try clear hi)
                            (try clear ho0)
                            refine hK.out _ _ ⟨(blk_cell BK101.out 0).trans rfl, (blk_cell BK101.out 1).trans rfl⟩ (fun hHeld => ?_)
                            clear hK K
                            refine norm_ (a' := ?_) ?_ ?_
                            rotate_left
                            · show Act.put _ (some 79) _ = _
                              simp only [Act.put, List.setIfInBounds_toArray, List.set_cons_zero, List.set_cons_succ, i64_w, i32_w]
                              rfl
                            refine pure_ (i := 5) (N := some 13) (v := ?_) (a' := ?_) #[true, true, true, true, true, true] rfl rfl (by kernel_rfl) (fun _ _ _ h => h) (Or.inl ⟨by rfl, ?_⟩) ?_ ?_
                            rotate_left
                            · intro w'
                              go_simp
                              with_reducible rfl
                            rotate_left
                            · simp only [Act.put, List.setIfInBounds_toArray, List.set_cons_zero, List.set_cons_succ, i64_w, i32_w]
                              rfl
                            refine done_ (by kernel_rfl) ?_
                            obtain ⟨Ao94, co94, eo94⟩ := Kd.RR_slice HO159.out
                            subst eo94
                            try go_wp2_with (first | ((with_reducible refine gate_callee (f := 21) rfl ?_); refine goesL_ (some 82) rfl rfl Try.func21 (by kernel_rfl) rfl #[.slice Ao94 t157.length co94, .slice Ao49 t113.length co49] rfl (by (try simp only [List.map_toArray, List.map_cons, List.map_nil]); first | done | rfl | (simp only [List.length_drop, List.length_take]; rfl)) ?_; (with_reducible refine (laws_eqIntS.calls kj26 _ _ t157 _ _ t113 true _ ?side1 ?side2 ?side3 ?side4 A72.out).mono ?_); (case side1 => repeat (first | exact (Kd.RR_reads' HO159.out).2.2 | (with_reducible refine Kd.C_alloc ?_ _) | (with_reducible refine Kd.C_drewN ?_ _) | (with_reducible refine Kd.C_drew ?_))); (case side2 => exact (Kd.RR_reads' HO159.out).2.1); (case side3 => repeat (first | exact (Kd.RR_reads' HO_6.out).2.2 | (with_reducible refine Kd.C_alloc ?_ _) | (with_reducible refine Kd.C_drewN ?_ _) | (with_reducible refine Kd.C_drew ?_))); (case side4 => exact (Kd.RR_reads' HO_6.out).2.1); rintro e w' ⟨rfl, ⟨nd, rfl⟩⟩; refine ⟨_, rfl, ?_⟩) | ((with_reducible refine gate_callee (f := 27) rfl ?_); refine goesL_ (some 86) rfl rfl Try.func27 (by kernel_rfl) rfl #[.slice Ao48 t146.length co48, .int .i64 1] rfl (by (try simp only [List.map_toArray, List.map_cons, List.map_nil]); first | done | (rw [show t146.length = t126.length from (Kd.RR_reads' HO_9.out).1.symm] <;> rfl) | rfl | (simp only [List.length_drop, List.length_take]; rfl)) ?_; (with_reducible refine (laws_heldIntS.calls kj26 _ _ t146 1 t161 _ ?side1 ?side2 A74.out).mono ?_); (case side1 => repeat (first | exact (Kd.RR_reads' HO_9.out).2.2 | (with_reducible refine Kd.C_alloc ?_ _) | (with_reducible refine Kd.C_drewN ?_ _) | (with_reducible refine Kd.C_drew ?_))); (case side2 => rw [show t146.length = t126.length from (Kd.RR_reads' HO_9.out).1.symm]; exact (Kd.RR_reads' HO_9.out).2.1); rintro e w' ⟨rfl, ⟨nd, rfl⟩⟩; refine ⟨_, rfl, ?_⟩))
                            go_ret
                            exact ⟨by first | rfl | (simp [errW_none, errW_some] <;> rfl) | (simp [*, errW_none, errW_some] <;> rfl), by repeat (first | (with_reducible first | exact HB.out | apply below_alloc | apply pw_below_drewN | apply below_drew1 | refine below_set ?_ GE101.out | refine below_set ?_ GE125.out) | exact HB.out)⟩
                          · rw [if_neg c85] at H
                            have c85b0 : (t161 == t145) = false := beq_eq_false_iff_ne.mpr c85
                            have c85b1 : (t161 != t145) = true := bne_iff_ne.mpr c85
                            exact absurd H (by simp)
                      · replace c73 := Bool.eq_false_iff.mpr c73
                        subst c73
                        have H1 : (some false) = some true := by rw [if_neg (show ¬ (false = true) by decide)] at H; exact H
                        clear H
                        have H := H1
                        clear H1
                        exact absurd H (by simp)
                    · rw [if_neg c68] at H
                      have c68b0 : (t147 == t145) = false := beq_eq_false_iff_ne.mpr c68
                      have c68b1 : (t147 != t145) = true := bne_iff_ne.mpr c68
                      exact absurd H (by simp)
          · replace c24 := Bool.eq_false_iff.mpr c24
            subst c24
            have H1 : (some false) = some true := by rw [if_neg (show ¬ (false = true) by decide)] at H; exact H
            clear H
            have H := H1
            clear H1
            exact absurd H (by simp)
        · replace c21 := Bool.eq_false_iff.mpr c21
          subst c21
          have H1 : (some false) = some true := by rw [if_neg (show ¬ (false = true) by decide)] at H; exact H
          clear H
          have H := H1
          clear H1
          exact absurd H (by simp)
      · replace c18 := Bool.eq_false_iff.mpr c18
        subst c18
        have H1 : (some false) = some true := by rw [if_neg (show ¬ (false = true) by decide)] at H; exact H
        clear H
        have H := H1
        clear H1
        exact absurd H (by simp)

end Go.Proofs.Ytfciajbahgjflaa.Print
