/- Functions of the translation as plain Lean functions, and their contracts. No condition. -/
import Derived.Test.YtonifhkplniblaaPB
import Derived.Deep.DeepMust
import Derived.Lib.Hide
import Derived.Test.YtonifhkplniblaaWalk
import Derived.BigQuiet
import Derived.Deep.QuietTactic
import Derived.Lib.LazyBuf
import Derived.Maps.OwnSet
import Derived.Laws.MathBits
import Derived.Test.YtonifhkplniblaaCopy
import Derived.Deep.LoopGhost
import Derived.Deep.RegionHeld3
import Derived.Test.YtonifhkplniblaaWGuard
namespace Go.Proofs.Ytonifhkplniblaa.Print
open Go.RowKit Go.Proofs.YtonifhkplniblaaW.PrintWords Go.Proofs.YtonifhkplniblaaW.PrintLast Go.Proofs.YtonifhkplniblaaW.PrintMore
attribute [local go_sem] max2_int min2_int max_two min_two max_three min_three max_four min_four   -- for this text's walks alone
set_option linter.unusedVariables false
set_option linter.unusedSimpArgs false

/-! ### impl_in: function 105 -/
def impl_in.f (a0 : Int) (a1 : Int) (a2 : Int) : Option (Bool) := if a0 ≥ a1 then (some (decide (a0 ≤ a2))) else (some false)
set_option maxHeartbeats 8000000 in
set_option maxRecDepth 100000 in
theorem impl_in.calls (a0 : Int) (a1 : Int) (a2 : Int) (r : Bool) (w : World) (h : impl_in.f a0 a1 a2 = some r) :
    Calls Try.prog 105 #[.int .i64 a0, .int .i64 a1, .int .i64 a2] w fun e w' => e = .returned (.bool r) ∧ Drawn0 w w' := by
  have H : (if a0 ≥ a1 then (some (decide (a0 ≤ a2))) else (some false)) = some r := h
  clear h
  by_cases c4 : a0 ≥ a1
  · rw [if_pos c4] at H
    have c4b0 : decide (a1 ≤ a0) = true := decide_eq_true c4
    clear c4
    obtain rfl := Option.some.inj H
    go_enter Try.func105, Try.ntmps105
    go_wp2
    go_ret
    exact ⟨by first | rfl | (simp; done) | (simp [*]; done) | (simp only [i64_w, i32_w]; done) | (simp [*, i64_w, i32_w]; done), by repeat (first | exact Drawn0.refl _ | apply Drawn0.step)⟩
  · rw [if_neg c4] at H
    have c4b0 : decide (a1 ≤ a0) = false := decide_eq_false c4
    clear c4
    obtain rfl := Option.some.inj H
    go_enter Try.func105, Try.ntmps105
    go_wp2
    go_ret
    exact ⟨by first | rfl | (simp; done) | (simp [*]; done) | (simp only [i64_w, i32_w]; done) | (simp [*, i64_w, i32_w]; done), by repeat (first | exact Drawn0.refl _ | apply Drawn0.step)⟩



/-! ### impl_release: function 101 -/
def impl_release.f (a0_0 : Int) (a0_1 : Int) (a0_2 : Int) (a0_3 : Int) : Option (Int) := some a0_1
set_option maxHeartbeats 8000000 in
set_option maxRecDepth 100000 in
theorem impl_release.calls (a0_0 : Int) (a0_1 : Int) (a0_2 : Int) (a0_3 : Int) (r : Int) (w : World) (h : impl_release.f a0_0 a0_1 a0_2 a0_3 = some r) :
    Calls Try.prog 101 #[.agg #[.int .i64 a0_0, .int .i64 a0_1, .int .i64 a0_2, .int .i64 a0_3]] w fun e w' => e = .returned (.int .i64 r) ∧ Below w.heap.size w w' := by
  have hu67 := Try.underlying67
  have HB := Aside0.mk (Below.refl w.heap.size w)
  have H : (some a0_1) = some r := h
  clear h
  obtain rfl := Option.some.inj H
  go_enter Try.func101, Try.ntmps101
  go_wp2_with (first | ((with_reducible refine gate_dst (N := 1) rfl ?_); refine box_event ?hg (N := 1) ?hd (cs := #[.int .i64 a0_0, .int .i64 a0_1, .int .i64 a0_2, .int .i64 a0_3]) (t := 67) ?hr ?_; (case hd => rfl); (case hg => rfl); (case hr => first | (go_simp; done) | (go_simp; rfl)); intro gb101 hg w2 hbox hb; have n0_ := Aside0.mk (below_step (by repeat (first | (with_reducible first | exact HB.out | apply below_alloc | apply pw_below_drewN | apply below_drew1) | exact HB.out)) hb); have n1_ := Aside0.mk (hbox); have n2_ := Aside0.mk ((by rw [hg]; exact (below_size (by repeat (first | (with_reducible first | exact HB.out | apply below_alloc | apply pw_below_drewN | apply below_drew1) | exact HB.out))) : w.heap.size ≤ gb101)); have n3_ := Aside0.mk ((by rw [hg]; exact (below_size (by repeat (first | (with_reducible first | exact HB.out | apply below_alloc | apply pw_below_drewN | apply below_drew1) | exact HB.out))) : w.heap.size ≤ gb101)); clear HB; have HB := n0_; have BK101 := n1_; have GW101 := n2_; have GE101 := n3_; clear n0_ n1_ n2_ n3_; clear hb hbox hg; have hcz3_0 : w2.cell? ⟨gb101, 0, none⟩ = some (.int .i64 a0_0) := (blk_cell BK101.out 0).trans rfl; have hcz3_1 : w2.cell? ⟨gb101, 1, none⟩ = some (.int .i64 a0_1) := (blk_cell BK101.out 1).trans rfl; have hcz3_2 : w2.cell? ⟨gb101, 2, none⟩ = some (.int .i64 a0_2) := (blk_cell BK101.out 2).trans rfl; have hcz3_3 : w2.cell? ⟨gb101, 3, none⟩ = some (.int .i64 a0_3) := (blk_cell BK101.out 3).trans rfl; have hfz3_0 := blk_frozen BK101.out 0; have hfz3_1 := blk_frozen BK101.out 1; have hfz3_2 := blk_frozen BK101.out 2; have hfz3_3 := blk_frozen BK101.out 3))
  go_ret
  exact ⟨by first | rfl | (simp [errW_none, errW_some] <;> rfl) | (simp [*, errW_none, errW_some] <;> rfl), by repeat (first | (with_reducible first | exact HB.out | apply below_alloc | apply pw_below_drewN | apply below_drew1 | refine below_set ?_ GE101.out) | exact HB.out)⟩



/-! ### impl_TaskValid: function 153 -/
def impl_TaskValid.f (a0_0 : Int) (a0_1 : Int) (a0_2 : Int) : Option (Bool) := (impl_in.f a0_0 1 8).bind fun t102 => (if t102 = true then ((impl_in.f a0_1 a0_0 a0_2).bind fun t103 => (if t103 = true then (some (decide (a0_2 ≤ 12))) else (some false))) else (some false))
set_option maxHeartbeats 8000000 in
set_option maxRecDepth 100000 in
theorem impl_TaskValid.calls (a0_0 : Int) (a0_1 : Int) (a0_2 : Int) (r : Bool) (w : World) (h : impl_TaskValid.f a0_0 a0_1 a0_2 = some r) :
    Calls Try.prog 153 #[.agg #[.int .i64 a0_0, .int .i64 a0_1, .int .i64 a0_2]] w fun e w' => e = .returned (.bool r) ∧ Below w.heap.size w w' := by
  have hu62 := Try.underlying62
  have HB := Aside0.mk (Below.refl w.heap.size w)
  have H : ((impl_in.f a0_0 1 8).bind fun t102 => (if t102 = true then ((impl_in.f a0_1 a0_0 a0_2).bind fun t103 => (if t103 = true then (some (decide (a0_2 ≤ 12))) else (some false))) else (some false))) = some r := h
  clear h
  replace H := Option.bind_eq_some_iff.mp H
  obtain ⟨t102, A20, H⟩ := H
  replace H : (if t102 = true then ((impl_in.f a0_1 a0_0 a0_2).bind fun t103 => (if t103 = true then (some (decide (a0_2 ≤ 12))) else (some false))) else (some false)) = some r := H
  have A2 := Aside0.mk A20
  clear A20
  by_cases c3 : t102 = true
  · subst c3
    have H1 : ((impl_in.f a0_1 a0_0 a0_2).bind fun t103 => (if t103 = true then (some (decide (a0_2 ≤ 12))) else (some false))) = some r := by rw [if_pos rfl] at H; exact H
    clear H
    have H := H1
    clear H1
    replace H := Option.bind_eq_some_iff.mp H
    obtain ⟨t103, A40, H⟩ := H
    replace H : (if t103 = true then (some (decide (a0_2 ≤ 12))) else (some false)) = some r := H
    have A4 := Aside0.mk A40
    clear A40
    by_cases c5 : t103 = true
    · subst c5
      have H1 : (some (decide (a0_2 ≤ 12))) = some r := by rw [if_pos rfl] at H; exact H
      clear H
      have H := H1
      clear H1
      obtain rfl := Option.some.inj H
      go_enter Try.func153, Try.ntmps153
      go_wp2_with (first | ((with_reducible refine gate_dst (N := 1) rfl ?_); refine box_event ?hg (N := 1) ?hd (cs := #[.int .i64 a0_0, .int .i64 a0_1, .int .i64 a0_2]) (t := 62) ?hr ?_; (case hd => rfl); (case hg => rfl); (case hr => first | (go_simp; done) | (go_simp; rfl)); intro gb101 hg w6 hbox hb; have n0_ := Aside0.mk (below_step (by repeat (first | (with_reducible first | exact HB.out | apply below_alloc | apply pw_below_drewN | apply below_drew1) | exact HB.out)) hb); have n1_ := Aside0.mk (hbox); have n2_ := Aside0.mk ((by rw [hg]; exact (below_size (by repeat (first | (with_reducible first | exact HB.out | apply below_alloc | apply pw_below_drewN | apply below_drew1) | exact HB.out))) : w.heap.size ≤ gb101)); have n3_ := Aside0.mk ((by rw [hg]; exact (below_size (by repeat (first | (with_reducible first | exact HB.out | apply below_alloc | apply pw_below_drewN | apply below_drew1) | exact HB.out))) : w.heap.size ≤ gb101)); clear HB; have HB := n0_; have BK101 := n1_; have GW101 := n2_; have GE101 := n3_; clear n0_ n1_ n2_ n3_; clear hb hbox hg; have hcz7_0 : w6.cell? ⟨gb101, 0, none⟩ = some (.int .i64 a0_0) := (blk_cell BK101.out 0).trans rfl; have hcz7_1 : w6.cell? ⟨gb101, 1, none⟩ = some (.int .i64 a0_1) := (blk_cell BK101.out 1).trans rfl; have hcz7_2 : w6.cell? ⟨gb101, 2, none⟩ = some (.int .i64 a0_2) := (blk_cell BK101.out 2).trans rfl; have hfz7_0 := blk_frozen BK101.out 0; have hfz7_1 := blk_frozen BK101.out 1; have hfz7_2 := blk_frozen BK101.out 2) | ((with_reducible refine gate_callee (f := 105) rfl ?_); refine goesL_ (some 5) rfl rfl Try.func105 (by kernel_rfl) rfl #[.int .i64 a0_0, .int .i64 1, .int .i64 8] rfl (by (try simp only [List.map_toArray, List.map_cons, List.map_nil]); first | done | rfl | (simp only [List.length_drop, List.length_take]; rfl)) ?_; (with_reducible refine (impl_in.calls a0_0 1 8 true _ A2.out).mono ?_); rintro e w' ⟨rfl, ⟨nd, rfl⟩⟩; refine ⟨_, rfl, ?_⟩) | (go_at_call 105; (with_reducible refine (impl_in.calls a0_1 a0_0 a0_2 true _ A4.out).mono ?_); rintro e w' ⟨rfl, ⟨nd, rfl⟩⟩))
      go_ret
      exact ⟨by first | rfl | (simp [errW_none, errW_some] <;> rfl) | (simp [*, errW_none, errW_some] <;> rfl), by repeat (first | (with_reducible first | exact HB.out | apply below_alloc | apply pw_below_drewN | apply below_drew1 | refine below_set ?_ GE101.out) | exact HB.out)⟩
    · replace c5 := Bool.eq_false_iff.mpr c5
      subst c5
      have H1 : (some false) = some r := by rw [if_neg (show ¬ (false = true) by decide)] at H; exact H
      clear H
      have H := H1
      clear H1
      obtain rfl := Option.some.inj H
      go_enter Try.func153, Try.ntmps153
      go_wp2_with (first | ((with_reducible refine gate_dst (N := 1) rfl ?_); refine box_event ?hg (N := 1) ?hd (cs := #[.int .i64 a0_0, .int .i64 a0_1, .int .i64 a0_2]) (t := 62) ?hr ?_; (case hd => rfl); (case hg => rfl); (case hr => first | (go_simp; done) | (go_simp; rfl)); intro gb101 hg w8 hbox hb; have n0_ := Aside0.mk (below_step (by repeat (first | (with_reducible first | exact HB.out | apply below_alloc | apply pw_below_drewN | apply below_drew1) | exact HB.out)) hb); have n1_ := Aside0.mk (hbox); have n2_ := Aside0.mk ((by rw [hg]; exact (below_size (by repeat (first | (with_reducible first | exact HB.out | apply below_alloc | apply pw_below_drewN | apply below_drew1) | exact HB.out))) : w.heap.size ≤ gb101)); have n3_ := Aside0.mk ((by rw [hg]; exact (below_size (by repeat (first | (with_reducible first | exact HB.out | apply below_alloc | apply pw_below_drewN | apply below_drew1) | exact HB.out))) : w.heap.size ≤ gb101)); clear HB; have HB := n0_; have BK101 := n1_; have GW101 := n2_; have GE101 := n3_; clear n0_ n1_ n2_ n3_; clear hb hbox hg; have hcz9_0 : w8.cell? ⟨gb101, 0, none⟩ = some (.int .i64 a0_0) := (blk_cell BK101.out 0).trans rfl; have hcz9_1 : w8.cell? ⟨gb101, 1, none⟩ = some (.int .i64 a0_1) := (blk_cell BK101.out 1).trans rfl; have hcz9_2 : w8.cell? ⟨gb101, 2, none⟩ = some (.int .i64 a0_2) := (blk_cell BK101.out 2).trans rfl; have hfz9_0 := blk_frozen BK101.out 0; have hfz9_1 := blk_frozen BK101.out 1; have hfz9_2 := blk_frozen BK101.out 2) | ((with_reducible refine gate_callee (f := 105) rfl ?_); refine goesL_ (some 5) rfl rfl Try.func105 (by kernel_rfl) rfl #[.int .i64 a0_0, .int .i64 1, .int .i64 8] rfl (by (try simp only [List.map_toArray, List.map_cons, List.map_nil]); first | done | rfl | (simp only [List.length_drop, List.length_take]; rfl)) ?_; (with_reducible refine (impl_in.calls a0_0 1 8 true _ A2.out).mono ?_); rintro e w' ⟨rfl, ⟨nd, rfl⟩⟩; refine ⟨_, rfl, ?_⟩) | (go_at_call 105; (with_reducible refine (impl_in.calls a0_1 a0_0 a0_2 false _ A4.out).mono ?_); rintro e w' ⟨rfl, ⟨nd, rfl⟩⟩))
      go_ret
      exact ⟨by first | rfl | (simp [errW_none, errW_some] <;> rfl) | (simp [*, errW_none, errW_some] <;> rfl), by repeat (first | (with_reducible first | exact HB.out | apply below_alloc | apply pw_below_drewN | apply below_drew1 | refine below_set ?_ GE101.out) | exact HB.out)⟩
  · replace c3 := Bool.eq_false_iff.mpr c3
    subst c3
    have H1 : (some false) = some r := by rw [if_neg (show ¬ (false = true) by decide)] at H; exact H
    clear H
    have H := H1
    clear H1
    obtain rfl := Option.some.inj H
    go_enter Try.func153, Try.ntmps153
    go_wp2_with (first | ((with_reducible refine gate_dst (N := 1) rfl ?_); refine box_event ?hg (N := 1) ?hd (cs := #[.int .i64 a0_0, .int .i64 a0_1, .int .i64 a0_2]) (t := 62) ?hr ?_; (case hd => rfl); (case hg => rfl); (case hr => first | (go_simp; done) | (go_simp; rfl)); intro gb101 hg w10 hbox hb; have n0_ := Aside0.mk (below_step (by repeat (first | (with_reducible first | exact HB.out | apply below_alloc | apply pw_below_drewN | apply below_drew1) | exact HB.out)) hb); have n1_ := Aside0.mk (hbox); have n2_ := Aside0.mk ((by rw [hg]; exact (below_size (by repeat (first | (with_reducible first | exact HB.out | apply below_alloc | apply pw_below_drewN | apply below_drew1) | exact HB.out))) : w.heap.size ≤ gb101)); have n3_ := Aside0.mk ((by rw [hg]; exact (below_size (by repeat (first | (with_reducible first | exact HB.out | apply below_alloc | apply pw_below_drewN | apply below_drew1) | exact HB.out))) : w.heap.size ≤ gb101)); clear HB; have HB := n0_; have BK101 := n1_; have GW101 := n2_; have GE101 := n3_; clear n0_ n1_ n2_ n3_; clear hb hbox hg; have hcz11_0 : w10.cell? ⟨gb101, 0, none⟩ = some (.int .i64 a0_0) := (blk_cell BK101.out 0).trans rfl; have hcz11_1 : w10.cell? ⟨gb101, 1, none⟩ = some (.int .i64 a0_1) := (blk_cell BK101.out 1).trans rfl; have hcz11_2 : w10.cell? ⟨gb101, 2, none⟩ = some (.int .i64 a0_2) := (blk_cell BK101.out 2).trans rfl; have hfz11_0 := blk_frozen BK101.out 0; have hfz11_1 := blk_frozen BK101.out 1; have hfz11_2 := blk_frozen BK101.out 2) | ((with_reducible refine gate_callee (f := 105) rfl ?_); refine goesL_ (some 5) rfl rfl Try.func105 (by kernel_rfl) rfl #[.int .i64 a0_0, .int .i64 1, .int .i64 8] rfl (by (try simp only [List.map_toArray, List.map_cons, List.map_nil]); first | done | rfl | (simp only [List.length_drop, List.length_take]; rfl)) ?_; (with_reducible refine (impl_in.calls a0_0 1 8 false _ A2.out).mono ?_); rintro e w' ⟨rfl, ⟨nd, rfl⟩⟩; refine ⟨_, rfl, ?_⟩))
    go_ret
    exact ⟨by first | rfl | (simp [errW_none, errW_some] <;> rfl) | (simp [*, errW_none, errW_some] <;> rfl), by repeat (first | (with_reducible first | exact HB.out | apply below_alloc | apply pw_below_drewN | apply below_drew1 | refine below_set ?_ GE101.out) | exact HB.out)⟩



/-! ### impl_SetValid_1: function 152 -/
def impl_SetValid_1.f (a0_0 : Int) (a0_1 : Int) (a0_2 : Int) : Option (Bool) := (impl_TaskValid.f a0_0 a0_1 a0_2).bind fun t102 => (some (!t102))
set_option maxHeartbeats 8000000 in
set_option maxRecDepth 100000 in
theorem impl_SetValid_1.calls (a0_0 : Int) (a0_1 : Int) (a0_2 : Int) (r : Bool) (w : World) (h : impl_SetValid_1.f a0_0 a0_1 a0_2 = some r) :
    Calls Try.prog 152 #[.agg #[.int .i64 a0_0, .int .i64 a0_1, .int .i64 a0_2]] w fun e w' => e = .returned (.bool r) ∧ Below w.heap.size w w' := by
  have hu62 := Try.underlying62
  have HB := Aside0.mk (Below.refl w.heap.size w)
  have H : ((impl_TaskValid.f a0_0 a0_1 a0_2).bind fun t102 => (some (!t102))) = some r := h
  clear h
  replace H := Option.bind_eq_some_iff.mp H
  obtain ⟨t102, A20, H⟩ := H
  replace H : (some (!t102)) = some r := H
  have A2 := Aside0.mk A20
  clear A20
  obtain rfl := Option.some.inj H
  go_enter Try.func152, Try.ntmps152
  go_wp2_with (first | ((with_reducible refine gate_dst (N := 1) rfl ?_); refine box_event ?hg (N := 1) ?hd (cs := #[.int .i64 a0_0, .int .i64 a0_1, .int .i64 a0_2]) (t := 62) ?hr ?_; (case hd => rfl); (case hg => rfl); (case hr => first | (go_simp; done) | (go_simp; rfl)); intro gb101 hg w3 hbox hb; have n0_ := Aside0.mk (below_step (by repeat (first | (with_reducible first | exact HB.out | apply below_alloc | apply pw_below_drewN | apply below_drew1) | exact HB.out)) hb); have n1_ := Aside0.mk (hbox); have n2_ := Aside0.mk ((by rw [hg]; exact (below_size (by repeat (first | (with_reducible first | exact HB.out | apply below_alloc | apply pw_below_drewN | apply below_drew1) | exact HB.out))) : w.heap.size ≤ gb101)); have n3_ := Aside0.mk ((by rw [hg]; exact (below_size (by repeat (first | (with_reducible first | exact HB.out | apply below_alloc | apply pw_below_drewN | apply below_drew1) | exact HB.out))) : w.heap.size ≤ gb101)); clear HB; have HB := n0_; have BK101 := n1_; have GW101 := n2_; have GE101 := n3_; clear n0_ n1_ n2_ n3_; clear hb hbox hg; have hcz4_0 : w3.cell? ⟨gb101, 0, none⟩ = some (.int .i64 a0_0) := (blk_cell BK101.out 0).trans rfl; have hcz4_1 : w3.cell? ⟨gb101, 1, none⟩ = some (.int .i64 a0_1) := (blk_cell BK101.out 1).trans rfl; have hcz4_2 : w3.cell? ⟨gb101, 2, none⟩ = some (.int .i64 a0_2) := (blk_cell BK101.out 2).trans rfl; have hfz4_0 := blk_frozen BK101.out 0; have hfz4_1 := blk_frozen BK101.out 1; have hfz4_2 := blk_frozen BK101.out 2) | ((with_reducible refine gate_callee (f := 153) rfl ?_); refine goesL_ (some 4) rfl rfl Try.func153 (by kernel_rfl) rfl #[.agg #[.int .i64 a0_0, .int .i64 a0_1, .int .i64 a0_2]] rfl (by (try simp only [List.map_toArray, List.map_cons, List.map_nil]); first | done | rfl | (simp only [List.length_drop, List.length_take]; rfl)) ?_; (with_reducible refine (impl_TaskValid.calls a0_0 a0_1 a0_2 t102 _ A2.out).mono ?_); rintro e w5 ⟨rfl, hb⟩; refine ⟨_, rfl, ?_⟩; have n0_ := Aside0.mk (blk_below (g := gb101) (o := .cells #[.int .i64 a0_0, .int .i64 a0_1, .int .i64 a0_2] 62 (0, 0)) (by (with_reducible repeat (first | refine blk_drewN ?_ _ | refine blk_drew ?_ | refine blk_alloc ?_ _)); exact BK101.out) hb); have n1_ := Aside0.mk (below_step (by repeat (first | (with_reducible first | exact HB.out | apply below_alloc | apply pw_below_drewN | apply below_drew1 | refine below_set ?_ GE101.out) | exact HB.out)) hb); clear BK101; clear HB; have BK101 := n0_; have HB := n1_; clear n0_ n1_; (try clear hb); (try clear hb2); (try clear hk); (try clear hi)))
  go_ret
  exact ⟨by first | rfl | (simp [errW_none, errW_some] <;> rfl) | (simp [*, errW_none, errW_some] <;> rfl), by repeat (first | (with_reducible first | exact HB.out | apply below_alloc | apply pw_below_drewN | apply below_drew1 | refine below_set ?_ GE101.out) | exact HB.out)⟩



/-! ### impl_SetValid: function 97 (given) -/
open Go.Proofs.Ytonifhkplniblaa.Walk
def okTask (x : S62) : Bool := decide (1 ≤ x.f0 ∧ x.f0 ≤ 8 ∧ x.f0 ≤ x.f1 ∧ x.f1 ≤ x.f2 ∧ x.f2 ≤ 12)
theorem impl_in_f (a b c : Int) : impl_in.f a b c = some (decide (b ≤ a ∧ a ≤ c)) := by
  unfold impl_in.f
  by_cases h : a ≥ b
  · have h' : b ≤ a := h
    simp [h, h']
  · have h' : ¬ b ≤ a := h
    simp [h, h']
theorem impl_TaskValid_f (x : S62) : impl_TaskValid.f x.f0 x.f1 x.f2 = some (okTask x) := by
  unfold impl_TaskValid.f okTask
  simp only [impl_in_f, Option.bind_some, decide_eq_true_eq]
  split
  · split
    · congr 1; rw [Bool.eq_iff_iff]; simp only [decide_eq_true_eq, Bool.false_eq_true, false_iff]; omega
    · congr 1; rw [Bool.eq_iff_iff]; simp only [decide_eq_true_eq, Bool.false_eq_true, false_iff]; omega
  · congr 1; rw [Bool.eq_iff_iff]; simp only [decide_eq_true_eq, Bool.false_eq_true, false_iff]; omega

set_option maxHeartbeats 1000000 in
set_option maxRecDepth 100000 in
theorem IndexFunc_Task (p : S62 → Bool) (f : FuncId) (cap : Array Value) (w : World) (hcl : ∀ (x : S62) (W : World), Below w.heap.size w W → Calls Try.prog f (#[.agg #[.int .i64 x.f0, .int .i64 x.f1, .int .i64 x.f2]] ++ cap) W fun e w' => e = .returned (.bool (p x)) ∧ Below W.heap.size W w')
    {fn : Func} (hf : Try.prog.funcs[f]? = some fn) (hname : (fn.name == "runtime.NumGoroutine") = false) (hb : fn.body.isSome = true)
    (A0 : Option Addr) (c0 : Nat) (l0 : List (S62)) (hr0 : Kd.C k62 w A0 l0.length l0) (hc0 : l0.length ≤ c0) :
    Calls Try.prog 169 #[.slice A0 l0.length c0, .func (.func f) #[] cap] w fun e w' => e = .returned (.int .i64 (idxOf p l0)) ∧ Below w.heap.size w w' := by
  have hu := Try.underlying62
  have HR := Aside0.mk hr0
  have HC := Aside0.mk hc0
  have HCL := Aside0.mk hcl
  have HF := Aside0.mk hf
  have HB := Aside0.mk (Below.refl w.heap.size w)
  have hmx : l0.length ≤ 9223372036854775807 := hr0.2.1
  clear hr0 hc0 hcl hf
  go_enter Try.func169, Try.ntmps169
  go_wp2
  go_loopw [8] (fun v8 w' => ∃ j : Nat, v8 = .int .i64 j ∧ Aside0 (j ≤ l0.length ∧ ∀ i, i < j → p (l0.getD i z62) = false) ∧ Aside0 (Below w.heap.size w w')) (fun v8 _ => l0.length - (intOf v8).toNat)
  case atStart => exact ⟨0, rfl, ⟨by omega, fun i hi => absurd hi (by omega)⟩, HB⟩
  case round =>
    clear HB
    obtain ⟨j, rfl, ⟨HJ⟩, HB⟩ := hrel
    by_cases hlt : j < l0.length
    · have b1 : decide ((j : Int) < (l0.length : Int)) = true := decide_eq_true (by omega)
      obtain ⟨ad, e1, hx0, hx1, hx2⟩ := at_T62 HR.out (j : Int) (by omega) (by omega)
      cases e1
      replace hx0 := (HB.out.cell (World.block_lt_of_cell? w _ hx0)).trans hx0
      replace hx1 := (HB.out.cell (World.block_lt_of_cell? w _ hx1)).trans hx1
      replace hx2 := (HB.out.cell (World.block_lt_of_cell? w _ hx2)).trans hx2
      simp only [Int.toNat_natCast] at hx0 hx1 hx2
      have hrd : rd_T62 l0 (j : Int) = l0.getD j z62 := rfl
      rw [hrd] at hx0 hx1 hx2
      clear hrd
      obtain ⟨x, hx⟩ : ∃ x, x = l0.getD j z62 := ⟨_, rfl⟩
      rw [← hx] at hx0 hx1 hx2
      have q0 : 0 ≤ (j : Int) := by omega
      have q1 : (j : Int) < (l0.length : Int) := by omega
      have HX := Aside0.mk hx
      have HJA := Aside0.mk HJ
      clear HJ hx
      obtain ⟨b, hpb⟩ : ∃ b, b = p x := ⟨_, rfl⟩
      have HP := Aside0.mk hpb
      clear hpb
      cases b with
      | true =>
        go_wp2_with (with_reducible refine gate_value (n := 11) rfl ?_; go_must (refine goesF_ (some 16) rfl rfl rfl rfl HF.out hname hb (#[.agg #[.int .i64 x.f0, .int .i64 x.f1, .int .i64 x.f2]] ++ cap) (by simp [Act.eval]) ?_; refine (HCL.out x _ HB.out).mono ?_; rw [← HP.out]; rintro e w2 ⟨rfl, hb2⟩; refine ⟨_, rfl, ?_⟩; have n0_ := Aside0.mk (below_step HB.out hb2); clear hb2 HB; have HB := n0_; clear n0_))
        go_ret
        exact ⟨by rw [idxOf_at z62 hlt HJA.out.2 (by rw [← HX.out]; exact HP.out.symm)]; rfl, HB.out⟩
      | false =>
        go_wp2_with (with_reducible refine gate_value (n := 11) rfl ?_; go_must (refine goesF_ (some 16) rfl rfl rfl rfl HF.out hname hb (#[.agg #[.int .i64 x.f0, .int .i64 x.f1, .int .i64 x.f2]] ++ cap) (by simp [Act.eval]) ?_; refine (HCL.out x _ HB.out).mono ?_; rw [← HP.out]; rintro e w2 ⟨rfl, hb2⟩; refine ⟨_, rfl, ?_⟩; have n0_ := Aside0.mk (below_step HB.out hb2); clear hb2 HB; have HB := n0_; clear n0_))
        go_roundw
        case rel =>
          refine ⟨j + 1, by go_num, ⟨by omega, fun i hi => ?_⟩, HB⟩
          by_cases hij : i = j
          · rw [hij, ← HX.out]; exact HP.out.symm
          · exact HJA.out.2 i (by omega)
        case measure => simp [intOf]; omega
    · have b1 : decide ((j : Int) < (l0.length : Int)) = false := decide_eq_false (by omega)
      have HJA := Aside0.mk HJ
      clear HJ
      go_wp2
      go_ret
      exact ⟨by rw [idxOf_none z62 (fun i hi => HJA.out.2 i (by omega))]; rfl, HB.out⟩

set_option maxHeartbeats 1000000 in
set_option maxRecDepth 100000 in
theorem ContainsFunc_Task (p : S62 → Bool) (f : FuncId) (cap : Array Value) (w : World) (hcl : ∀ (x : S62) (W : World), Below w.heap.size w W → Calls Try.prog f (#[.agg #[.int .i64 x.f0, .int .i64 x.f1, .int .i64 x.f2]] ++ cap) W fun e w' => e = .returned (.bool (p x)) ∧ Below W.heap.size W w')
    {fn : Func} (hf : Try.prog.funcs[f]? = some fn) (hname : (fn.name == "runtime.NumGoroutine") = false) (hb : fn.body.isSome = true)
    (A0 : Option Addr) (c0 : Nat) (l0 : List (S62)) (hr0 : Kd.C k62 w A0 l0.length l0) (hc0 : l0.length ≤ c0) :
    Calls Try.prog 151 #[.slice A0 l0.length c0, .func (.func f) #[] cap] w fun e w' => e = .returned (.bool (l0.any p)) ∧ Below w.heap.size w w' := by
  have H := Lib.hid (IndexFunc_Task p f cap w hcl hf hname hb A0 c0 l0 hr0 hc0)
  clear hr0 hc0 hcl hf
  go_enter Try.func151, Try.ntmps151
  go_wp2_with (go_at_call 169; refine H.out.mono ?_; rintro e w2 ⟨rfl, hb2⟩)
  go_ret
  exact ⟨by rw [← idxOf_neg]; rfl, hb2⟩
def impl_SetValid.f (l0 : List (S62)) : Option Bool := some (decide (l0.length ≤ 5) && l0.all okTask)
set_option maxHeartbeats 1000000 in
set_option maxRecDepth 100000 in
theorem impl_SetValid.calls (A0 : Option Addr) (c0 : Nat) (l0 : List (S62)) (r : Bool) (w : World) (hr0 : Kd.C k62 w A0 l0.length l0) (hc0 : l0.length ≤ c0) (h : impl_SetValid.f l0 = some r) :
    Calls Try.prog 97 #[.slice A0 l0.length c0] w fun e w' => e = .returned (.bool r) ∧ Below w.heap.size w w' := by
  obtain rfl := Option.some.inj h
  clear h
  have hcl : ∀ (x : S62) (W : World), Calls Try.prog 152 #[.agg #[.int .i64 x.f0, .int .i64 x.f1, .int .i64 x.f2]] W fun e w' => e = .returned (.bool (!okTask x)) ∧ Below W.heap.size W w' :=
    fun x W => impl_SetValid_1.calls x.f0 x.f1 x.f2 _ W (by unfold impl_SetValid_1.f; rw [impl_TaskValid_f]; rfl)
  have H := Lib.hid (ContainsFunc_Task (fun x => !okTask x) 152 #[] w (fun x W _ => hcl x W) Try.func152 (by kernel_rfl) rfl A0 c0 l0 hr0 hc0)
  clear hcl hr0 hc0
  have hany : l0.any (fun x => !okTask x) = !l0.all okTask := by rw [List.all_eq_not_any_not, Bool.not_not]
  by_cases hl : l0.length ≤ 5
  · have b1 : decide ((l0.length : Int) ≤ 5) = true := decide_eq_true (by omega)
    have HA := Lib.hid hany
    clear hany
    go_enter Try.func97, Try.ntmps97
    go_wp2_with (go_at_call 151; refine H.out.mono ?_; rintro e w2 ⟨rfl, hb2⟩)
    go_ret
    exact ⟨by rw [HA.out]; simp [hl], hb2⟩
  · have b1 : decide ((l0.length : Int) ≤ 5) = false := decide_eq_false (by omega)
    clear hany
    go_enter Try.func97, Try.ntmps97
    go_wp2
    go_ret
    exact ⟨by simp [hl], Below.refl _ _⟩



/-! ### impl_JobsLegal: function 35 (given) -/
open Go.Proofs.Ytonifhkplniblaa.Walk
/-- The set that a closure has captured. -/
def Sees (W : World) (g : Nat) (A : Option Addr) (s : List (S62)) (c : Nat) : Prop := W.cell? ⟨g, 0, none⟩ = some (.slice A s.length c) ∧ Kd.C k62 W A s.length s ∧ g < W.heap.size
theorem Sees.below {W W' : World} {g : Nat} {A : Option Addr} {s : List (S62)} {c : Nat} (h : Sees W g A s c) (hb : Below W.heap.size W W') : Sees W' g A s c := by
  obtain ⟨h1, h2, h3⟩ := h
  exact ⟨(hb.cell (World.block_lt_of_cell? W _ h1)).trans h1, Kd.C_below h2 hb, Nat.lt_of_lt_of_le h3 hb.size⟩
set_option maxHeartbeats 1000000 in
theorem JobsLegal_1 (g : Nat) (A : Option Addr) (s : List (S62)) (c : Nat) (t : Int) (h0 : 0 ≤ t) (h1 : t < s.length) (W : World) (h : Sees W g A s c) :
    Calls Try.prog 99 #[.int .i64 t, .pointer (some ⟨g, 0, none⟩)] W fun e w' => e = .returned (.int .i64 (rd_T62 s t).f0) ∧ Drawn0 W w' := by
  obtain ⟨hg, hr, _⟩ := h
  obtain ⟨ad, e1, hx0, hx1, hx2⟩ := at_T62 hr t h0 h1
  cases e1
  have hu := Try.underlying62
  clear hr
  go_enter Try.func99, Try.ntmps99
  go_wp2
  go_ret
  exact ⟨rfl, Drawn0.refl _⟩
set_option maxHeartbeats 1000000 in
theorem JobsLegal_2 (g : Nat) (A : Option Addr) (s : List (S62)) (c : Nat) (t : Int) (h0 : 0 ≤ t) (h1 : t < s.length) (W : World) (h : Sees W g A s c) :
    Calls Try.prog 102 #[.int .i64 t, .pointer (some ⟨g, 0, none⟩)] W fun e w' => e = .returned (.int .i64 (rd_T62 s t).f2) ∧ Drawn0 W w' := by
  obtain ⟨hg, hr, _⟩ := h
  obtain ⟨ad, e1, hx0, hx1, hx2⟩ := at_T62 hr t h0 h1
  cases e1
  have hu := Try.underlying62
  clear hr
  go_enter Try.func102, Try.ntmps102
  go_wp2
  go_ret
  exact ⟨rfl, Drawn0.refl _⟩
set_option maxHeartbeats 1000000 in
theorem JobsLegal_3 (g : Nat) (A : Option Addr) (s : List (S62)) (c : Nat) (x : S67) (h0 : 0 ≤ x.f0) (h1 : x.f0 < s.length) (W : World) (h : Sees W g A s c) :
    Calls Try.prog 104 #[.agg #[.int .i64 x.f0, .int .i64 x.f1, .int .i64 x.f2, .int .i64 x.f3], .pointer (some ⟨g, 0, none⟩)] W fun e w' => e = .returned (.bool (!decide (x.f2 = wrap64 (x.f1 + (rd_T62 s x.f0).f1)))) ∧ Below W.heap.size W w' := by
  obtain ⟨hg, hr, hlt⟩ := h
  obtain ⟨ad, e1, hx0, hx1, hx2⟩ := at_T62 hr x.f0 h0 h1
  cases e1
  have hu := Try.underlying62
  have huJ := Try.underlying67
  clear hr
  obtain ⟨xa, xb, xc, xd⟩ := x
  simp only at h0 h1 hx0 hx1 hx2 ⊢
  obtain ⟨y, hy⟩ : ∃ y, y = (rd_T62 s xa) := ⟨_, rfl⟩
  rw [← hy] at hx0 hx1 hx2 ⊢
  obtain ⟨ya, yb, yc⟩ := y
  simp only at hx0 hx1 hx2 ⊢
  clear hy
  have hB : Below W.heap.size W (W.alloc (.cells #[.int .i64 xa, .int .i64 xb, .int .i64 xc, .int .i64 xd] 67)) := below_alloc (Below.refl _ _) _
  have kg := (hB.cell (World.block_lt_of_cell? _ _ hg)).trans hg
  have k1 := (hB.cell (World.block_lt_of_cell? _ _ hx1)).trans hx1
  go_enter Try.func104, Try.ntmps104
  go_wp2_with fail
  go_quiet (fail)
  go_wp2
  go_ret
  exact ⟨by simp [bne, i64_w] <;> rfl, pw_below_drewN hB _⟩

theorem Sees.drewN {W : World} {g : Nat} {A : Option Addr} {s : List (S62)} {c : Nat} (h : Sees W g A s c) (n : Nat) : Sees (W.drewN n) g A s c := h.below (pw_below_drewN (Below.refl _ _) n)
theorem inq (a b c : Int) (r : Bool) (hr : decide (b ≤ a ∧ a ≤ c) = r) (W : World) : Calls Try.prog 105 #[.int .i64 a, .int .i64 b, .int .i64 c] W fun e w' => e = .returned (.bool r) ∧ ∃ m, w' = W.drewN m := by
  refine (impl_in.calls a b c r W (by rw [impl_in_f, hr])).mono ?_
  rintro e w' ⟨rfl, hd⟩
  exact ⟨rfl, hd.out⟩
def jobIn (s : List (S62)) (j : S67) : Bool := decide (0 ≤ j.f0 ∧ j.f0 ≤ (s.length : Int) - 1) && (decide (0 ≤ j.f1 ∧ j.f1 ≤ 119) && decide (1 ≤ j.f3 ∧ j.f3 ≤ (rd_T62 s j.f0).f0))
def jobBad (p j : S67) : Bool := decide (p.f1 > j.f1) || (decide (p.f1 = j.f1) && decide (p.f0 ≥ j.f0))
def ordAt (s : List (S62)) (l : List (S67)) (i : Nat) : Bool := jobIn s (l.getD i z67) && !(decide (0 < i) && jobBad (l.getD (i - 1) z67) (l.getD i z67))
def ordB (s : List (S62)) (l : List (S67)) : Bool := (List.range l.length).all (ordAt s l) && decide (l.length ≤ 60)
theorem all_no {P : Nat → Bool} {n j : Nat} (hj : j < n) (h : P j = false) : (List.range n).all P = false := by
  rw [Bool.eq_false_iff]; intro h1; rw [List.all_eq_true] at h1; have := h1 j (List.mem_range.2 hj); rw [h] at this; cases this
theorem all_yes {P : Nat → Bool} {n : Nat} (h : ∀ i, i < n → P i = true) : (List.range n).all P = true := by
  rw [List.all_eq_true]; intro i hi; exact h i (List.mem_range.1 hi)
theorem upto_step {P : Nat → Bool} {j : Nat} (h : ∀ i, i < j → P i = true) (hj : P j = true) : ∀ i, i < j + 1 → P i = true := by
  intro i hi
  rcases Nat.lt_or_ge i j with h1 | h1
  · exact h i h1
  · obtain rfl : i = j := by omega
    exact hj
set_option maxHeartbeats 4000000 in
set_option maxRecDepth 100000 in
theorem ordered_calls (g : Nat) (A : Option Addr) (s : List (S62)) (c : Nat) (A0 : Option Addr) (c0 : Nat) (l0 : List (S67)) (w : World) (hs : Sees w g A s c) (hr0 : Kd.C k67 w A0 l0.length l0) (hc0 : l0.length ≤ c0) :
    Calls Try.prog 98 #[.slice A0 l0.length c0, .int .i64 (s.length : Int), .func (.func 99) #[] #[.pointer (some ⟨g, 0, none⟩)]] w fun e w' => e = .returned (.bool (ordB s l0)) ∧ Below w.heap.size w w' := by
  have hu := Try.underlying67
  have HR0 := Aside0.mk hr0
  have HS := Aside0.mk hs
  have HB := Aside0.mk (Below.refl w.heap.size w)
  have hmx : l0.length ≤ 9223372036854775807 := hr0.2.1
  have hsx : s.length ≤ 9223372036854775807 := hs.2.1.2.1
  clear hr0 hc0 hs
  go_enter Try.func98, Try.ntmps98
  go_wp2
  go_loopw [11] (fun v11 w' => ∃ j : Nat, v11 = .int .i64 j ∧ Aside0 (j ≤ l0.length ∧ ∀ i, i < j → ordAt s l0 i = true) ∧ Aside0 (Below w.heap.size w w')) (fun v11 _ => l0.length - (intOf v11).toNat)
  case atStart => exact ⟨0, rfl, ⟨Nat.zero_le _, fun i hi => absurd hi (by omega)⟩, HB⟩
  case round =>
    clear HB
    obtain ⟨j, rfl, ⟨HJ⟩, HB⟩ := hrel
    by_cases hlt : j < l0.length
    · have b1 : decide ((j : Int) < (l0.length : Int)) = true := decide_eq_true (by omega)
      obtain ⟨ad0, e0, hy0, hy1, hy2, hy3⟩ := at_T67 HR0.out (j : Int) (by omega) (by omega)
      cases e0
      replace hy0 := (HB.out.cell (World.block_lt_of_cell? w _ hy0)).trans hy0
      replace hy1 := (HB.out.cell (World.block_lt_of_cell? w _ hy1)).trans hy1
      replace hy2 := (HB.out.cell (World.block_lt_of_cell? w _ hy2)).trans hy2
      replace hy3 := (HB.out.cell (World.block_lt_of_cell? w _ hy3)).trans hy3
      simp only [Int.toNat_natCast] at hy0 hy1 hy2 hy3
      have hrd : rd_T67 l0 (j : Int) = l0.getD j z67 := rfl
      rw [hrd] at hy0 hy1 hy2 hy3
      have q0 : 0 ≤ (j : Int) := by omega
      have q1 : (j : Int) < (l0.length : Int) := by omega
      obtain ⟨y, hy⟩ : ∃ y, y = l0.getD j z67 := ⟨_, rfl⟩
      rw [← hy] at hy0 hy1 hy2 hy3
      have HY := Lib.hid hy
      have HLT := Lib.hid hlt
      have HJJ := Lib.hid HJ
      clear hrd hy HJ
      obtain ⟨ya, yb, yc, yd⟩ := y
      have SW := Lib.hid ((HS.out.below HB.out).below (below_alloc (Below.refl _ _) (.cells #[.int .i64 ya, .int .i64 yb, .int .i64 yc, .int .i64 yd] 67)))
      have H1 := Lib.hid hlt
      by_cases a1 : 0 ≤ ya ∧ ya ≤ (s.length : Int) - 1
      · have Q1 := Lib.hid (fun W => inq ya 0 ((s.length : Int) - 1) true (decide_eq_true a1) W)
        by_cases a2 : 0 ≤ yb ∧ yb ≤ 119
        · have Q2 := Lib.hid (fun W => inq yb 0 119 true (decide_eq_true a2) W)
          obtain ⟨m, hm⟩ : ∃ m, m = (rd_T62 s ya).f0 := ⟨_, rfl⟩
          have QM : Hid (∀ W : World, Sees W g A s c → Calls Try.prog 99 #[.int .i64 ya, .pointer (some ⟨g, 0, none⟩)] W fun e w' => e = .returned (.int .i64 m) ∧ ∃ k, w' = W.drewN k) := Lib.hid (fun W hW => by
            rw [hm]
            exact (JobsLegal_1 g A s c ya a1.1 (by omega) W hW).mono (by rintro e w' ⟨rfl, hd⟩; exact ⟨rfl, hd.out⟩))
          by_cases a3 : 1 ≤ yd ∧ yd ≤ m
          · have Q3 := Lib.hid (fun W => inq yd 1 m true (decide_eq_true a3) W)
            have hji : jobIn s (l0.getD j z67) = true := by rw [← HY.out]; simp only [jobIn]; rw [← hm]; simp [a1, a2, a3]
            have HJI := Lib.hid hji
            by_cases h0 : 0 < j
            · have h0b : decide ((j : Int) > 0) = true := decide_eq_true (by omega)
              obtain ⟨p, hp⟩ : ∃ p, p = (j : Int) - 1 := ⟨_, rfl⟩
              obtain ⟨ad1, e1, hz0, hz1, hz2, hz3⟩ := at_T67 HR0.out p (by omega) (by omega)
              cases e1
              have hrd : rd_T67 l0 p = l0.getD (j - 1) z67 := by unfold rd_T67; congr 1; omega
              rw [hrd] at hz0 hz1 hz2 hz3
              have hB2 := below_step HB.out (below_alloc (Below.refl wr.heap.size wr) (.cells #[.int .i64 ya, .int .i64 yb, .int .i64 yc, .int .i64 yd] 67))
              replace hz0 := (hB2.cell (World.block_lt_of_cell? w _ hz0)).trans hz0
              replace hz1 := (hB2.cell (World.block_lt_of_cell? w _ hz1)).trans hz1
              obtain ⟨x, hx⟩ : ∃ x, x = l0.getD (j - 1) z67 := ⟨_, rfl⟩
              rw [← hx] at hz0 hz1
              have HX := Lib.hid hx
              clear hz2 hz3 hrd hx hB2 hm hji a1 a2 a3
              have hw1 : IntKind.i64.wrap ((j : Int) - 1) = p := by rw [i64_w]; unfold wrap64; omega
              have q2 : 0 ≤ p := by omega
              have q3 : p < (l0.length : Int) := by omega
              clear hp
              obtain ⟨xa, xb, xc, xd⟩ := x
              simp only at hz0 hz1
              by_cases d1 : xb > yb
              · have d1b : decide (xb > yb) = true := decide_eq_true d1
                have HO : Hid (ordAt s l0 j = false) := Lib.hid (by rw [ordAt, HJI.out, ← HY.out, ← HX.out]; simp [h0, jobBad, d1])
                go_wp2_with fail
                ((go_quiet (first | (go_at_call 105; with_reducible first | exact Calls.quiet_of (Q1.out _) | exact Calls.quiet_of (Q2.out _) | exact Calls.quiet_of (Q3.out _) | (rw [i64_w]; first | exact Calls.quiet_of (Q1.out _) | exact Calls.quiet_of (Q2.out _) | exact Calls.quiet_of (Q3.out _))) | (go_at_call 99; exact Calls.quiet_of (QM.out _ (SW.out.drewN _))))))
                go_wp2_with fail
                ((go_quiet (first | (go_at_call 105; with_reducible first | exact Calls.quiet_of (Q1.out _) | exact Calls.quiet_of (Q2.out _) | exact Calls.quiet_of (Q3.out _) | (rw [i64_w]; first | exact Calls.quiet_of (Q1.out _) | exact Calls.quiet_of (Q2.out _) | exact Calls.quiet_of (Q3.out _))) | (go_at_call 99; exact Calls.quiet_of (QM.out _ (SW.out.drewN _))))))
                go_wp2
                ((go_ret; refine ⟨by rw [show ordB s l0 = false by unfold ordB; rw [all_no HLT.out HO.out]; rfl]; rfl, by ((repeat (first | (with_reducible first | exact HB.out | apply below_alloc | apply pw_below_drewN | apply below_drew1) | exact HB.out)))⟩))
              · have d1b : decide (xb > yb) = false := decide_eq_false d1
                by_cases d2 : xb = yb
                · have d2b : (xb == yb) = true := by rw [beq_iff_eq]; exact d2
                  by_cases d3 : xa ≥ ya
                  · have d3b : decide (xa ≥ ya) = true := decide_eq_true d3
                    have HO : Hid (ordAt s l0 j = false) := Lib.hid (by rw [ordAt, HJI.out, ← HY.out, ← HX.out]; simp [h0, jobBad, d2, d3])
                    go_wp2_with fail
                    ((go_quiet (first | (go_at_call 105; with_reducible first | exact Calls.quiet_of (Q1.out _) | exact Calls.quiet_of (Q2.out _) | exact Calls.quiet_of (Q3.out _) | (rw [i64_w]; first | exact Calls.quiet_of (Q1.out _) | exact Calls.quiet_of (Q2.out _) | exact Calls.quiet_of (Q3.out _))) | (go_at_call 99; exact Calls.quiet_of (QM.out _ (SW.out.drewN _))))))
                    go_wp2_with fail
                    ((go_quiet (first | (go_at_call 105; with_reducible first | exact Calls.quiet_of (Q1.out _) | exact Calls.quiet_of (Q2.out _) | exact Calls.quiet_of (Q3.out _) | (rw [i64_w]; first | exact Calls.quiet_of (Q1.out _) | exact Calls.quiet_of (Q2.out _) | exact Calls.quiet_of (Q3.out _))) | (go_at_call 99; exact Calls.quiet_of (QM.out _ (SW.out.drewN _))))))
                    go_wp2
                    ((go_ret; refine ⟨by rw [show ordB s l0 = false by unfold ordB; rw [all_no HLT.out HO.out]; rfl]; rfl, by ((repeat (first | (with_reducible first | exact HB.out | apply below_alloc | apply pw_below_drewN | apply below_drew1) | exact HB.out)))⟩))
                  · have d3b : decide (xa ≥ ya) = false := decide_eq_false d3
                    have HO : Hid (ordAt s l0 j = true) := Lib.hid (by rw [ordAt, HJI.out, ← HY.out, ← HX.out]; simp [h0, jobBad, d1, d2, d3])
                    go_wp2_with fail
                    ((go_quiet (first | (go_at_call 105; with_reducible first | exact Calls.quiet_of (Q1.out _) | exact Calls.quiet_of (Q2.out _) | exact Calls.quiet_of (Q3.out _) | (rw [i64_w]; first | exact Calls.quiet_of (Q1.out _) | exact Calls.quiet_of (Q2.out _) | exact Calls.quiet_of (Q3.out _))) | (go_at_call 99; exact Calls.quiet_of (QM.out _ (SW.out.drewN _))))))
                    go_wp2_with fail
                    ((go_quiet (first | (go_at_call 105; with_reducible first | exact Calls.quiet_of (Q1.out _) | exact Calls.quiet_of (Q2.out _) | exact Calls.quiet_of (Q3.out _) | (rw [i64_w]; first | exact Calls.quiet_of (Q1.out _) | exact Calls.quiet_of (Q2.out _) | exact Calls.quiet_of (Q3.out _))) | (go_at_call 99; exact Calls.quiet_of (QM.out _ (SW.out.drewN _))))))
                    go_wp2
                    ((go_roundw; (case rel => exact ⟨j + 1, by go_num, ⟨by omega, upto_step HJJ.out.2 HO.out⟩, ⟨by ((repeat (first | (with_reducible first | exact HB.out | apply below_alloc | apply pw_below_drewN | apply below_drew1) | exact HB.out)))⟩⟩); (case measure => simp [intOf]; omega)))
                · have d2b : (xb == yb) = false := by rw [beq_eq_false_iff_ne]; exact d2
                  have HO : Hid (ordAt s l0 j = true) := Lib.hid (by rw [ordAt, HJI.out, ← HY.out, ← HX.out]; simp [h0, jobBad, d1, d2])
                  go_wp2_with fail
                  ((go_quiet (first | (go_at_call 105; with_reducible first | exact Calls.quiet_of (Q1.out _) | exact Calls.quiet_of (Q2.out _) | exact Calls.quiet_of (Q3.out _) | (rw [i64_w]; first | exact Calls.quiet_of (Q1.out _) | exact Calls.quiet_of (Q2.out _) | exact Calls.quiet_of (Q3.out _))) | (go_at_call 99; exact Calls.quiet_of (QM.out _ (SW.out.drewN _))))))
                  go_wp2_with fail
                  ((go_quiet (first | (go_at_call 105; with_reducible first | exact Calls.quiet_of (Q1.out _) | exact Calls.quiet_of (Q2.out _) | exact Calls.quiet_of (Q3.out _) | (rw [i64_w]; first | exact Calls.quiet_of (Q1.out _) | exact Calls.quiet_of (Q2.out _) | exact Calls.quiet_of (Q3.out _))) | (go_at_call 99; exact Calls.quiet_of (QM.out _ (SW.out.drewN _))))))
                  go_wp2
                  ((go_roundw; (case rel => exact ⟨j + 1, by go_num, ⟨by omega, upto_step HJJ.out.2 HO.out⟩, ⟨by ((repeat (first | (with_reducible first | exact HB.out | apply below_alloc | apply pw_below_drewN | apply below_drew1) | exact HB.out)))⟩⟩); (case measure => simp [intOf]; omega)))
            · have h0b : decide ((j : Int) > 0) = false := decide_eq_false (by omega)
              have HO : Hid (ordAt s l0 j = true) := Lib.hid (by rw [ordAt, HJI.out]; simp [h0])
              clear hm hji a1 a2 a3
              go_wp2_with fail
              ((go_quiet (first | (go_at_call 105; with_reducible first | exact Calls.quiet_of (Q1.out _) | exact Calls.quiet_of (Q2.out _) | exact Calls.quiet_of (Q3.out _) | (rw [i64_w]; first | exact Calls.quiet_of (Q1.out _) | exact Calls.quiet_of (Q2.out _) | exact Calls.quiet_of (Q3.out _))) | (go_at_call 99; exact Calls.quiet_of (QM.out _ (SW.out.drewN _))))))
              go_wp2_with fail
              ((go_quiet (first | (go_at_call 105; with_reducible first | exact Calls.quiet_of (Q1.out _) | exact Calls.quiet_of (Q2.out _) | exact Calls.quiet_of (Q3.out _) | (rw [i64_w]; first | exact Calls.quiet_of (Q1.out _) | exact Calls.quiet_of (Q2.out _) | exact Calls.quiet_of (Q3.out _))) | (go_at_call 99; exact Calls.quiet_of (QM.out _ (SW.out.drewN _))))))
              go_wp2
              ((go_roundw; (case rel => exact ⟨j + 1, by go_num, ⟨by omega, upto_step HJJ.out.2 HO.out⟩, ⟨by ((repeat (first | (with_reducible first | exact HB.out | apply below_alloc | apply pw_below_drewN | apply below_drew1) | exact HB.out)))⟩⟩); (case measure => simp [intOf]; omega)))
          · have Q3 := Lib.hid (fun W => inq yd 1 m false (decide_eq_false a3) W)
            have HO : Hid (ordAt s l0 j = false) := Lib.hid (by rw [ordAt, ← HY.out]; simp only [jobIn]; rw [← hm]; simp [a3])
            clear hm a1 a2 a3
            go_wp2_with fail
            ((go_quiet (first | (go_at_call 105; with_reducible first | exact Calls.quiet_of (Q1.out _) | exact Calls.quiet_of (Q2.out _) | exact Calls.quiet_of (Q3.out _) | (rw [i64_w]; first | exact Calls.quiet_of (Q1.out _) | exact Calls.quiet_of (Q2.out _) | exact Calls.quiet_of (Q3.out _))) | (go_at_call 99; exact Calls.quiet_of (QM.out _ (SW.out.drewN _))))))
            go_wp2
            ((go_ret; refine ⟨by rw [show ordB s l0 = false by unfold ordB; rw [all_no HLT.out HO.out]; rfl]; rfl, by ((repeat (first | (with_reducible first | exact HB.out | apply below_alloc | apply pw_below_drewN | apply below_drew1) | exact HB.out)))⟩))
        · have Q2 := Lib.hid (fun W => inq yb 0 119 false (decide_eq_false a2) W)
          have HO : Hid (ordAt s l0 j = false) := Lib.hid (by rw [ordAt, ← HY.out]; simp [jobIn, a2])
          clear a1 a2
          go_wp2_with fail
          ((go_quiet (first | (go_at_call 105; with_reducible first | exact Calls.quiet_of (Q1.out _) | exact Calls.quiet_of (Q2.out _) | exact Calls.quiet_of (Q3.out _) | (rw [i64_w]; first | exact Calls.quiet_of (Q1.out _) | exact Calls.quiet_of (Q2.out _) | exact Calls.quiet_of (Q3.out _))) | (go_at_call 99; exact Calls.quiet_of (QM.out _ (SW.out.drewN _))))))
          go_wp2
          ((go_ret; refine ⟨by rw [show ordB s l0 = false by unfold ordB; rw [all_no HLT.out HO.out]; rfl]; rfl, by ((repeat (first | (with_reducible first | exact HB.out | apply below_alloc | apply pw_below_drewN | apply below_drew1) | exact HB.out)))⟩))
      · have Q1 := Lib.hid (fun W => inq ya 0 ((s.length : Int) - 1) false (decide_eq_false a1) W)
        have HO : Hid (ordAt s l0 j = false) := Lib.hid (by rw [ordAt, ← HY.out]; simp [jobIn, a1])
        clear a1
        go_wp2_with fail
        ((go_quiet (first | (go_at_call 105; with_reducible first | exact Calls.quiet_of (Q1.out _) | exact Calls.quiet_of (Q2.out _) | exact Calls.quiet_of (Q3.out _) | (rw [i64_w]; first | exact Calls.quiet_of (Q1.out _) | exact Calls.quiet_of (Q2.out _) | exact Calls.quiet_of (Q3.out _))) | (go_at_call 99; exact Calls.quiet_of (QM.out _ (SW.out.drewN _))))))
        go_wp2
        ((go_ret; refine ⟨by rw [show ordB s l0 = false by unfold ordB; rw [all_no HLT.out HO.out]; rfl]; rfl, by ((repeat (first | (with_reducible first | exact HB.out | apply below_alloc | apply pw_below_drewN | apply below_drew1) | exact HB.out)))⟩))
    · have b1 : decide ((j : Int) < (l0.length : Int)) = false := decide_eq_false (by omega)
      have HJA := Aside0.mk HJ
      have hje : j = l0.length := by omega
      subst hje
      clear HJ
      by_cases d1 : l0.length ≤ 60
      · have d1b : decide ((l0.length : Int) ≤ 60) = true := decide_eq_true (by omega)
        go_wp2
        go_ret
        exact ⟨by unfold ordB; rw [all_yes HJA.out.2, decide_eq_true d1]; rfl, HB.out⟩
      · have d1b : decide ((l0.length : Int) ≤ 60) = false := decide_eq_false (by omega)
        go_wp2
        go_ret
        exact ⟨by unfold ordB; rw [all_yes HJA.out.2, decide_eq_false d1]; rfl, HB.out⟩

open Go.Proofs.Ytonifhkplniblaa.Walk Go.Maps
theorem key3 : Keyed Try.prog 3 := int_keyed Try.underlying3
theorem zero3 (w : World) : (zeroValue 3).run Try.prog w = .ok (.int .i64 0) w := by kernel_rfl
theorem wf_small {t : Int} (h0 : 0 ≤ t) (h1 : t ≤ 9223372036854775807) : (Lit.int .i64 t).wf = true := by simp [Lit.wf, IntKind.min, IntKind.max, IntKind.signed, IntKind.bits]; omega
/-- When the last of the first jobs of a task came. -/
def lastT (l : List (S67)) : Nat → Int → Option Int
  | 0, _ => none
  | i + 1, t => if (l.getD i z67).f0 = t then some (l.getD i z67).f1 else lastT l i t
def spcAt (s : List (S62)) (l : List (S67)) (i : Nat) : Bool :=
  match lastT l i (l.getD i z67).f0 with
  | none => true
  | some b => !decide ((l.getD i z67).f1 - b < (rd_T62 s (l.getD i z67).f0).f2)
theorem lastT_in {l : List (S67)} {n : Nat} (hin : ∀ i, i < n → 0 ≤ (l.getD i z67).f1 ∧ (l.getD i z67).f1 ≤ 119) : ∀ i, i ≤ n → ∀ t b, lastT l i t = some b → 0 ≤ b ∧ b ≤ 119
  | 0, _, _, _, h => by cases h
  | i + 1, hi, t, b, h => by
    unfold lastT at h
    split at h
    · injection h with h; rw [← h]; exact hin i (by omega)
    · exact lastT_in hin i (by omega) t b h
/-- What the map holds behind the first jobs. -/
def MapSays (l : List (S67)) (j : Nat) (D : DataW Unit) : Prop := ∀ t, 0 ≤ t → t ≤ 9223372036854775807 → match lastT l j t with
  | none => has D (.int .i64 t) = false
  | some b => has D (.int .i64 t) = true ∧ D.atKey (.int .i64 t) (.lit (.int .i64 0)) = .lit (.int .i64 b)
theorem MapSays.zero (l : List (S67)) : MapSays l 0 (.map []) := fun t _ _ => rfl
theorem MapSays.put {l : List (S67)} {j : Nat} {D : DataW Unit} (h : MapSays l j D) (hD : IsMap D) {y : S67} (hy : y = l.getD j z67) : MapSays l (j + 1) (D.put (.int .i64 y.f0) (.lit (.int .i64 y.f1))) := by
  intro t h0 h1
  unfold lastT
  rw [← hy]
  by_cases e : y.f0 = t
  · rw [if_pos e]
    simp only
    rw [e]
    exact ⟨has_put_same hD (by trivial) _, atKey_put_same hD (by trivial) _ _⟩
  · rw [if_neg e]
    have hne : (Lit.int .i64 t) ≠ (Lit.int .i64 y.f0) := by intro h2; injection h2 with _ h3; exact e h3.symm
    have := h t h0 h1
    split
    · rename_i h2
      rw [h2] at this
      rw [has_put_other hne]
      exact this
    · rename_i b h2
      rw [h2] at this
      rw [has_put_other hne, atKey_put_other hne]
      exact this
theorem ownsMap_below {w w' : World} {P : Program} {k : TypeId} {R : Value → Option (DataW Unit × List MemPlace)} {b n : Nat} {D : DataW Unit} (h : w.ownsMap P k R b n D) (hb : Below w.heap.size w w') : w'.ownsMap P k R b n D := by
  have hlt := h.lt
  obtain ⟨es, clock, h1, h2⟩ := h
  exact ⟨es, clock, (hb.block b hlt).trans h1, h2⟩
theorem look_known {P : Program} (w : World) {ops : Array Oper} {rest : List Oper} {o : Oper} {a : Act} {Q : Exit → Act → World → Prop} (hg : o.guard = none) (m x : Operand) (t : TypeId) (hop : o.op = Op.lookup t m x true)
    (k e : TypeId) (K : Keyed P k) (ht : P.underlying t = some (.map k e)) (he : P.underlying e = some (.int .i64)) (hz : (zeroValue e).run P w = .ok (.int .i64 0) w) (b n : Nat) (D : DataW Unit)
    (hm : a.eval m = .map (some b)) (hown : w.ownsMap P k (plainElem P e) b n D) (key : Value) (kl : Lit) (hx : a.eval x = key) (hkey : keyOf P k key = some kl) {c : Int} {r : Bool}
    (hat : D.atKey kl (.lit (.int .i64 0)) = .lit (.int .i64 c)) (hh : has D kl = r) (hK : wpList P ops Q rest (a.put o.dst (.tuple #[.int .i64 c, .bool r])) w) :
    wpList P ops Q (o :: rest) a w :=
  wpList_lookup_own_ok_int w hg m x t hop k e .i64 K ht he hz b n D hm hown key kl hx hkey (fun c' h1 _ => by
    rw [hat] at h1
    injection h1 with h1
    injection h1 with _ h1
    subst h1
    rw [hh]
    exact hK)
set_option maxHeartbeats 4000000 in
set_option maxRecDepth 100000 in
theorem spaced_calls (g : Nat) (A : Option Addr) (s : List (S62)) (c : Nat) (A0 : Option Addr) (c0 : Nat) (l0 : List (S67)) (w : World) (hs : Sees w g A s c) (hr0 : Kd.C k67 w A0 l0.length l0) (hc0 : l0.length ≤ c0)
    (hin : ∀ i, i < l0.length → 0 ≤ (l0.getD i z67).f0 ∧ (l0.getD i z67).f0 < s.length) (hrl : ∀ i, i < l0.length → 0 ≤ (l0.getD i z67).f1 ∧ (l0.getD i z67).f1 ≤ 119) (hlen : l0.length ≤ 60) :
    Calls Try.prog 100 #[.slice A0 l0.length c0, .func (.func 101) #[] #[], .func (.func 102) #[] #[.pointer (some ⟨g, 0, none⟩)]] w fun e w' => e = .returned (.bool ((List.range l0.length).all (spcAt s l0))) ∧ Below w.heap.size w w' := by
  have hu := Try.underlying67
  have hmm := @run_makeMap Try.prog
  have HR0 := Aside0.mk hr0
  have HS := Aside0.mk hs
  have HIN := Aside0.mk hin
  have HRL := Aside0.mk hrl
  have HB := Aside0.mk (Below.refl w.heap.size w)
  have hsx : s.length ≤ 9223372036854775807 := hs.2.1.2.1
  clear hr0 hc0 hs hin hrl
  go_enter Try.func100, Try.ntmps100
  go_wp2
  go_loopw [16] (fun v16 w' => ∃ j : Nat, v16 = .int .i64 j ∧ Aside0 (j ≤ l0.length ∧ ∀ i, i < j → spcAt s l0 i = true) ∧ (∃ D, w'.ownsMap Try.prog 3 (plainElem Try.prog 3) w.heap.size j D ∧ MapSays l0 j D) ∧ Aside0 (Below w.heap.size w w')) (fun v16 _ => l0.length - (intOf v16).toNat)
  case atStart => exact ⟨0, rfl, ⟨Nat.zero_le _, fun i hi => absurd hi (by omega)⟩, ⟨_, World.ownsMap_made _ _ _ _, MapSays.zero l0⟩, ⟨by ((repeat (first | (with_reducible first | exact HB.out | apply below_alloc | apply pw_below_drewN | apply below_drew1) | exact HB.out)))⟩⟩
  case round =>
    clear HB
    obtain ⟨j, rfl, ⟨HJ⟩, ⟨D, hown, hms⟩, HB⟩ := hrel
    by_cases hlt : j < l0.length
    · have b1 : decide ((j : Int) < (l0.length : Int)) = true := decide_eq_true (by omega)
      obtain ⟨ad0, e0, hy0, hy1, hy2, hy3⟩ := at_T67 HR0.out (j : Int) (by omega) (by omega)
      cases e0
      replace hy0 := (HB.out.cell (World.block_lt_of_cell? w _ hy0)).trans hy0
      replace hy1 := (HB.out.cell (World.block_lt_of_cell? w _ hy1)).trans hy1
      replace hy2 := (HB.out.cell (World.block_lt_of_cell? w _ hy2)).trans hy2
      replace hy3 := (HB.out.cell (World.block_lt_of_cell? w _ hy3)).trans hy3
      simp only [Int.toNat_natCast] at hy0 hy1 hy2 hy3
      have hrd : rd_T67 l0 (j : Int) = l0.getD j z67 := rfl
      rw [hrd] at hy0 hy1 hy2 hy3
      have q0 : 0 ≤ (j : Int) := by omega
      have q1 : (j : Int) < (l0.length : Int) := by omega
      have hi := HIN.out j hlt
      have hr := HRL.out j hlt
      have hl := lastT_in HRL.out j (by omega) (l0.getD j z67).f0
      obtain ⟨y, hy⟩ : ∃ y, y = l0.getD j z67 := ⟨_, rfl⟩
      have hsa : spcAt s l0 j = match lastT l0 j y.f0 with | none => true | some b => !decide (y.f1 - b < (rd_T62 s y.f0).f2) := by rw [hy]; rfl
      rw [← hy] at hy0 hy1 hy2 hy3 hi hr hl
      have HY := Lib.hid hy
      have HJJ := Lib.hid HJ
      have HM := Lib.hid hms
      have HO0 := Lib.hid hown.isMap
      have HO := Aside0.mk hown
      have hsay := hms y.f0 hi.1 (by omega)
      clear hrd hy HJ hown hms
      obtain ⟨ya, yb, yc, yd⟩ := y
      simp only at hi hr hl hsa hsay
      obtain ⟨hi1, hi2⟩ := hi
      obtain ⟨hr1, hr2⟩ := hr
      have HKEY : Hid (keyOf Try.prog 3 (.int .i64 ya) = some (.int .i64 ya)) := Lib.hid (keyOf_int_mk Try.underlying3 (wf_small hi1 (by omega)))
      have HWF : Hid ((Lit.int .i64 yb).wf = true) := Lib.hid (wf_small hr1 (by omega))
      have HREL := Lib.hid (fun W => impl_release.calls ya yb yc yd yb W rfl)
      have hk0 : (wr.alloc (.cells #[.int .i64 ya, .int .i64 yb, .int .i64 yc, .int .i64 yd] 67)).cell? ⟨wr.heap.size, 0, none⟩ = some (.int .i64 ya) := by rw [World.cell?_alloc_at _ _ _ _ rfl]; rfl
      cases hlt2 : lastT l0 j ya with
      | none =>
        rw [hlt2] at hsa hsay
        have HOK := Lib.hid hsa
        have HAT := Lib.hid (atKey_of_not_has hsay (.lit (.int .i64 0)))
        have HHAS := Lib.hid hsay
        clear hsa hsay hl hlt2
        go_wp2_with (first | ((go_at_call 101; refine (HREL.out _).mono ?_; rintro e w2 ⟨rfl, hb2⟩; have n0_ := Aside0.mk (below_step (below_alloc HB.out _) hb2); have n1_ := Aside0.mk (ownsMap_below (HO.out.alloc _) hb2); have k0 := (hb2.cell (World.block_lt_of_cell? _ _ hk0)).trans hk0; clear HB HO hk0 hb2; have HB := n0_; have HO := n1_; clear n0_ n1_)) | (at_lookup; refine look_known _ rfl _ _ 181 rfl 3 3 key3 Try.underlying181 Try.underlying3 (zero3 _) w.heap.size j D rfl HO.out _ _ rfl HKEY.out HAT.out HHAS.out ?_) | ((at_mapUpdate; refine wpList_mapUpdate_own _ rfl _ _ _ 181 rfl 3 3 key3 Try.underlying181 _ w.heap.size j _ rfl HO.out (by unfold maxLen; omega) _ _ _ rfl rfl HKEY.out _ [] (plainElem_int Try.underlying3 HWF.out) ?_; intro w9 hown1 hgrow1; have n0_ := Aside0.mk (HB.out.grown hgrow1 HB.out.size (fun k hk => by cases hk; exact Nat.le_refl _)); have n1_ := Aside0.mk hown1; clear HB HO hown1 hgrow1 k0; have HB := n0_; have HO := n1_; clear n0_ n1_)))
        ((go_roundw; (case rel => exact ⟨j + 1, by go_num, ⟨by omega, upto_step HJJ.out.2 HOK.out⟩, ⟨_, HO.out, HM.out.put HO0.out HY.out⟩, ⟨by ((repeat (first | (with_reducible first | exact HB.out | apply below_alloc | apply pw_below_drewN | apply below_drew1) | exact HB.out)))⟩⟩); (case measure => simp [intOf]; omega)))
      | some b =>
        rw [hlt2] at hsa hsay
        have hb := hl b hlt2
        obtain ⟨hb1, hb2⟩ := hb
        have HAT := Lib.hid hsay.2
        have HHAS := Lib.hid hsay.1
        obtain ⟨m, hm⟩ : ∃ m, m = (rd_T62 s ya).f2 := ⟨_, rfl⟩
        simp only at hsa
        rw [← hm] at hsa
        have QM : Hid (∀ W : World, Sees W g A s c → Calls Try.prog 102 #[.int .i64 ya, .pointer (some ⟨g, 0, none⟩)] W fun e w' => e = .returned (.int .i64 m) ∧ ∃ k, w' = W.drewN k) := Lib.hid (fun W hW => by
          rw [hm]
          exact (JobsLegal_2 g A s c ya hi1 hi2 W hW).mono (by rintro e w' ⟨rfl, hd⟩; exact ⟨rfl, hd.out⟩))
        clear hsay hl hlt2 hm
        by_cases hbad : yb - b < m
        · have hbb : decide (yb - b < m) = true := decide_eq_true hbad
          rw [hbb] at hsa
          have HOK := Lib.hid hsa
          clear hsa hbad
          go_wp2_with (first | ((go_at_call 101; refine (HREL.out _).mono ?_; rintro e w2 ⟨rfl, hb2⟩; have n0_ := Aside0.mk (below_step (below_alloc HB.out _) hb2); have n1_ := Aside0.mk (ownsMap_below (HO.out.alloc _) hb2); have k0 := (hb2.cell (World.block_lt_of_cell? _ _ hk0)).trans hk0; clear HB HO hk0 hb2; have HB := n0_; have HO := n1_; clear n0_ n1_)) | (at_lookup; refine look_known _ rfl _ _ 181 rfl 3 3 key3 Try.underlying181 Try.underlying3 (zero3 _) w.heap.size j D rfl HO.out _ _ rfl HKEY.out HAT.out HHAS.out ?_) | (go_at_call 102; refine (QM.out _ (HS.out.below HB.out)).mono ?_; rintro e w3 ⟨rfl, m3, rfl⟩; have n0_ := Aside0.mk (pw_below_drewN HB.out m3); have n1_ := Aside0.mk (ownsMap_below HO.out (pw_below_drewN (Below.refl _ _) m3)); clear HB HO; have HB := n0_; have HO := n1_; clear n0_ n1_) | ((at_mapUpdate; refine wpList_mapUpdate_own _ rfl _ _ _ 181 rfl 3 3 key3 Try.underlying181 _ w.heap.size j _ rfl HO.out (by unfold maxLen; omega) _ _ _ rfl rfl HKEY.out _ [] (plainElem_int Try.underlying3 HWF.out) ?_; intro w9 hown1 hgrow1; have n0_ := Aside0.mk (HB.out.grown hgrow1 HB.out.size (fun k hk => by cases hk; exact Nat.le_refl _)); have n1_ := Aside0.mk hown1; clear HB HO hown1 hgrow1 k0; have HB := n0_; have HO := n1_; clear n0_ n1_)))
          go_ret
          exact ⟨by rw [all_no hlt HOK.out]; rfl, by ((repeat (first | (with_reducible first | exact HB.out | apply below_alloc | apply pw_below_drewN | apply below_drew1) | exact HB.out)))⟩
        · have hbb : decide (yb - b < m) = false := decide_eq_false hbad
          rw [hbb] at hsa
          have HOK := Lib.hid hsa
          clear hsa hbad
          go_wp2_with (first | ((go_at_call 101; refine (HREL.out _).mono ?_; rintro e w2 ⟨rfl, hb2⟩; have n0_ := Aside0.mk (below_step (below_alloc HB.out _) hb2); have n1_ := Aside0.mk (ownsMap_below (HO.out.alloc _) hb2); have k0 := (hb2.cell (World.block_lt_of_cell? _ _ hk0)).trans hk0; clear HB HO hk0 hb2; have HB := n0_; have HO := n1_; clear n0_ n1_)) | (at_lookup; refine look_known _ rfl _ _ 181 rfl 3 3 key3 Try.underlying181 Try.underlying3 (zero3 _) w.heap.size j D rfl HO.out _ _ rfl HKEY.out HAT.out HHAS.out ?_) | (go_at_call 102; refine (QM.out _ (HS.out.below HB.out)).mono ?_; rintro e w3 ⟨rfl, m3, rfl⟩; have n0_ := Aside0.mk (pw_below_drewN HB.out m3); have n1_ := Aside0.mk (ownsMap_below HO.out (pw_below_drewN (Below.refl _ _) m3)); clear HB HO; have HB := n0_; have HO := n1_; clear n0_ n1_) | ((at_mapUpdate; refine wpList_mapUpdate_own _ rfl _ _ _ 181 rfl 3 3 key3 Try.underlying181 _ w.heap.size j _ rfl HO.out (by unfold maxLen; omega) _ _ _ rfl rfl HKEY.out _ [] (plainElem_int Try.underlying3 HWF.out) ?_; intro w9 hown1 hgrow1; have n0_ := Aside0.mk (HB.out.grown hgrow1 HB.out.size (fun k hk => by cases hk; exact Nat.le_refl _)); have n1_ := Aside0.mk hown1; clear HB HO hown1 hgrow1 k0; have HB := n0_; have HO := n1_; clear n0_ n1_)))
          ((go_roundw; (case rel => exact ⟨j + 1, by go_num, ⟨by omega, upto_step HJJ.out.2 HOK.out⟩, ⟨_, HO.out, HM.out.put HO0.out HY.out⟩, ⟨by ((repeat (first | (with_reducible first | exact HB.out | apply below_alloc | apply pw_below_drewN | apply below_drew1) | exact HB.out)))⟩⟩); (case measure => simp [intOf]; omega)))
    · have b1 : decide ((j : Int) < (l0.length : Int)) = false := decide_eq_false (by omega)
      have HJA := Aside0.mk HJ
      have hje : j = l0.length := by omega
      subst hje
      clear HJ
      go_wp2
      go_ret
      exact ⟨by rw [all_yes HJA.out.2]; rfl, HB.out⟩

open Go.Proofs.Ytonifhkplniblaa.Walk Go.Maps
theorem getD_mem_Job {l : List (S67)} {j : Nat} (h : j < l.length) : l.getD j z67 ∈ l := by
  rw [List.getD_eq_getElem?_getD, List.getElem?_eq_getElem h]
  exact List.getElem_mem h

set_option maxHeartbeats 1000000 in
set_option maxRecDepth 100000 in
theorem IndexFunc_Job (p : S67 → Bool) (f : FuncId) (cap : Array Value) (w : World) (l0 : List (S67)) (hcl : ∀ (x : S67) (W : World), x ∈ l0 → Below w.heap.size w W → Calls Try.prog f (#[.agg #[.int .i64 x.f0, .int .i64 x.f1, .int .i64 x.f2, .int .i64 x.f3]] ++ cap) W fun e w' => e = .returned (.bool (p x)) ∧ Below W.heap.size W w')
    {fn : Func} (hf : Try.prog.funcs[f]? = some fn) (hname : (fn.name == "runtime.NumGoroutine") = false) (hb : fn.body.isSome = true)
    (A0 : Option Addr) (c0 : Nat) (hr0 : Kd.C k67 w A0 l0.length l0) (hc0 : l0.length ≤ c0) :
    Calls Try.prog 154 #[.slice A0 l0.length c0, .func (.func f) #[] cap] w fun e w' => e = .returned (.int .i64 (idxOf p l0)) ∧ Below w.heap.size w w' := by
  have hu := Try.underlying67
  have HR := Aside0.mk hr0
  have HC := Aside0.mk hc0
  have HCL := Aside0.mk hcl
  have HF := Aside0.mk hf
  have HB := Aside0.mk (Below.refl w.heap.size w)
  have hmx : l0.length ≤ 9223372036854775807 := hr0.2.1
  clear hr0 hc0 hcl hf
  go_enter Try.func154, Try.ntmps154
  go_wp2
  go_loopw [8] (fun v8 w' => ∃ j : Nat, v8 = .int .i64 j ∧ Aside0 (j ≤ l0.length ∧ ∀ i, i < j → p (l0.getD i z67) = false) ∧ Aside0 (Below w.heap.size w w')) (fun v8 _ => l0.length - (intOf v8).toNat)
  case atStart => exact ⟨0, rfl, ⟨by omega, fun i hi => absurd hi (by omega)⟩, HB⟩
  case round =>
    clear HB
    obtain ⟨j, rfl, ⟨HJ⟩, HB⟩ := hrel
    by_cases hlt : j < l0.length
    · have b1 : decide ((j : Int) < (l0.length : Int)) = true := decide_eq_true (by omega)
      obtain ⟨ad, e1, hx0, hx1, hx2, hx3⟩ := at_T67 HR.out (j : Int) (by omega) (by omega)
      cases e1
      replace hx0 := (HB.out.cell (World.block_lt_of_cell? w _ hx0)).trans hx0
      replace hx1 := (HB.out.cell (World.block_lt_of_cell? w _ hx1)).trans hx1
      replace hx2 := (HB.out.cell (World.block_lt_of_cell? w _ hx2)).trans hx2
      replace hx3 := (HB.out.cell (World.block_lt_of_cell? w _ hx3)).trans hx3
      simp only [Int.toNat_natCast] at hx0 hx1 hx2 hx3
      have hrd : rd_T67 l0 (j : Int) = l0.getD j z67 := rfl
      rw [hrd] at hx0 hx1 hx2 hx3
      clear hrd
      obtain ⟨x, hx⟩ : ∃ x, x = l0.getD j z67 := ⟨_, rfl⟩
      rw [← hx] at hx0 hx1 hx2 hx3
      have q0 : 0 ≤ (j : Int) := by omega
      have q1 : (j : Int) < (l0.length : Int) := by omega
      have HX := Aside0.mk hx
      have HJA := Aside0.mk HJ
      clear HJ hx
      obtain ⟨b, hpb⟩ : ∃ b, b = p x := ⟨_, rfl⟩
      have HP := Aside0.mk hpb
      clear hpb
      cases b with
      | true =>
        go_wp2_with (with_reducible refine gate_value (n := 11) rfl ?_; go_must (refine goesF_ (some 16) rfl rfl rfl rfl HF.out hname hb (#[.agg #[.int .i64 x.f0, .int .i64 x.f1, .int .i64 x.f2, .int .i64 x.f3]] ++ cap) (by simp [Act.eval]) ?_; refine (HCL.out x _ (by rw [HX.out]; exact getD_mem_Job hlt) HB.out).mono ?_; rw [← HP.out]; rintro e w2 ⟨rfl, hb2⟩; refine ⟨_, rfl, ?_⟩; have n0_ := Aside0.mk (below_step HB.out hb2); clear hb2 HB; have HB := n0_; clear n0_))
        go_ret
        exact ⟨by rw [idxOf_at z67 hlt HJA.out.2 (by rw [← HX.out]; exact HP.out.symm)]; rfl, HB.out⟩
      | false =>
        go_wp2_with (with_reducible refine gate_value (n := 11) rfl ?_; go_must (refine goesF_ (some 16) rfl rfl rfl rfl HF.out hname hb (#[.agg #[.int .i64 x.f0, .int .i64 x.f1, .int .i64 x.f2, .int .i64 x.f3]] ++ cap) (by simp [Act.eval]) ?_; refine (HCL.out x _ (by rw [HX.out]; exact getD_mem_Job hlt) HB.out).mono ?_; rw [← HP.out]; rintro e w2 ⟨rfl, hb2⟩; refine ⟨_, rfl, ?_⟩; have n0_ := Aside0.mk (below_step HB.out hb2); clear hb2 HB; have HB := n0_; clear n0_))
        go_roundw
        case rel =>
          refine ⟨j + 1, by go_num, ⟨by omega, fun i hi => ?_⟩, HB⟩
          by_cases hij : i = j
          · rw [hij, ← HX.out]; exact HP.out.symm
          · exact HJA.out.2 i (by omega)
        case measure => simp [intOf]; omega
    · have b1 : decide ((j : Int) < (l0.length : Int)) = false := decide_eq_false (by omega)
      have HJA := Aside0.mk HJ
      clear HJ
      go_wp2
      go_ret
      exact ⟨by rw [idxOf_none z67 (fun i hi => HJA.out.2 i (by omega))]; rfl, HB.out⟩

set_option maxHeartbeats 1000000 in
set_option maxRecDepth 100000 in
theorem ContainsFunc_Job (p : S67 → Bool) (f : FuncId) (cap : Array Value) (w : World) (l0 : List (S67)) (hcl : ∀ (x : S67) (W : World), x ∈ l0 → Below w.heap.size w W → Calls Try.prog f (#[.agg #[.int .i64 x.f0, .int .i64 x.f1, .int .i64 x.f2, .int .i64 x.f3]] ++ cap) W fun e w' => e = .returned (.bool (p x)) ∧ Below W.heap.size W w')
    {fn : Func} (hf : Try.prog.funcs[f]? = some fn) (hname : (fn.name == "runtime.NumGoroutine") = false) (hb : fn.body.isSome = true)
    (A0 : Option Addr) (c0 : Nat) (hr0 : Kd.C k67 w A0 l0.length l0) (hc0 : l0.length ≤ c0) :
    Calls Try.prog 103 #[.slice A0 l0.length c0, .func (.func f) #[] cap] w fun e w' => e = .returned (.bool (l0.any p)) ∧ Below w.heap.size w w' := by
  have H := Lib.hid (IndexFunc_Job p f cap w l0 hcl hf hname hb A0 c0 hr0 hc0)
  clear hr0 hc0 hcl hf
  go_enter Try.func103, Try.ntmps103
  go_wp2_with (go_at_call 154; refine H.out.mono ?_; rintro e w2 ⟨rfl, hb2⟩)
  go_ret
  exact ⟨by rw [← idxOf_neg]; rfl, hb2⟩
def dlOk (s : List (S62)) (x : S67) : Bool := decide (x.f2 = wrap64 (x.f1 + (rd_T62 s x.f0).f1))
/-- The jobs are a legal pattern of a valid set. -/
def legalB (s : List (S62)) (l : List (S67)) : Bool := ordB s l && ((List.range l.length).all (spcAt s l) && l.all (dlOk s))
theorem ordB_in {s : List (S62)} {l : List (S67)} (h : ordB s l = true) : l.length ≤ 60 ∧ ∀ i, i < l.length → jobIn s (l.getD i z67) = true := by
  unfold ordB at h
  rw [Bool.and_eq_true, List.all_eq_true] at h
  refine ⟨of_decide_eq_true h.2, fun i hi => ?_⟩
  have := h.1 i (List.mem_range.2 hi)
  unfold ordAt at this
  rw [Bool.and_eq_true] at this
  exact this.1
theorem jobIn_f0 {s : List (S62)} {j : S67} (h : jobIn s j = true) : 0 ≤ j.f0 ∧ j.f0 < s.length := by
  unfold jobIn at h; rw [Bool.and_eq_true] at h; have := of_decide_eq_true h.1; omega
theorem jobIn_f1 {s : List (S62)} {j : S67} (h : jobIn s j = true) : 0 ≤ j.f1 ∧ j.f1 ≤ 119 := by
  unfold jobIn at h; rw [Bool.and_eq_true, Bool.and_eq_true] at h; exact of_decide_eq_true h.2.1
def impl_JobsLegal.f (l0 : List (S62)) (l1 : List (S67)) : Option Bool := (impl_SetValid.f l0).bind fun b => some (b && legalB l0 l1)
set_option maxHeartbeats 2000000 in
set_option maxRecDepth 100000 in
theorem impl_JobsLegal.calls (A0 : Option Addr) (c0 : Nat) (l0 : List (S62)) (A1 : Option Addr) (c1 : Nat) (l1 : List (S67)) (r : Bool) (w : World) (hr0 : Kd.C k62 w A0 l0.length l0) (hc0 : l0.length ≤ c0) (hr1 : Kd.C k67 w A1 l1.length l1) (hc1 : l1.length ≤ c1) (h : impl_JobsLegal.f l0 l1 = some r) :
    Calls Try.prog 35 #[.slice A0 l0.length c0, .slice A1 l1.length c1] w fun e w' => e = .returned (.bool r) ∧ Below w.heap.size w w' := by
  unfold impl_JobsLegal.f at h
  obtain ⟨b, hb⟩ : ∃ b, impl_SetValid.f l0 = some b := by
    cases hs : impl_SetValid.f l0 with
    | none => rw [hs] at h; cases h
    | some b => exact ⟨b, rfl⟩
  rw [hb, Option.bind_some] at h
  obtain rfl := Option.some.inj h
  clear h
  have hB0 : Below w.heap.size w (w.alloc (.cells #[.slice A0 l0.length c0] 37)) := below_alloc (Below.refl _ _) _
  have HS := Lib.hid (impl_SetValid.calls A0 c0 l0 b (w.alloc (.cells #[.slice A0 l0.length c0] 37)) (Kd.C_below hr0 hB0) hc0 hb)
  have hcell : (w.alloc (.cells #[.slice A0 l0.length c0] 37)).cell? ⟨w.heap.size, 0, none⟩ = some (.slice A0 l0.length c0) := by
    rw [World.cell?_alloc_at _ _ _ _ rfl]; rfl
  have hse : Sees (w.alloc (.cells #[.slice A0 l0.length c0] 37)) w.heap.size A0 l0 c0 := ⟨hcell, Kd.C_below hr0 hB0, by simp⟩
  have HSE := Aside0.mk hse
  have HR1 := Aside0.mk (Kd.C_below hr1 hB0)
  have HC1 := Lib.hid hc1
  have HB := Aside0.mk hB0
  have hmf : ∀ (fn : Fn) (first cap : Array Value) (w : World), (Instr.makeFunc fn first cap).run Try.prog w = .ok (.func fn first cap) w := fun _ _ _ _ => rfl
  have hsx : l0.length ≤ 9223372036854775807 := hr0.2.1
  clear hr0 hc0 hr1 hc1 hb hse hB0
  cases b with
  | false =>
    go_enter Try.func35, Try.ntmps35
    go_wp2_with (go_at_call 97; refine HS.out.mono ?_; rintro e w2 ⟨rfl, hbx⟩; ((have n0_ := Aside0.mk (below_step HB.out hbx); have n1_ := Aside0.mk (HSE.out.below hbx); have n2_ := Aside0.mk (Kd.C_below HR1.out hbx); clear HB HSE HR1 hbx; have HB := n0_; have HSE := n1_; have HR1 := n2_; clear n0_ n1_ n2_)))
    go_ret
    exact ⟨by simp, HB.out⟩
  | true =>
    have HORD := Lib.hid (fun (W : World) (hs : Sees W w.heap.size A0 l0 c0) (hr : Kd.C k67 W A1 l1.length l1) => ordered_calls w.heap.size A0 l0 c0 A1 c1 l1 W hs hr HC1.out)
    cases ho : ordB l0 l1 with
    | false =>
      have HO := Lib.hid ho
      clear ho
      go_enter Try.func35, Try.ntmps35
      go_wp2_with (first | (go_at_call 97; refine HS.out.mono ?_; rintro e w2 ⟨rfl, hbx⟩; have hcx := (hbx.cell (World.block_lt_of_cell? _ _ hcell)).trans hcell; ((have n0_ := Aside0.mk (below_step HB.out hbx); have n1_ := Aside0.mk (HSE.out.below hbx); have n2_ := Aside0.mk (Kd.C_below HR1.out hbx); clear HB HSE HR1 hbx; have HB := n0_; have HSE := n1_; have HR1 := n2_; clear n0_ n1_ n2_))) | (go_at_call 98; refine (HORD.out _ HSE.out HR1.out).mono ?_; rw [HO.out]; rintro e w3 ⟨rfl, hbx⟩; ((have n0_ := Aside0.mk (below_step HB.out hbx); have n1_ := Aside0.mk (HSE.out.below hbx); have n2_ := Aside0.mk (Kd.C_below HR1.out hbx); clear HB HSE HR1 hbx; have HB := n0_; have HSE := n1_; have HR1 := n2_; clear n0_ n1_ n2_))))
      go_ret
      exact ⟨by unfold legalB; rw [HO.out]; rfl, HB.out⟩
    | true =>
      have HO := Lib.hid ho
      have hin := ordB_in ho
      have HSP := Lib.hid (fun (W : World) (hs : Sees W w.heap.size A0 l0 c0) (hr : Kd.C k67 W A1 l1.length l1) => spaced_calls w.heap.size A0 l0 c0 A1 c1 l1 W hs hr HC1.out (fun i hi => jobIn_f0 (hin.2 i hi)) (fun i hi => jobIn_f1 (hin.2 i hi)) hin.1)
      cases hp : (List.range l1.length).all (spcAt l0 l1) with
      | false =>
        have HP := Lib.hid hp
        clear ho hin hp
        go_enter Try.func35, Try.ntmps35
        go_wp2_with (first | (go_at_call 97; refine HS.out.mono ?_; rintro e w2 ⟨rfl, hbx⟩; have hcx := (hbx.cell (World.block_lt_of_cell? _ _ hcell)).trans hcell; ((have n0_ := Aside0.mk (below_step HB.out hbx); have n1_ := Aside0.mk (HSE.out.below hbx); have n2_ := Aside0.mk (Kd.C_below HR1.out hbx); clear HB HSE HR1 hbx; have HB := n0_; have HSE := n1_; have HR1 := n2_; clear n0_ n1_ n2_))) | (go_at_call 98; refine (HORD.out _ HSE.out HR1.out).mono ?_; rw [HO.out]; rintro e w3 ⟨rfl, hbx⟩; ((have n0_ := Aside0.mk (below_step HB.out hbx); have n1_ := Aside0.mk (HSE.out.below hbx); have n2_ := Aside0.mk (Kd.C_below HR1.out hbx); clear HB HSE HR1 hbx; have HB := n0_; have HSE := n1_; have HR1 := n2_; clear n0_ n1_ n2_))) | (go_at_call 100; refine (HSP.out _ HSE.out HR1.out).mono ?_; rw [HP.out]; rintro e w4 ⟨rfl, hbx⟩; ((have n0_ := Aside0.mk (below_step HB.out hbx); have n1_ := Aside0.mk (HSE.out.below hbx); have n2_ := Aside0.mk (Kd.C_below HR1.out hbx); clear HB HSE HR1 hbx; have HB := n0_; have HSE := n1_; have HR1 := n2_; clear n0_ n1_ n2_))))
        go_ret
        exact ⟨by unfold legalB; rw [HO.out, HP.out]; rfl, HB.out⟩
      | true =>
        have HP := Lib.hid hp
        have HCF := Lib.hid (fun (W : World) (hs : Sees W w.heap.size A0 l0 c0) (hr : Kd.C k67 W A1 l1.length l1) => ContainsFunc_Job (fun x => !dlOk l0 x) 104 #[.pointer (some ⟨w.heap.size, 0, none⟩)] W l1
          (fun x W' hx hW => by
            obtain ⟨i, hi, rfl⟩ := List.getElem_of_mem hx
            have hj := jobIn_f0 (hin.2 i hi)
            have hg : l1.getD i z67 = l1[i] := by simp [List.getD_eq_getElem?_getD, hi]
            rw [hg] at hj
            exact JobsLegal_3 w.heap.size A0 l0 c0 l1[i] hj.1 hj.2 W' (hs.below hW)) Try.func104 (by kernel_rfl) rfl A1 c1 hr HC1.out)
        have hany : l1.any (fun x => !dlOk l0 x) = !l1.all (dlOk l0) := by rw [List.all_eq_not_any_not, Bool.not_not]
        have HA := Lib.hid hany
        clear ho hin hp hany
        go_enter Try.func35, Try.ntmps35
        go_wp2_with (first | (go_at_call 97; refine HS.out.mono ?_; rintro e w2 ⟨rfl, hbx⟩; have hcx := (hbx.cell (World.block_lt_of_cell? _ _ hcell)).trans hcell; ((have n0_ := Aside0.mk (below_step HB.out hbx); have n1_ := Aside0.mk (HSE.out.below hbx); have n2_ := Aside0.mk (Kd.C_below HR1.out hbx); clear HB HSE HR1 hbx; have HB := n0_; have HSE := n1_; have HR1 := n2_; clear n0_ n1_ n2_))) | (go_at_call 98; refine (HORD.out _ HSE.out HR1.out).mono ?_; rw [HO.out]; rintro e w3 ⟨rfl, hbx⟩; ((have n0_ := Aside0.mk (below_step HB.out hbx); have n1_ := Aside0.mk (HSE.out.below hbx); have n2_ := Aside0.mk (Kd.C_below HR1.out hbx); clear HB HSE HR1 hbx; have HB := n0_; have HSE := n1_; have HR1 := n2_; clear n0_ n1_ n2_))) | (go_at_call 100; refine (HSP.out _ HSE.out HR1.out).mono ?_; rw [HP.out]; rintro e w4 ⟨rfl, hbx⟩; ((have n0_ := Aside0.mk (below_step HB.out hbx); have n1_ := Aside0.mk (HSE.out.below hbx); have n2_ := Aside0.mk (Kd.C_below HR1.out hbx); clear HB HSE HR1 hbx; have HB := n0_; have HSE := n1_; have HR1 := n2_; clear n0_ n1_ n2_))) | (go_at_call 103; refine (HCF.out _ HSE.out HR1.out).mono ?_; rw [HA.out]; rintro e w5 ⟨rfl, hbx⟩; ((have n0_ := Aside0.mk (below_step HB.out hbx); have n1_ := Aside0.mk (HSE.out.below hbx); have n2_ := Aside0.mk (Kd.C_below HR1.out hbx); clear HB HSE HR1 hbx; have HB := n0_; have HSE := n1_; have HR1 := n2_; clear n0_ n1_ n2_))))
        go_ret
        exact ⟨by unfold legalB; rw [HO.out, HP.out]; simp, HB.out⟩

end Go.Proofs.Ytonifhkplniblaa.Print

namespace Go.Proofs.Ytonifhkplniblaa.Print
open Go.RowKit Go.Proofs.YtonifhkplniblaaW.PrintWords Go.Proofs.YtonifhkplniblaaW.PrintLast Go.Proofs.YtonifhkplniblaaW.PrintMore
attribute [local go_sem] max2_int min2_int max_two min_two max_three min_three max_four min_four   -- for this text's walks alone
set_option linter.unusedVariables false
set_option linter.unusedSimpArgs false

/-! ### bits_Mul64: function 176 -/
def bits_Mul64.f (a0 : Int) (a1 : Int) : Option (Int × Int) := some (IntKind.u64.wrap ((IntKind.u64.wrap ((IntKind.u64.wrap ((a0 / 4294967296) * (a1 / 4294967296))) + ((IntKind.u64.wrap ((IntKind.u64.wrap ((a0 / 4294967296) * (Go.bits .and .u64 a1 4294967295))) + ((IntKind.u64.wrap ((Go.bits .and .u64 a0 4294967295) * (Go.bits .and .u64 a1 4294967295))) / 4294967296))) / 4294967296))) + ((IntKind.u64.wrap ((Go.bits .and .u64 (IntKind.u64.wrap ((IntKind.u64.wrap ((a0 / 4294967296) * (Go.bits .and .u64 a1 4294967295))) + ((IntKind.u64.wrap ((Go.bits .and .u64 a0 4294967295) * (Go.bits .and .u64 a1 4294967295))) / 4294967296))) 4294967295) + (IntKind.u64.wrap ((Go.bits .and .u64 a0 4294967295) * (a1 / 4294967296))))) / 4294967296)), IntKind.u64.wrap (a0 * a1))
set_option maxHeartbeats 8000000 in
set_option maxRecDepth 100000 in
theorem bits_Mul64.calls (a0 : Int) (a1 : Int) (r1 : Int) (r2 : Int) (w : World) (h : bits_Mul64.f a0 a1 = some (r1, r2)) :
    Calls Try.prog 176 #[.int .u64 a0, .int .u64 a1] w fun e w' => e = .returned (.tuple #[.int .u64 r1, .int .u64 r2]) ∧ Drawn0 w w' := by
  have H : (some (IntKind.u64.wrap ((IntKind.u64.wrap ((IntKind.u64.wrap ((a0 / 4294967296) * (a1 / 4294967296))) + ((IntKind.u64.wrap ((IntKind.u64.wrap ((a0 / 4294967296) * (Go.bits .and .u64 a1 4294967295))) + ((IntKind.u64.wrap ((Go.bits .and .u64 a0 4294967295) * (Go.bits .and .u64 a1 4294967295))) / 4294967296))) / 4294967296))) + ((IntKind.u64.wrap ((Go.bits .and .u64 (IntKind.u64.wrap ((IntKind.u64.wrap ((a0 / 4294967296) * (Go.bits .and .u64 a1 4294967295))) + ((IntKind.u64.wrap ((Go.bits .and .u64 a0 4294967295) * (Go.bits .and .u64 a1 4294967295))) / 4294967296))) 4294967295) + (IntKind.u64.wrap ((Go.bits .and .u64 a0 4294967295) * (a1 / 4294967296))))) / 4294967296)), IntKind.u64.wrap (a0 * a1))) = some (r1, r2) := h
  clear h
  simp only [Option.some.injEq, Prod.mk.injEq] at H
  obtain ⟨rfl, rfl⟩ := H
  go_enter Try.func176, Try.ntmps176
  go_wp2
  go_ret2
  exact ⟨by first | rfl | (simp; done) | (simp [*]; done) | (simp only [i64_w, i32_w]; done) | (simp [*, i64_w, i32_w]; done), by repeat (first | exact Drawn0.refl _ | apply Drawn0.step)⟩



/-! ### bits_Mul: function 168 -/
def bits_Mul.f (a0 : Int) (a1 : Int) : Option (Int × Int) := (bits_Mul64.f a0 a1).bind fun bt101 => (some (bt101.1, bt101.2))
set_option maxHeartbeats 8000000 in
set_option maxRecDepth 100000 in
theorem bits_Mul.calls (a0 : Int) (a1 : Int) (r1 : Int) (r2 : Int) (w : World) (h : bits_Mul.f a0 a1 = some (r1, r2)) :
    Calls Try.prog 168 #[.int .u64 a0, .int .u64 a1] w fun e w' => e = .returned (.tuple #[.int .u64 r1, .int .u64 r2]) ∧ Drawn0 w w' := by
  have H : ((bits_Mul64.f a0 a1).bind fun bt101 => (some (bt101.1, bt101.2))) = some (r1, r2) := h
  clear h
  replace H := Option.bind_eq_some_iff.mp H
  obtain ⟨⟨t101, t102⟩, A30, H⟩ := H
  replace H : (some (t101, t102)) = some (r1, r2) := H
  have A3 := Aside0.mk A30
  clear A30
  simp only [Option.some.injEq, Prod.mk.injEq] at H
  obtain ⟨rfl, rfl⟩ := H
  go_enter Try.func168, Try.ntmps168
  go_wp2_with (first | ((with_reducible refine gate_callee (f := 176) rfl ?_); refine goesL_ (some 25) rfl rfl Try.func176 (by kernel_rfl) rfl #[.int .u64 a0, .int .u64 a1] rfl (by (try simp only [List.map_toArray, List.map_cons, List.map_nil]); first | done | rfl | (simp only [List.length_drop, List.length_take]; rfl)) ?_; (with_reducible refine (bits_Mul64.calls a0 a1 t101 t102 _ A3.out).mono ?_); rintro e w' ⟨rfl, ⟨nd, rfl⟩⟩; refine ⟨_, rfl, ?_⟩))
  go_ret2
  exact ⟨by first | rfl | (simp; done) | (simp [*]; done) | (simp only [i64_w, i32_w]; done) | (simp [*, i64_w, i32_w]; done), by repeat (first | exact Drawn0.refl _ | apply Drawn0.step)⟩



/-! ### impl_none: function 79 (given) -/
open Go.Proofs.Ytonifhkplniblaa.Walk
def fillM (n m : Nat) : List Int := List.replicate m (-1) ++ List.replicate (n - m) 0
theorem fillM_len {n m : Nat} (h : m ≤ n) : (fillM n m).length = n := by unfold fillM; simp; omega
theorem fillM_step {n m q : Nat} (hq : q ≤ m) (hn : m + q ≤ n) : (fillM n m).take m ++ (fillM n m).take q ++ (fillM n m).drop (m + q) = fillM n (m + q) := by
  unfold fillM
  have e1 : (List.replicate m (-1 : Int) ++ List.replicate (n - m) 0).take m = List.replicate m (-1) := by rw [List.take_append_of_le_length (by simp)]; simp
  have e2 : (List.replicate m (-1 : Int) ++ List.replicate (n - m) 0).take q = List.replicate q (-1) := by rw [List.take_append_of_le_length (by simp; omega)]; simp; omega
  have e3 : (List.replicate m (-1 : Int) ++ List.replicate (n - m) 0).drop (m + q) = List.replicate (n - (m + q)) 0 := by
    rw [List.drop_append, List.drop_eq_nil_of_le (by simp), List.nil_append, List.length_replicate, List.drop_replicate]
    congr 1
    omega
  rw [e1, e2, e3, List.replicate_append_replicate]
theorem mul_one_n {n : Nat} (h : n ≤ 1000000) : bits_Mul.f 1 (n : Int) = some (0, (n : Int)) := by
  unfold bits_Mul.f bits_Mul64.f
  rw [and_low32 1 (by omega) (by omega), and_low32 (n : Int) (by omega) (by omega)]
  simp only [Option.bind_some]
  have e0 : (1 : Int) / 4294967296 = 0 := by decide
  have e1 : (1 : Int) % 4294967296 = 1 := by decide
  have e2 : (n : Int) / 4294967296 = 0 := by omega
  have e3 : (n : Int) % 4294967296 = n := by omega
  have w0 : IntKind.u64.wrap 0 = 0 := by decide
  have wn : IntKind.u64.wrap (n : Int) = n := by simp [IntKind.wrap, IntKind.signed, IntKind.bits]; omega
  simp only [e0, e1, e2, e3, Int.zero_mul, Int.one_mul, Int.mul_zero, Int.add_zero, Int.zero_add, w0, wn]
  rw [and_low32 0 (by omega) (by omega)]
  simp only [show (0 : Int) % 4294967296 = 0 by decide, show (0 : Int) / 4294967296 = 0 by decide, Int.add_zero, w0]
theorem fill0 (n : Nat) : ([-1] : List Int).take (min 1 (List.replicate n (0 : Int)).length) ++ (List.replicate n (0 : Int)).drop (min 1 (List.replicate n (0 : Int)).length) = fillM n (min 1 n) := by
  rw [List.length_replicate]
  cases n with
  | zero => rfl
  | succ n => rw [Nat.min_eq_left (by omega)]; rfl
theorem fillN (n : Nat) : fillM n n = List.replicate n (-1) := by unfold fillM; simp
def RepT9 : Bool × List (List Nat × List Nat) := (true, [([], []), ([], []), ([], []), ([1, 2], [1, 2]), ([], []), ([], []), ([4, 5], [4, 5]), ([3, 6], [3, 6]), ([0, 7], [0, 7]), ([8, 7, 0, 1, 2, 3, 4, 5, 6, 7, 8], [0, 2, 5, 8])])
theorem RepTab9 : rtab .any (opsOf Try.f147 9) = RepT9 := by kernel_rfl
set_option maxHeartbeats 2000000 in
set_option maxRecDepth 100000 in
theorem Repeat_any (A1 : Option Addr) (c1 : Nat) (n : Nat) (w : World) (hr1 : Kd.C (Kd.int .i64) w A1 1 [-1]) (hc1 : 1 ≤ c1) (hn : n ≤ 1000000) :
    Calls Try.prog 147 #[.slice A1 1 c1, .int .i64 n] w fun e w' => ∃ v0_ : Value, e = .returned v0_ ∧ Kd.R (Kd.int .i64) 3 w' w.heap.size (fun _ => True) v0_ (List.replicate n (-1)) ∧ Below w.heap.size w w' := by
  have hm := mul_one_n hn
  have HM := Lib.hid (fun W => bits_Mul.calls 1 (n : Int) 0 (n : Int) W hm)
  have HR1 := Aside0.mk hr1
  have HB := Aside0.mk (Below.refl w.heap.size w)
  have HN := Lib.hid hn
  have q0 : 0 ≤ (n : Int) := by omega
  have q1 : decide ((n : Int) < 0) = false := decide_eq_false (by omega)
  have q2 : decide ((n : Int) > 9223372036854775807) = false := decide_eq_false (by omega)
  have wn : IntKind.u64.wrap (n : Int) = n := by simp [IntKind.wrap, IntKind.signed, IntKind.bits]; omega
  have wi : IntKind.i64.wrap (n : Int) = n := by simp [IntKind.wrap, IntKind.signed, IntKind.bits]; omega
  have hinf : (Try.prog.info? 3).map (fun i => i.size) = some 1 := by kernel_rfl
  clear hm hr1 hc1 hn
  go_enter Try.func147, Try.ntmps147
  go_wp2_with (first | (go_at_call 168; refine (HM.out _).mono ?_; rintro e w2 ⟨rfl, hd⟩; obtain ⟨m, rfl⟩ := hd.out; clear hd) | ((with_reducible refine gate_dst (N := 30) rfl ?_); refine Kd.R_make (Kd.int .i64) _ 3 rfl (N := 30) rfl 30 _ _ rfl (n : Int) rfl rfl Try.underlying30 (.int .i64 0) 8 info3 rfl (by decide) (by omega) 0 (ok := fun _ => True) (okp := fun _ => True) rfl (fun _ hk => hk) trivial q0 (Nat.le_trans (Nat.mul_le_mul_right _ (show ((n : Int)).toNat ≤ 35184372088832 by have := HN.out; omega)) (by omega)) (Below.refl _ _) (Nat.le_refl _) ?_; intro v102 w6 ho7 hb hg_ hnew_; clear hg_ hnew_; simp only [Int.toNat_natCast] at ho7; have n0_ := Aside0.mk (Kd.R_lower ho7 (below_size (by repeat (first | (with_reducible first | exact HB.out | apply below_alloc | apply pw_below_drewN | apply below_drew1) | exact HB.out)))); have n1_ := Aside0.mk (below_step (by repeat (first | (with_reducible first | exact HB.out | apply below_alloc | apply pw_below_drewN | apply below_drew1) | exact HB.out)) hb); clear HB; have HO := n0_; have HB := n1_; clear n0_ n1_ ho7 hb; obtain ⟨A7, c7, rfl⟩ := Kd.R_slice HO.out; simp only [List.length_replicate] at HO ⊢) | ((with_reducible refine gate_builtin (b := .copy) (xs := #[.tmp 31, .tmp 32]) rfl ?_); refine Kd.R_copy (enc := Value.int .i64) (h1 := fun _ => rfl) (0 : Int) (w0 := w) w.heap.size rfl (.tmp 31) (.tmp 32) 30 30 3 rfl Try.underlying30 hinf _ (List.replicate n (0 : Int)) ([-1] : List Int) A1 1 c1 (fun _ => True) rfl rfl ?hO ?hR ?hB ?hS ?_; (case hO => exact HO.out); (case hR => exact Kd.C_below HR1.out (by repeat (first | (with_reducible first | exact HB.out | apply below_alloc | apply pw_below_drewN | apply below_drew1) | exact HB.out))); (case hB => exact (by repeat (first | (with_reducible first | exact HB.out | apply below_alloc | apply pw_below_drewN | apply below_drew1) | exact HB.out))); (case hS => exact (below_size (by repeat (first | (with_reducible first | exact HB.out | apply below_alloc | apply pw_below_drewN | apply below_drew1) | exact HB.out)))); intro w7 ho hb hg; rw [fill0] at ho; simp only [List.length_replicate]; have n0_ := Aside0.mk ho; have n1_ := Aside0.mk hb; clear HO HB; have HO := n0_; have HB := n1_; clear n0_ n1_ ho hb hg))
  go_loopw [8] (fun v8 w' => ∃ m : Nat, v8 = .int .i64 m ∧ Aside0 (m ≤ n ∧ (0 < n → 0 < m)) ∧ Aside0 (Kd.R (Kd.int .i64) 3 w' w.heap.size (fun _ => True) (.slice A7 n c7) (fillM n m)) ∧ Aside0 (Below w.heap.size w w')) (fun v8 _ => n - (intOf v8).toNat)
  case atStart => exact ⟨min 1 n, rfl, ⟨by omega, by omega⟩, HO, HB⟩
  case round =>
    clear HB HO
    obtain ⟨m, rfl, ⟨HJ⟩, HO, HB⟩ := hrel
    by_cases hlt : m < n
    · have b1 : decide ((m : Int) < (n : Int)) = true := decide_eq_true (by omega)
      have hml : (fillM n m).length = n := fillM_len HJ.1
      obtain ⟨g, cap, e1, hge, hglt, _⟩ := Kd.R_form HO.out (by rw [hml]; omega)
      injection e1 with e1 e2 e3
      subst e1 e3
      have hpos : 1 ≤ m := by have := HJ.2; omega
      have hcap := (Kd.R_reads' HO.out).2.1
      have HLT := Lib.hid hlt
      have HPOS := Lib.hid hpos
      have HCAP := Lib.hid hcap
      have HJA := Lib.hid HJ
      have HGE := Lib.hid hge
      have p1 : 0 ≤ (m : Int) := by omega
      have p2 : (m : Int) ≤ (n : Int) := by omega
      have p3 : (m : Int) ≤ (c7 : Int) := by omega
      have p4 : m ≤ n := by omega
      have p5 : m ≤ c7 := by omega
      have p6 : ¬ c7 = m := by omega
      clear hml e2 hge hglt hpos hcap HJ hlt
      go_wp2_with fail
      refine start_ (n := 10) (S := fun _ => True) (ds := []) #[false, false, false, false, false, false, false, false, false, false] (by kernel_rfl) rfl rfl trivial (fun _ => ?_)
      have HT_ := RepTab9
      have HO2 := Aside0.mk (Kd.R_drew HO.out)
      have HB2 := Aside0.mk (below_drew1 HB.out)
      clear HO HB
      generalize wr.drew = w2 at HO2 HB2 ⊢
      refine pure_ (i := 0) (N := some 38) (v := ?_) (a' := ?_) #[true, false, false, false, false, false, false, false, false, false] rfl rfl (any_of HT_ (by kernel_rfl)) (fun _ _ _ h => h) (Or.inl ⟨by rfl, ?_⟩) ?_ ?_
      rotate_left
      · intro w'
        go_simp
        with_reducible rfl
      rotate_left
      · simp only [Act.put, List.setIfInBounds_toArray, List.set_cons_zero, List.set_cons_succ, i64_w, i32_w]
        rfl
      refine pure_ (i := 1) (N := some 39) (v := ?_) (a' := ?_) #[true, true, false, false, false, false, false, false, false, false] rfl rfl (any_of HT_ (by kernel_rfl)) (fun _ _ _ h => h) (Or.inl ⟨by rfl, ?_⟩) ?_ ?_
      rotate_left
      · intro w'
        go_simp
        with_reducible rfl
      rotate_left
      · simp only [Act.put, List.setIfInBounds_toArray, List.set_cons_zero, List.set_cons_succ, i64_w, i32_w]
        rfl
      refine pure_ (i := 2) (N := some 40) (v := ?_) (a' := ?_) #[true, true, true, false, false, false, false, false, false, false] rfl rfl (any_of HT_ (by kernel_rfl)) (fun _ _ _ h => h) (Or.inl ⟨by rfl, ?_⟩) ?_ ?_
      rotate_left
      · intro w'
        go_simp
        with_reducible rfl
      rotate_left
      · simp only [Act.put, List.setIfInBounds_toArray, List.set_cons_zero, List.set_cons_succ, i64_w, i32_w]
        rfl
      refine pure_ (i := 4) (N := some 42) (v := ?_) (a' := ?_) #[true, true, true, false, true, false, false, false, false, false] rfl rfl (any_of HT_ (by kernel_rfl)) (fun _ _ _ h => h) (Or.inl ⟨by rfl, ?_⟩) ?_ ?_
      rotate_left
      · intro w'
        go_simp
        with_reducible rfl
      rotate_left
      · simp only [Act.put, List.setIfInBounds_toArray, List.set_cons_zero, List.set_cons_succ, i64_w, i32_w]
        rfl
      refine pure_ (i := 5) (N := some 43) (v := ?_) (a' := ?_) #[true, true, true, false, true, true, false, false, false, false] rfl rfl (any_of HT_ (by kernel_rfl)) (fun _ _ _ h => h) (Or.inl ⟨by rfl, ?_⟩) ?_ ?_
      rotate_left
      · intro w'
        go_simp
        with_reducible rfl
      rotate_left
      · simp only [Act.put, List.setIfInBounds_toArray, List.set_cons_zero, List.set_cons_succ, i64_w, i32_w]
        rfl
      refine pure_ (i := 3) (N := some 41) (v := ?_) (a' := ?_) #[true, true, true, true, true, true, false, false, false, false] rfl rfl (any_of HT_ (by kernel_rfl)) (fun _ _ _ h => h) (Or.inl ⟨by rfl, ?_⟩) ?_ ?_
      rotate_left
      · intro w'
        go_simp
        with_reducible rfl
      rotate_left
      · simp only [Act.put, List.setIfInBounds_toArray, List.set_cons_zero, List.set_cons_succ, i64_w, i32_w]
        rfl
      refine pure_ (i := 6) (N := some 44) (v := ?_) (a' := ?_) #[true, true, true, true, true, true, true, false, false, false] rfl rfl (any_of HT_ (by kernel_rfl)) (fun _ _ _ h => h) (Or.inl ⟨by rfl, ?_⟩) ?_ ?_
      rotate_left
      · intro w'
        go_simp
        with_reducible rfl
      rotate_left
      · simp only [Act.put, List.setIfInBounds_toArray, List.set_cons_zero, List.set_cons_succ, i64_w, i32_w]
        rfl
      obtain ⟨w1, hr, hR, hB1⟩ := copy_at (0 : Int) (P := Try.prog) (w0 := w) (base := w.heap.size) 30 30 3 Try.underlying30 hinf HO2.out (fillM_len HJA.out.1) HPOS.out HLT.out HB2.out (below_size HB2.out)
      obtain ⟨q, hq⟩ : ∃ q, q = min m (n - m) := ⟨_, rfl⟩
      rw [← hq] at hr hR
      have hj := HJA.out.1
      have hl := HLT.out
      have hp := HPOS.out
      rw [fillM_step (by omega) (by omega)] at hR
      have HQ := Lib.hid (show 1 ≤ q ∧ m + q ≤ n by omega)
      have HO := Aside0.mk hR
      have HB := Aside0.mk hB1
      clear hq hj hl hp hR hB1 HO2 HB2
      refine one_ (i := 7) (N := some 45) #[true, true, true, true, true, true, true, true, false, false] rfl rfl (one_of HT_ (by kernel_rfl)) (by decide) (fun K hK => ?_)
      refine event_stepN (v := .int .i64 ((q : Nat) : Int)) (w1 := w1) (by rfl) rfl ?_ ?_
      · go_simp
      refine hK.out _ _ trivial (fun _ => ?_)
      clear hK K
      simp only [Act.put, List.setIfInBounds_toArray, List.set_cons_zero, List.set_cons_succ, i64_w, i32_w]
      refine pure_ (i := 8) (N := some 46) (v := ?_) (a' := ?_) #[true, true, true, true, true, true, true, true, true, false] rfl rfl (any_of HT_ (by kernel_rfl)) (fun _ _ _ h => h) (Or.inl ⟨by rfl, ?_⟩) ?_ ?_
      rotate_left
      · intro w'
        go_simp
        with_reducible rfl
      rotate_left
      · simp only [Act.put, List.setIfInBounds_toArray, List.set_cons_zero, List.set_cons_succ, i64_w, i32_w]
        rfl
      refine pure_ (i := 9) (N := some 8) (v := ?_) (a' := ?_) #[true, true, true, true, true, true, true, true, true, true] rfl rfl (any_of HT_ (by kernel_rfl)) (fun _ _ _ h => h) (Or.inl ⟨by rfl, ?_⟩) ?_ ?_
      rotate_left
      · intro w'
        go_simp
        with_reducible rfl
      rotate_left
      · simp only [Act.put, List.setIfInBounds_toArray, List.set_cons_zero, List.set_cons_succ, i64_w, i32_w]
        rfl
      refine done_ (done_of HT_ (by kernel_rfl)) ?_
      have hw : wrap64 ((m : Int) + (q : Int)) = ((m + q : Nat) : Int) := by have := HQ.out; have := HN.out; unfold wrap64; omega
      rw [hw]
      try go_wp2
      go_roundw
      case rel => exact ⟨m + q, rfl, ⟨by have := HQ.out; omega, by have := HQ.out; omega⟩, HO, HB⟩
      case measure => have := HQ.out; have := HLT.out; simp [intOf]; omega
    · have b1 : decide ((m : Int) < (n : Int)) = false := decide_eq_false (by omega)
      have hmn : m = n := by omega
      subst hmn
      rw [fillN] at HO
      go_wp2
      go_ret
      exact ⟨_, rfl, by (with_reducible repeat (first | apply Kd.R_alloc | apply Kd.R_drewN | apply Kd.R_drew)); exact HO.out, by repeat (first | (with_reducible first | exact HB.out | apply below_alloc | apply pw_below_drewN | apply below_drew1) | exact HB.out)⟩
def impl_none.f (a0 : Int) : Option (List Int) := if 0 ≤ a0 ∧ a0 ≤ 1000000 then some (List.replicate a0.toNat (-1)) else none
theorem impl_none.calls (a0 : Int) (r : List Int) (w : World) (h : impl_none.f a0 = some r) :
    Calls Try.prog 79 #[.int .i64 a0] w fun e w' => ∃ v0_ : Value, e = .returned v0_ ∧ Kd.R (Kd.int .i64) 3 w' w.heap.size (fun _ => True) v0_ r ∧ Below w.heap.size w w' := by
  unfold impl_none.f at h
  split at h
  · rename_i hc
    obtain rfl := Option.some.inj h
    obtain ⟨n, rfl⟩ := Int.eq_ofNat_of_zero_le hc.1
    simp only [Int.toNat_natCast]
    have hn : n ≤ 1000000 := by omega
    have HN := Lib.hid hn
    have HB := Aside0.mk (Below.refl w.heap.size w)
    have hC : Kd.C (Kd.int .i64) (w.alloc (.cells #[.int .i64 (-1)] 3)) (some ⟨w.heap.size, 0, none⟩) 1 [-1] := by
      refine Kd.C_of_reads (enc := Value.int .i64) (d := (0 : Int)) (h1 := fun _ => rfl) ⟨rfl, by decide, fun _ => ⟨_, rfl, fun j hj => ?_⟩⟩
      obtain rfl : j = 0 := by omega
      show (w.alloc _).cell? ⟨w.heap.size, 0, none⟩ = _
      rw [World.cell?_alloc_at _ _ _ _ rfl]
      rfl
    have HRR := Lib.hid (Repeat_any _ 1 n _ hC (Nat.le_refl _) hn)
    have hB0 : Below w.heap.size w (w.alloc (.cells #[.int .i64 (-1)] 3)) := below_alloc (Below.refl _ _) _
    have HB0 := Lib.hid hB0
    clear hc hn h hC hB0 HB
    go_enter Try.func79, Try.ntmps79
    go_wp2_with (go_at_call 147; refine HRR.out.mono ?_; rintro e w2 ⟨v, rfl, ho, hb⟩; have HO := Aside0.mk (Kd.R_lower ho HB0.out.size); have HB := Aside0.mk (below_step HB0.out hb); clear ho hb)
    go_ret
    exact ⟨_, rfl, HO.out, HB.out⟩
  · cases h



/-! ### slices_Index_int_int: function 162 -/
def slices_Index_int_int.l0 : Nat → List Int → Int → Int → Int → Option (Int)
  | 0, _, _, _, _ => none
  | k + 1, x0, x1, x7, x8 => if x8 < x7 then (if 0 ≤ x8 then (if x8 < (x0.length : Int) then (if x1 = (rd x0 x8) then (some x8) else (slices_Index_int_int.l0 k x0 x1 x7 (wrap64 (x8 + 1)))) else (none)) else (none)) else (some (-1))
def slices_Index_int_int.f (k : Nat) (l0 : List Int) (a1 : Int) : Option (Int) := slices_Index_int_int.l0 k l0 a1 (l0.length : Int) 0
theorem slices_Index_int_int.mono_l : ∀ k, (∀ y0 y1 y2 y3, LeO (slices_Index_int_int.l0 k y0 y1 y2 y3) (slices_Index_int_int.l0 (k + 1) y0 y1 y2 y3))
  | 0 => fun _ _ _ _ r h => by simp [slices_Index_int_int.l0] at h
  | k + 1 => by
    have ih0 := slices_Index_int_int.mono_l k
    · intro y0 y1 y2 y3
      unfold slices_Index_int_int.l0
      repeat' first
      | (with_reducible exact ih0 _ _ _ _)
      | (with_reducible exact LeO.refl _)
      | (with_reducible exact LeO.none _)
      | (with_reducible refine LeO.ite ?_ ?_)
      | (with_reducible refine LeO.bind ?_ (fun _ => ?_))
      | exact ih0 _ _ _ _
      | exact LeO.none _
      | refine LeO.ite ?_ ?_
      | refine LeO.bind ?_ (fun _ => ?_)
theorem slices_Index_int_int.mono : ∀ a0 a1 k, LeO (slices_Index_int_int.f k a0 a1) (slices_Index_int_int.f (k + 1) a0 a1) := by
  intro a0 a1 k
  have ih0 := slices_Index_int_int.mono_l k
  unfold slices_Index_int_int.f
  repeat' first
      | (with_reducible exact ih0 _ _ _ _)
      | (with_reducible exact LeO.refl _)
      | (with_reducible exact LeO.none _)
      | (with_reducible refine LeO.ite ?_ ?_)
      | (with_reducible refine LeO.bind ?_ (fun _ => ?_))
      | exact ih0 _ _ _ _
      | exact LeO.none _
      | refine LeO.ite ?_ ?_
      | refine LeO.bind ?_ (fun _ => ?_)
set_option maxHeartbeats 8000000 in
set_option maxRecDepth 100000 in
theorem slices_Index_int_int.calls (k : Nat) (A0 : Option Addr) (c0 : Nat) (l0 : List Int) (a1 : Int) (r : Int) (w : World) (hr0 : Kd.C (Kd.int .i64) w A0 l0.length l0) (hc0 : l0.length ≤ c0) (h : slices_Index_int_int.f k l0 a1 = some r) :
    Calls Try.prog 162 #[.slice A0 l0.length c0, .int .i64 a1] w fun e w' => e = .returned (.int .i64 r) ∧ Drawn0 w w' := by
  have HR0 := Aside0.mk hr0
  have HC0 := Aside0.mk hc0
  clear hr0 hc0
  have H : (slices_Index_int_int.l0 k l0 a1 (l0.length : Int) 0) = some r := h
  clear h
  have H' := Aside0.mk H
  clear H
  go_enter Try.func162, Try.ntmps162
  go_wp2
  go_loopg [8] k (fun kq v8 w' => ∃ (x8_1 : Int), v8 = .int .i64 x8_1 ∧ Aside0 (slices_Index_int_int.l0 kq l0 a1 (l0.length : Int) x8_1 = some r) ∧ Aside0 (kq ≤ k) ∧ Drawn0 w w')
  case atStart => exact ⟨(0), (by first | rfl | (simp; done) | (simp [*]; done) | (simp only [i64_w, i32_w]; done) | (simp [*, i64_w, i32_w]; done)), H', ⟨Nat.le_refl _⟩, by repeat (first | exact Drawn0.refl _ | apply Drawn0.step)⟩
  case round =>
    clear H'
    try clear c1
    try clear p2
    obtain ⟨x8_1, rfl, HA, HK1, ⟨m1, rfl⟩⟩ := hrel
    cases gk with
    | zero => exact absurd HA.out (by simp [slices_Index_int_int.l0])
    | succ k1 =>
      have H := HA.out
      clear HA
      simp only [slices_Index_int_int.l0] at H
      by_cases c3 : x8_1 < (l0.length : Int)
      · rw [if_pos c3] at H
        have c3b0 : decide (x8_1 < (l0.length : Int)) = true := decide_eq_true c3
        clear c3
        by_cases c4 : 0 ≤ x8_1
        · rw [if_pos c4] at H
          have c4b0 : decide (0 ≤ x8_1) = true := decide_eq_true c4
          clear c4
          by_cases c5 : x8_1 < (l0.length : Int)
          · rw [if_pos c5] at H
            have c5b0 : decide (x8_1 < (l0.length : Int)) = true := decide_eq_true c5
            clear c5
            by_cases c6 : a1 = (rd l0 x8_1)
            · rw [if_pos c6] at H
              have c6b0 : (a1 == (rd l0 x8_1)) = true := beq_iff_eq.mpr c6
              have c6b1 : (a1 != (rd l0 x8_1)) = false := bne_eq_false_iff_eq.mpr c6
              clear c6
              obtain rfl := Option.some.inj H
              have p101 : 0 ≤ (x8_1 : Int) := of_decide_eq_true (by first | (with_reducible assumption) | assumption)
              have q101 : x8_1 < (l0.length : Int) := of_decide_eq_true (by first | (with_reducible assumption) | assumption)
              obtain ⟨ad101, e101, hx101_0⟩ := Kd.at_int HR0.out x8_1 p101 q101
              cases e101
              replace p101 := eq_true p101
              replace q101 := eq_true q101
              go_wp2
              go_ret
              exact ⟨by first | rfl | (simp; done) | (simp [*]; done) | (simp only [i64_w, i32_w]; done) | (simp [*, i64_w, i32_w]; done), by repeat (first | exact Drawn0.refl _ | apply Drawn0.step)⟩
            · rw [if_neg c6] at H
              have c6b0 : (a1 == (rd l0 x8_1)) = false := beq_eq_false_iff_ne.mpr c6
              have c6b1 : (a1 != (rd l0 x8_1)) = true := bne_iff_ne.mpr c6
              have H' := Aside0.mk H
              clear H
              have p101 : 0 ≤ (x8_1 : Int) := of_decide_eq_true (by first | (with_reducible assumption) | assumption)
              have q101 : x8_1 < (l0.length : Int) := of_decide_eq_true (by first | (with_reducible assumption) | assumption)
              obtain ⟨ad101, e101, hx101_0⟩ := Kd.at_int HR0.out x8_1 p101 q101
              cases e101
              replace p101 := eq_true p101
              replace q101 := eq_true q101
              go_wp2
              go_roundg k1
              case measure => have := HK1.out; omega
              case rel => exact ⟨(wrap64 (x8_1 + 1)), (by first | rfl | (simp; done) | (simp [*]; done) | (simp only [i64_w, i32_w]; done) | (simp [*, i64_w, i32_w]; done)), H', ⟨by have := HK1.out; omega⟩, by repeat (first | exact Drawn0.refl _ | apply Drawn0.step)⟩
          · rw [if_neg c5] at H
            exact absurd H (by simp)
        · rw [if_neg c4] at H
          exact absurd H (by simp)
      · rw [if_neg c3] at H
        have c3b0 : decide (x8_1 < (l0.length : Int)) = false := decide_eq_false c3
        clear c3
        obtain rfl := Option.some.inj H
        go_wp2
        go_ret
        exact ⟨by first | rfl | (simp; done) | (simp [*]; done) | (simp only [i64_w, i32_w]; done) | (simp [*, i64_w, i32_w]; done), by repeat (first | exact Drawn0.refl _ | apply Drawn0.step)⟩



/-! ### impl_OrderValid: function 131 -/
def impl_OrderValid.l0 : Nat → List (S62) → List Int → List Int → Int → Int → Option (Bool)
  | 0, _, _, _, _, _ => none
  | k + 1, x0, x1, x7, x8, x9 => if x9 < x8 then (if 0 ≤ x9 then (if x9 < (x7.length : Int) then ((impl_in.f (rd x7 x9) 0 (wrap64 ((x0.length : Int) - 1))).bind fun t103 => (if t103 = true then ((slices_Index_int_int.f k x1 (rd x7 x9)).bind fun t104 => (if t104 = x9 then (impl_OrderValid.l0 k x0 x1 x7 x8 (wrap64 (x9 + 1))) else (some false))) else (some false))) else (none)) else (none)) else ((impl_SetValid.f x0).bind fun t101 => (if t101 = true then (some ((x1.length : Int) == (x0.length : Int))) else (some false)))
def impl_OrderValid.f (k : Nat) (l0 : List (S62)) (l1 : List Int) : Option (Bool) := impl_OrderValid.l0 k l0 l1 l1 (l1.length : Int) 0
theorem impl_OrderValid.mono_l : ∀ k, (∀ y0 y1 y2 y3 y4, LeO (impl_OrderValid.l0 k y0 y1 y2 y3 y4) (impl_OrderValid.l0 (k + 1) y0 y1 y2 y3 y4))
  | 0 => fun _ _ _ _ _ r h => by simp [impl_OrderValid.l0] at h
  | k + 1 => by
    have ih0 := impl_OrderValid.mono_l k
    · intro y0 y1 y2 y3 y4
      unfold impl_OrderValid.l0
      repeat' first
      | (with_reducible exact ih0 _ _ _ _ _)
      | (with_reducible exact slices_Index_int_int.mono _ _ _)
      | (with_reducible exact LeO.refl _)
      | (with_reducible exact LeO.none _)
      | (with_reducible refine LeO.ite ?_ ?_)
      | (with_reducible refine LeO.bind ?_ (fun _ => ?_))
      | exact ih0 _ _ _ _ _
      | exact slices_Index_int_int.mono _ _ _
      | exact LeO.none _
      | refine LeO.ite ?_ ?_
      | refine LeO.bind ?_ (fun _ => ?_)
theorem impl_OrderValid.mono : ∀ a0 a1 k, LeO (impl_OrderValid.f k a0 a1) (impl_OrderValid.f (k + 1) a0 a1) := by
  intro a0 a1 k
  have ih0 := impl_OrderValid.mono_l k
  unfold impl_OrderValid.f
  repeat' first
      | (with_reducible exact ih0 _ _ _ _ _)
      | (with_reducible exact slices_Index_int_int.mono _ _ _)
      | (with_reducible exact LeO.refl _)
      | (with_reducible exact LeO.none _)
      | (with_reducible refine LeO.ite ?_ ?_)
      | (with_reducible refine LeO.bind ?_ (fun _ => ?_))
      | exact ih0 _ _ _ _ _
      | exact slices_Index_int_int.mono _ _ _
      | exact LeO.none _
      | refine LeO.ite ?_ ?_
      | refine LeO.bind ?_ (fun _ => ?_)
set_option maxHeartbeats 8000000 in
set_option maxRecDepth 100000 in
theorem impl_OrderValid.calls (k : Nat) (A0 : Option Addr) (c0 : Nat) (l0 : List (S62)) (A1 : Option Addr) (c1 : Nat) (l1 : List Int) (r : Bool) (w : World) (hr0 : Kd.C k62 w A0 l0.length l0) (hc0 : l0.length ≤ c0) (hr1 : Kd.C (Kd.int .i64) w A1 l1.length l1) (hc1 : l1.length ≤ c1) (h : impl_OrderValid.f k l0 l1 = some r) :
    Calls Try.prog 131 #[.slice A0 l0.length c0, .slice A1 l1.length c1] w fun e w' => e = .returned (.bool r) ∧ Below w.heap.size w w' := by
  have HR0 := Aside0.mk hr0
  have HC0 := Aside0.mk hc0
  clear hr0 hc0
  have HR1 := Aside0.mk hr1
  have HC1 := Aside0.mk hc1
  clear hr1 hc1
  have HB := Aside0.mk (Below.refl w.heap.size w)
  have H : (impl_OrderValid.l0 k l0 l1 l1 (l1.length : Int) 0) = some r := h
  clear h
  have H' := Aside0.mk H
  clear H
  go_enter Try.func131, Try.ntmps131
  go_wp2
  go_loopg [9] k (fun kq v9 w' => ∃ (x9_1 : Int), v9 = .int .i64 x9_1 ∧ Aside0 (impl_OrderValid.l0 kq l0 l1 l1 (l1.length : Int) x9_1 = some r) ∧ Aside0 (kq ≤ k) ∧ Aside0 (Below w.heap.size w w'))
  case atStart => exact ⟨(0), (by first | rfl | (simp; done) | (simp [*]; done) | (simp only [i64_w, i32_w]; done) | (simp [*, i64_w, i32_w]; done)), H', ⟨Nat.le_refl _⟩, ⟨by repeat (first | (with_reducible first | exact HB.out | apply below_alloc | apply pw_below_drewN | apply below_drew1) | exact HB.out)⟩⟩
  case round =>
    clear H'
    try clear c1
    try clear p2
    obtain ⟨x9_1, rfl, HA, HK1, HB⟩ := hrel
    cases gk with
    | zero => exact absurd HA.out (by simp [impl_OrderValid.l0])
    | succ k1 =>
      have H := HA.out
      clear HA
      simp only [impl_OrderValid.l0] at H
      by_cases c3 : x9_1 < (l1.length : Int)
      · rw [if_pos c3] at H
        have c3b0 : decide (x9_1 < (l1.length : Int)) = true := decide_eq_true c3
        clear c3
        by_cases c4 : 0 ≤ x9_1
        · rw [if_pos c4] at H
          have c4b0 : decide (0 ≤ x9_1) = true := decide_eq_true c4
          clear c4
          by_cases c5 : x9_1 < (l1.length : Int)
          · rw [if_pos c5] at H
            have c5b0 : decide (x9_1 < (l1.length : Int)) = true := decide_eq_true c5
            clear c5
            replace H := Option.bind_eq_some_iff.mp H
            obtain ⟨t103, A60, H⟩ := H
            replace H : (if t103 = true then ((slices_Index_int_int.f k1 l1 (rd l1 x9_1)).bind fun t104 => (if t104 = x9_1 then (impl_OrderValid.l0 k1 l0 l1 l1 (l1.length : Int) (wrap64 (x9_1 + 1))) else (some false))) else (some false)) = some r := H
            have A6 := Aside0.mk A60
            clear A60
            by_cases c7 : t103 = true
            · subst c7
              have H1 : ((slices_Index_int_int.f k1 l1 (rd l1 x9_1)).bind fun t104 => (if t104 = x9_1 then (impl_OrderValid.l0 k1 l0 l1 l1 (l1.length : Int) (wrap64 (x9_1 + 1))) else (some false))) = some r := by rw [if_pos rfl] at H; exact H
              clear H
              have H := H1
              clear H1
              replace H := Option.bind_eq_some_iff.mp H
              obtain ⟨t104, A80, H⟩ := H
              replace H : (if t104 = x9_1 then (impl_OrderValid.l0 k1 l0 l1 l1 (l1.length : Int) (wrap64 (x9_1 + 1))) else (some false)) = some r := H
              have A8 := Aside0.mk A80
              clear A80
              by_cases c9 : t104 = x9_1
              · rw [if_pos c9] at H
                have c9b0 : (t104 == x9_1) = true := beq_iff_eq.mpr c9
                have c9b1 : (t104 != x9_1) = false := bne_eq_false_iff_eq.mpr c9
                clear c9
                have H' := Aside0.mk H
                clear H
                have p102 : 0 ≤ (x9_1 : Int) := of_decide_eq_true (by first | (with_reducible assumption) | assumption)
                have q102 : x9_1 < (l1.length : Int) := of_decide_eq_true (by first | (with_reducible assumption) | assumption)
                obtain ⟨ad102, e102, hx102_0⟩ := Kd.at_int HR1.out x9_1 p102 q102
                cases e102
                replace hx102_0 := (HB.out.cell (World.block_lt_of_cell? w _ hx102_0)).trans hx102_0
                replace p102 := eq_true p102
                replace q102 := eq_true q102
                go_wp2_with (first | ((with_reducible refine gate_callee (f := 105) rfl ?_); refine goesL_ (some 18) rfl rfl Try.func105 (by kernel_rfl) rfl #[.int .i64 (rd l1 x9_1), .int .i64 0, .int .i64 (wrap64 ((l0.length : Int) - 1))] rfl (by (try simp only [List.map_toArray, List.map_cons, List.map_nil]); first | done | rfl | (simp only [List.length_drop, List.length_take]; rfl)) ?_; (with_reducible refine (impl_in.calls (rd l1 x9_1) 0 (wrap64 ((l0.length : Int) - 1)) true _ A6.out).mono ?_); rintro e w' ⟨rfl, ⟨nd, rfl⟩⟩; refine ⟨_, rfl, ?_⟩) | (go_at_call 162; (with_reducible refine (slices_Index_int_int.calls k1 _ _ l1 (rd l1 x9_1) t104 _ ?side1 ?side2 A8.out).mono ?_); (case side1 => repeat (first | exact (Kd.C_below HR1.out (by repeat (first | (with_reducible first | exact HB.out | apply below_alloc | apply pw_below_drewN | apply below_drew1) | exact HB.out))) | (with_reducible refine Kd.C_alloc ?_ _) | (with_reducible refine Kd.C_drewN ?_ _) | (with_reducible refine Kd.C_drew ?_))); (case side2 => exact HC1.out); rintro e w' ⟨rfl, ⟨nd, rfl⟩⟩))
                go_roundg k1
                case measure => have := HK1.out; omega
                case rel => exact ⟨(wrap64 (x9_1 + 1)), (by first | rfl | (simp; done) | (simp [*]; done) | (simp only [i64_w, i32_w]; done) | (simp [*, i64_w, i32_w]; done)), H', ⟨by have := HK1.out; omega⟩, ⟨by repeat (first | (with_reducible first | exact HB.out | apply below_alloc | apply pw_below_drewN | apply below_drew1) | exact HB.out)⟩⟩
              · rw [if_neg c9] at H
                have c9b0 : (t104 == x9_1) = false := beq_eq_false_iff_ne.mpr c9
                have c9b1 : (t104 != x9_1) = true := bne_iff_ne.mpr c9
                obtain rfl := Option.some.inj H
                have p102 : 0 ≤ (x9_1 : Int) := of_decide_eq_true (by first | (with_reducible assumption) | assumption)
                have q102 : x9_1 < (l1.length : Int) := of_decide_eq_true (by first | (with_reducible assumption) | assumption)
                obtain ⟨ad102, e102, hx102_0⟩ := Kd.at_int HR1.out x9_1 p102 q102
                cases e102
                replace hx102_0 := (HB.out.cell (World.block_lt_of_cell? w _ hx102_0)).trans hx102_0
                replace p102 := eq_true p102
                replace q102 := eq_true q102
                go_wp2_with (first | ((with_reducible refine gate_callee (f := 105) rfl ?_); refine goesL_ (some 18) rfl rfl Try.func105 (by kernel_rfl) rfl #[.int .i64 (rd l1 x9_1), .int .i64 0, .int .i64 (wrap64 ((l0.length : Int) - 1))] rfl (by (try simp only [List.map_toArray, List.map_cons, List.map_nil]); first | done | rfl | (simp only [List.length_drop, List.length_take]; rfl)) ?_; (with_reducible refine (impl_in.calls (rd l1 x9_1) 0 (wrap64 ((l0.length : Int) - 1)) true _ A6.out).mono ?_); rintro e w' ⟨rfl, ⟨nd, rfl⟩⟩; refine ⟨_, rfl, ?_⟩) | (go_at_call 162; (with_reducible refine (slices_Index_int_int.calls k1 _ _ l1 (rd l1 x9_1) t104 _ ?side1 ?side2 A8.out).mono ?_); (case side1 => repeat (first | exact (Kd.C_below HR1.out (by repeat (first | (with_reducible first | exact HB.out | apply below_alloc | apply pw_below_drewN | apply below_drew1) | exact HB.out))) | (with_reducible refine Kd.C_alloc ?_ _) | (with_reducible refine Kd.C_drewN ?_ _) | (with_reducible refine Kd.C_drew ?_))); (case side2 => exact HC1.out); rintro e w' ⟨rfl, ⟨nd, rfl⟩⟩))
                go_ret
                exact ⟨by first | rfl | (simp [errW_none, errW_some] <;> rfl) | (simp [*, errW_none, errW_some] <;> rfl), by repeat (first | (with_reducible first | exact HB.out | apply below_alloc | apply pw_below_drewN | apply below_drew1) | exact HB.out)⟩
            · replace c7 := Bool.eq_false_iff.mpr c7
              subst c7
              have H1 : (some false) = some r := by rw [if_neg (show ¬ (false = true) by decide)] at H; exact H
              clear H
              have H := H1
              clear H1
              obtain rfl := Option.some.inj H
              have p102 : 0 ≤ (x9_1 : Int) := of_decide_eq_true (by first | (with_reducible assumption) | assumption)
              have q102 : x9_1 < (l1.length : Int) := of_decide_eq_true (by first | (with_reducible assumption) | assumption)
              obtain ⟨ad102, e102, hx102_0⟩ := Kd.at_int HR1.out x9_1 p102 q102
              cases e102
              replace hx102_0 := (HB.out.cell (World.block_lt_of_cell? w _ hx102_0)).trans hx102_0
              replace p102 := eq_true p102
              replace q102 := eq_true q102
              go_wp2_with (first | ((with_reducible refine gate_callee (f := 105) rfl ?_); refine goesL_ (some 18) rfl rfl Try.func105 (by kernel_rfl) rfl #[.int .i64 (rd l1 x9_1), .int .i64 0, .int .i64 (wrap64 ((l0.length : Int) - 1))] rfl (by (try simp only [List.map_toArray, List.map_cons, List.map_nil]); first | done | rfl | (simp only [List.length_drop, List.length_take]; rfl)) ?_; (with_reducible refine (impl_in.calls (rd l1 x9_1) 0 (wrap64 ((l0.length : Int) - 1)) false _ A6.out).mono ?_); rintro e w' ⟨rfl, ⟨nd, rfl⟩⟩; refine ⟨_, rfl, ?_⟩))
              go_ret
              exact ⟨by first | rfl | (simp [errW_none, errW_some] <;> rfl) | (simp [*, errW_none, errW_some] <;> rfl), by repeat (first | (with_reducible first | exact HB.out | apply below_alloc | apply pw_below_drewN | apply below_drew1) | exact HB.out)⟩
          · rw [if_neg c5] at H
            exact absurd H (by simp)
        · rw [if_neg c4] at H
          exact absurd H (by simp)
      · rw [if_neg c3] at H
        have c3b0 : decide (x9_1 < (l1.length : Int)) = false := decide_eq_false c3
        clear c3
        replace H := Option.bind_eq_some_iff.mp H
        obtain ⟨t101, A100, H⟩ := H
        replace H : (if t101 = true then (some ((l1.length : Int) == (l0.length : Int))) else (some false)) = some r := H
        have A10 := Aside0.mk A100
        clear A100
        by_cases c11 : t101 = true
        · subst c11
          have H1 : (some ((l1.length : Int) == (l0.length : Int))) = some r := by rw [if_pos rfl] at H; exact H
          clear H
          have H := H1
          clear H1
          obtain rfl := Option.some.inj H
          go_wp2_with (first | ((with_reducible refine gate_callee (f := 97) rfl ?_); refine goesL_ (some 29) rfl rfl Try.func97 (by kernel_rfl) rfl #[.slice A0 l0.length c0] rfl (by (try simp only [List.map_toArray, List.map_cons, List.map_nil]); first | done | rfl | (simp only [List.length_drop, List.length_take]; rfl)) ?_; (with_reducible refine (impl_SetValid.calls _ _ l0 true _ ?side1 ?side2 A10.out).mono ?_); (case side1 => repeat (first | exact (Kd.C_below HR0.out HB.out) | (with_reducible refine Kd.C_alloc ?_ _) | (with_reducible refine Kd.C_drewN ?_ _) | (with_reducible refine Kd.C_drew ?_))); (case side2 => exact HC0.out); rintro e w12 ⟨rfl, hb⟩; refine ⟨_, rfl, ?_⟩; have n0_ := Aside0.mk (below_step (by repeat (first | (with_reducible first | exact HB.out | apply below_alloc | apply pw_below_drewN | apply below_drew1) | exact HB.out)) hb); clear HB; have HB := n0_; clear n0_; (try clear hb); (try clear hb2); (try clear hk); (try clear hi)))
          go_ret
          exact ⟨by first | rfl | (simp [errW_none, errW_some] <;> rfl) | (simp [*, errW_none, errW_some] <;> rfl), by repeat (first | (with_reducible first | exact HB.out | apply below_alloc | apply pw_below_drewN | apply below_drew1) | exact HB.out)⟩
        · replace c11 := Bool.eq_false_iff.mpr c11
          subst c11
          have H1 : (some false) = some r := by rw [if_neg (show ¬ (false = true) by decide)] at H; exact H
          clear H
          have H := H1
          clear H1
          obtain rfl := Option.some.inj H
          go_wp2_with (first | ((with_reducible refine gate_callee (f := 97) rfl ?_); refine goesL_ (some 29) rfl rfl Try.func97 (by kernel_rfl) rfl #[.slice A0 l0.length c0] rfl (by (try simp only [List.map_toArray, List.map_cons, List.map_nil]); first | done | rfl | (simp only [List.length_drop, List.length_take]; rfl)) ?_; (with_reducible refine (impl_SetValid.calls _ _ l0 false _ ?side1 ?side2 A10.out).mono ?_); (case side1 => repeat (first | exact (Kd.C_below HR0.out HB.out) | (with_reducible refine Kd.C_alloc ?_ _) | (with_reducible refine Kd.C_drewN ?_ _) | (with_reducible refine Kd.C_drew ?_))); (case side2 => exact HC0.out); rintro e w13 ⟨rfl, hb⟩; refine ⟨_, rfl, ?_⟩; have n0_ := Aside0.mk (below_step (by repeat (first | (with_reducible first | exact HB.out | apply below_alloc | apply pw_below_drewN | apply below_drew1) | exact HB.out)) hb); clear HB; have HB := n0_; clear n0_; (try clear hb); (try clear hb2); (try clear hk); (try clear hi)))
          go_ret
          exact ⟨by first | rfl | (simp [errW_none, errW_some] <;> rfl) | (simp [*, errW_none, errW_some] <;> rfl), by repeat (first | (with_reducible first | exact HB.out | apply below_alloc | apply pw_below_drewN | apply below_drew1) | exact HB.out)⟩



/-! ### impl_RunFixed: function 56 (given) -/
open Go.Proofs.Ytonifhkplniblaa.Walk
/-- A simulation, as it is read. -/
def MachR (W : World) (g : Nat) (A : Option Addr) (c : Nat) (jobs : List (S67)) (D : Option Addr) (cd : Nat) (done : List Int) (now : Int) : Prop :=
  W.heap[g]? = some (.cells #[.slice A jobs.length c, .slice D done.length cd, .int .i64 now] 124 (0, 0)) ∧ Kd.C k67 W A jobs.length jobs ∧ Kd.C (Kd.int .i64) W D done.length done ∧ done.length = jobs.length
theorem MachR.drewN {W : World} {g : Nat} {A : Option Addr} {c : Nat} {jobs : List (S67)} {D : Option Addr} {cd : Nat} {done : List Int} {now : Int} (h : MachR W g A c jobs D cd done now) (n : Nat) : MachR (W.drewN n) g A c jobs D cd done now :=
  ⟨blk_drewN h.1 n, Kd.C_drewN h.2.1 n, Kd.C_drewN h.2.2.1 n, h.2.2.2⟩
theorem MachR.below {W W' : World} {g : Nat} {A : Option Addr} {c : Nat} {jobs : List (S67)} {D : Option Addr} {cd : Nat} {done : List Int} {now : Int} (h : MachR W g A c jobs D cd done now) (hb : Below W.heap.size W W') : MachR W' g A c jobs D cd done now :=
  ⟨blk_below h.1 hb, Kd.C_below h.2.1 hb, Kd.C_below h.2.2.1 hb, h.2.2.2⟩
/-- Whether a job is released and unfinished. -/
def rdyB (jobs : List (S67)) (done : List Int) (now : Int) (i : Nat) : Bool := decide ((jobs.getD i z67).f1 ≤ now) && decide (done.getD i 0 < (jobs.getD i z67).f3)
set_option maxHeartbeats 2000000 in
set_option maxRecDepth 100000 in
theorem ready_calls (g : Nat) (A : Option Addr) (c : Nat) (jobs : List (S67)) (D : Option Addr) (cd : Nat) (done : List Int) (now : Int) (i : Nat) (hi : i < jobs.length) (w : World) (h : MachR w g A c jobs D cd done now) :
    Calls Try.prog 110 #[.pointer (some ⟨g, 0, none⟩), .int .i64 (i : Int)] w fun e w' => e = .returned (.bool (rdyB jobs done now i)) ∧ ∃ m, w' = w.drewN m := by
  obtain ⟨hb, hj, hd, hl⟩ := h
  have hm0 : w.cell? ⟨g, 0, none⟩ = some (.slice A jobs.length c) := (blk_cell hb 0).trans rfl
  have hm1 : w.cell? ⟨g, 1, none⟩ = some (.slice D done.length cd) := (blk_cell hb 1).trans rfl
  have hm2 : w.cell? ⟨g, 2, none⟩ = some (.int .i64 now) := (blk_cell hb 2).trans rfl
  obtain ⟨ad0, e0, hy0, hy1, hy2, hy3⟩ := at_T67 hj (i : Int) (by omega) (by omega)
  cases e0
  obtain ⟨ad1, e1, hx0⟩ := Kd.at_int hd (i : Int) (by omega) (by omega)
  cases e1
  simp only [Int.toNat_natCast] at hy0 hy1 hy2 hy3 hx0
  have hrd : rd_T67 jobs (i : Int) = jobs.getD i z67 := rfl
  have hrd1 : rd done (i : Int) = done.getD i 0 := rfl
  rw [hrd] at hy0 hy1 hy2 hy3
  rw [hrd1] at hx0
  have hu := Try.underlying124
  have huJ := Try.underlying67
  have q0 : 0 ≤ (i : Int) := by omega
  have q1 : (i : Int) < (jobs.length : Int) := by omega
  have q2 : (i : Int) < (done.length : Int) := by omega
  unfold rdyB
  obtain ⟨y, hy⟩ : ∃ y, y = jobs.getD i z67 := ⟨_, rfl⟩
  rw [← hy] at hy0 hy1 hy2 hy3 ⊢
  obtain ⟨x, hx⟩ : ∃ x, x = done.getD i 0 := ⟨_, rfl⟩
  rw [← hx] at hx0 ⊢
  clear hrd hrd1 hy hx hb hj hd hl
  obtain ⟨ya, yb, yc, yd⟩ := y
  simp only at hy0 hy1 hy2 hy3 ⊢
  by_cases d1 : yb ≤ now
  · have d1b : decide (yb ≤ now) = true := decide_eq_true d1
    rw [d1b]
    clear d1
    go_enter Try.func110, Try.ntmps110
    go_wp2_with fail
    go_quiet (fail)
    go_wp2
    go_ret
    exact ⟨by simp, _, rfl⟩
  · have d1b : decide (yb ≤ now) = false := decide_eq_false d1
    rw [d1b]
    clear d1
    go_enter Try.func110, Try.ntmps110
    go_wp2_with fail
    go_quiet (fail)
    go_wp2
    go_ret
    exact ⟨by simp, _, rfl⟩
set_option maxHeartbeats 2000000 in
set_option maxRecDepth 100000 in
theorem deadline_calls (g : Nat) (A : Option Addr) (c : Nat) (jobs : List (S67)) (D : Option Addr) (cd : Nat) (done : List Int) (now : Int) (i : Nat) (hi : i < jobs.length) (w : World) (h : MachR w g A c jobs D cd done now) :
    Calls Try.prog 112 #[.pointer (some ⟨g, 0, none⟩), .int .i64 (i : Int)] w fun e w' => e = .returned (.int .i64 (jobs.getD i z67).f2) ∧ ∃ m, w' = w.drewN m := by
  obtain ⟨hb, hj, hd, hl⟩ := h
  have hm0 : w.cell? ⟨g, 0, none⟩ = some (.slice A jobs.length c) := (blk_cell hb 0).trans rfl
  obtain ⟨ad0, e0, hy0, hy1, hy2, hy3⟩ := at_T67 hj (i : Int) (by omega) (by omega)
  cases e0
  simp only [Int.toNat_natCast] at hy0 hy1 hy2 hy3
  have hrd : rd_T67 jobs (i : Int) = jobs.getD i z67 := rfl
  rw [hrd] at hy0 hy1 hy2 hy3
  have hu := Try.underlying124
  have huJ := Try.underlying67
  have q0 : 0 ≤ (i : Int) := by omega
  have q1 : (i : Int) < (jobs.length : Int) := by omega
  obtain ⟨y, hy⟩ : ∃ y, y = jobs.getD i z67 := ⟨_, rfl⟩
  rw [← hy] at hy0 hy1 hy2 hy3 ⊢
  clear hrd hy hb hj hd hl
  obtain ⟨ya, yb, yc, yd⟩ := y
  go_enter Try.func112, Try.ntmps112
  go_wp2
  go_ret
  exact ⟨rfl, 0, rfl⟩
theorem any_calls (v : Value) (i : Int) (w : World) :
    Calls Try.prog 148 #[v, .int .i64 i] w fun e w' => e = .returned (.bool true) ∧ ∃ m, w' = w.drewN m := by
  go_enter Try.func148, Try.ntmps148
  go_wp2
  go_ret
  exact ⟨rfl, 0, rfl⟩
/-- The first of the candidates with the least key, among the first. -/
def bestN (ok : Nat → Bool) (key : Nat → Int) : Nat → Int
  | 0 => -1
  | j + 1 => if ok j && (decide (bestN ok key j < 0) || decide (key j < key (bestN ok key j).toNat)) then (j : Int) else bestN ok key j
theorem bestN_in (ok : Nat → Bool) (key : Nat → Int) : ∀ j, -1 ≤ bestN ok key j ∧ bestN ok key j < j
  | 0 => by simp [bestN]
  | j + 1 => by
    have := bestN_in ok key j
    unfold bestN
    split <;> omega
theorem bestN_ok (ok : Nat → Bool) (key : Nat → Int) : ∀ j, 0 ≤ bestN ok key j → ok (bestN ok key j).toNat = true
  | 0, h => by simp [bestN] at h
  | j + 1, h => by
    have ih := bestN_ok ok key j
    unfold bestN at h ⊢
    split
    · rename_i g
      rw [Bool.and_eq_true] at g
      simpa using g.1
    · rename_i g
      rw [if_neg g] at h
      exact ih h
set_option maxHeartbeats 4000000 in
set_option maxRecDepth 100000 in
theorem best_calls (g : Nat) (A : Option Addr) (c : Nat) (jobs : List (S67)) (D : Option Addr) (cd : Nat) (done : List Int) (now : Int) (w : World) (h : MachR w g A c jobs D cd done now) (key : Nat → Int) (may : Nat → Bool)
    (fk : FuncId) (k1 k2 : Array Value) {fnk : Func} (hfk : Try.prog.funcs[fk]? = some fnk) (hnk : (fnk.name == "runtime.NumGoroutine") = false) (hbk : fnk.body.isSome = true)
    (hck : ∀ (i n : Nat), i < jobs.length → Calls Try.prog fk (k1 ++ #[.int .i64 (i : Int)] ++ k2) (w.drewN n) fun e w' => e = .returned (.int .i64 (key i)) ∧ ∃ m, w' = (w.drewN n).drewN m)
    (fm : FuncId) (m1 m2 : Array Value) {fnm : Func} (hfm : Try.prog.funcs[fm]? = some fnm) (hnm : (fnm.name == "runtime.NumGoroutine") = false) (hbm : fnm.body.isSome = true)
    (hcm : ∀ (i n : Nat), i < jobs.length → Calls Try.prog fm (m1 ++ #[.int .i64 (i : Int)] ++ m2) (w.drewN n) fun e w' => e = .returned (.bool (may i)) ∧ ∃ m, w' = (w.drewN n).drewN m) :
    Calls Try.prog 111 #[.pointer (some ⟨g, 0, none⟩), .func (.func fk) k1 k2, .func (.func fm) m1 m2] w fun e w' => e = .returned (.int .i64 (bestN (fun i => rdyB jobs done now i && may i) key jobs.length)) ∧ ∃ m, w' = w.drewN m := by
  have HM := Aside0.mk h
  have hu := Try.underlying124
  have hm0 : w.cell? ⟨g, 0, none⟩ = some (.slice A jobs.length c) := (blk_cell h.1 0).trans rfl
  have hmx : jobs.length ≤ 9223372036854775807 := h.2.1.2.1
  have HFK := Aside0.mk hfk
  have HFM := Aside0.mk hfm
  have HCK := Aside0.mk hck
  have HCM := Aside0.mk hcm
  obtain ⟨B, hB⟩ : ∃ B, B = bestN (fun i => rdyB jobs done now i && may i) key := ⟨_, rfl⟩
  rw [← hB]
  have HIN : Hid (∀ j, -1 ≤ B j ∧ B j < j) := Lib.hid (by rw [hB]; exact bestN_in _ _)
  have HBS : Hid (∀ j, B (j + 1) = if (rdyB jobs done now j && may j) && (decide (B j < 0) || decide (key j < key (B j).toNat)) then (j : Int) else B j) := Lib.hid (fun j => by rw [hB]; rfl)
  have HB0 : Hid (B 0 = -1) := Lib.hid (by rw [hB]; rfl)
  clear h hfk hfm hck hcm hB
  go_enter Try.func111, Try.ntmps111
  go_wp2
  go_loopw [7, 14] (fun v7 v14 w' => ∃ j : Nat, v14 = .int .i64 j ∧ j ≤ jobs.length ∧ v7 = .int .i64 (B j) ∧ ∃ n, w' = w.drewN n) (fun v7 v14 _ => jobs.length - (intOf v14).toNat)
  case atStart => exact ⟨0, rfl, Nat.zero_le _, by rw [HB0.out], 0, rfl⟩
  case round =>
    obtain ⟨j, rfl, hj, rfl, n, rfl⟩ := hrel
    have hin := HIN.out j
    have hst := HBS.out j
    obtain ⟨b, hb⟩ : ∃ b, b = B j := ⟨_, rfl⟩
    rw [← hb] at hin hst ⊢
    by_cases hlt : j < jobs.length
    · have b1 : decide ((j : Int) < (jobs.length : Int)) = true := decide_eq_true (by omega)
      have hr0 := fun n => ready_calls g A c jobs D cd done now j hlt (w.drewN n) (HM.out.drewN n)
      cases hr : rdyB jobs done now j with
      | false =>
        have HN : Hid (B (j + 1) = b) := Lib.hid (by rw [hst, hr]; rfl)
        have HRDY : Hid (∀ n, Calls Try.prog 110 #[.pointer (some ⟨g, 0, none⟩), .int .i64 (j : Int)] (w.drewN n) fun e w' => e = .returned (.bool false) ∧ ∃ m, w' = (w.drewN n).drewN m) := Lib.hid (fun n => by rw [← hr]; exact hr0 n)
        clear hst hr hr0 hin hb
        go_wp2_with ((go_at_call 110; refine (HRDY.out _).mono ?_; rintro e w2 ⟨rfl, mm, rfl⟩; rw [World.drewN_drewN]))
        ((go_roundw; (case rel => exact ⟨j + 1, by go_num, by omega, by rw [HN.out], _, rfl⟩); (case measure => simp [intOf]; omega)))
      | true =>
        have HRDY : Hid (∀ n, Calls Try.prog 110 #[.pointer (some ⟨g, 0, none⟩), .int .i64 (j : Int)] (w.drewN n) fun e w' => e = .returned (.bool true) ∧ ∃ m, w' = (w.drewN n).drewN m) := Lib.hid (fun n => by rw [← hr]; exact hr0 n)
        cases hy : may j with
        | false =>
          have HN : Hid (B (j + 1) = b) := Lib.hid (by rw [hst, hr, hy]; rfl)
          have HMAY : Hid (∀ n, Calls Try.prog fm (m1 ++ #[.int .i64 (j : Int)] ++ m2) (w.drewN n) fun e w' => e = .returned (.bool false) ∧ ∃ m, w' = (w.drewN n).drewN m) := Lib.hid (fun n => by rw [← hy]; exact HCM.out j n hlt)
          clear hst hr hr0 hin hb hy
          go_wp2_with (first | ((go_at_call 110; refine (HRDY.out _).mono ?_; rintro e w2 ⟨rfl, mm, rfl⟩; rw [World.drewN_drewN])) | ((with_reducible refine gate_value (n := 21) rfl ?_; refine gate_guard (by first | rfl | (go_simp; done) | (simp [go_sem]; done)) ?_; dsimp only; go_must (refine goesF_ (some 23) rfl rfl rfl rfl HFM.out hnm hbm (m1 ++ #[.int .i64 (j : Int)] ++ m2) (by simp [Act.eval]) ?_; refine (HMAY.out _).mono ?_; rintro e w2 ⟨rfl, mm, rfl⟩; rw [World.drewN_drewN]; refine ⟨_, rfl, ?_⟩))))
          ((go_roundw; (case rel => exact ⟨j + 1, by go_num, by omega, by rw [HN.out], _, rfl⟩); (case measure => simp [intOf]; omega)))
        | true =>
          have HMAY : Hid (∀ n, Calls Try.prog fm (m1 ++ #[.int .i64 (j : Int)] ++ m2) (w.drewN n) fun e w' => e = .returned (.bool true) ∧ ∃ m, w' = (w.drewN n).drewN m) := Lib.hid (fun n => by rw [← hy]; exact HCM.out j n hlt)
          by_cases hneg : b < 0
          · have hnb : decide (b < 0) = true := decide_eq_true hneg
            have HN : Hid (B (j + 1) = (j : Int)) := Lib.hid (by rw [hst, hr, hy, hnb]; rfl)
            clear hst hr hr0 hin hb hy hneg
            go_wp2_with (first | ((go_at_call 110; refine (HRDY.out _).mono ?_; rintro e w2 ⟨rfl, mm, rfl⟩; rw [World.drewN_drewN])) | ((with_reducible refine gate_value (n := 21) rfl ?_; refine gate_guard (by first | rfl | (go_simp; done) | (simp [go_sem]; done)) ?_; dsimp only; go_must (refine goesF_ (some 23) rfl rfl rfl rfl HFM.out hnm hbm (m1 ++ #[.int .i64 (j : Int)] ++ m2) (by simp [Act.eval]) ?_; refine (HMAY.out _).mono ?_; rintro e w2 ⟨rfl, mm, rfl⟩; rw [World.drewN_drewN]; refine ⟨_, rfl, ?_⟩))))
            ((go_roundw; (case rel => exact ⟨j + 1, by go_num, by omega, by rw [HN.out], _, rfl⟩); (case measure => simp [intOf]; omega)))
          · have hnb : decide (b < 0) = false := decide_eq_false hneg
            have HKA : Hid (∀ n, Calls Try.prog fk (k1 ++ #[.int .i64 (j : Int)] ++ k2) (w.drewN n) fun e w' => e = .returned (.int .i64 (key j)) ∧ ∃ m, w' = (w.drewN n).drewN m) := Lib.hid (fun n => HCK.out j n hlt)
            have HKB : Hid (∀ n, Calls Try.prog fk (k1 ++ #[.int .i64 b] ++ k2) (w.drewN n) fun e w' => e = .returned (.int .i64 (key b.toNat)) ∧ ∃ m, w' = (w.drewN n).drewN m) := Lib.hid (fun n => by
              have hbe : b = ((b.toNat : Nat) : Int) := by omega
              have := HCK.out b.toNat n (by omega)
              rw [← hbe] at this
              exact this)
            by_cases hk : key j < key b.toNat
            · have hkb : decide (key j < key b.toNat) = true := decide_eq_true hk
              have HN : Hid (B (j + 1) = (j : Int)) := Lib.hid (by rw [hst, hr, hy, hkb]; simp)
              clear hst hr hr0 hin hb hy hneg hk
              go_wp2_with (first | ((go_at_call 110; refine (HRDY.out _).mono ?_; rintro e w2 ⟨rfl, mm, rfl⟩; rw [World.drewN_drewN])) | ((with_reducible refine gate_value (n := 21) rfl ?_; refine gate_guard (by first | rfl | (go_simp; done) | (simp [go_sem]; done)) ?_; dsimp only; go_must (refine goesF_ (some 23) rfl rfl rfl rfl HFM.out hnm hbm (m1 ++ #[.int .i64 (j : Int)] ++ m2) (by simp [Act.eval]) ?_; refine (HMAY.out _).mono ?_; rintro e w2 ⟨rfl, mm, rfl⟩; rw [World.drewN_drewN]; refine ⟨_, rfl, ?_⟩))) | ((with_reducible refine gate_value (n := 29) rfl ?_; refine gate_guard (by first | rfl | (go_simp; done) | (simp [go_sem]; done)) ?_; dsimp only; go_must (refine goesF_ (some 31) rfl rfl rfl rfl HFK.out hnk hbk (k1 ++ #[.int .i64 (j : Int)] ++ k2) (by simp [Act.eval]) ?_; refine (HKA.out _).mono ?_; rintro e w2 ⟨rfl, mm, rfl⟩; rw [World.drewN_drewN]; refine ⟨_, rfl, ?_⟩))) | ((with_reducible refine gate_value (n := 32) rfl ?_; refine gate_guard (by first | rfl | (go_simp; done) | (simp [go_sem]; done)) ?_; dsimp only; go_must (refine goesF_ (some 34) rfl rfl rfl rfl HFK.out hnk hbk (k1 ++ #[.int .i64 b] ++ k2) (by simp [Act.eval]) ?_; refine (HKB.out _).mono ?_; rintro e w2 ⟨rfl, mm, rfl⟩; rw [World.drewN_drewN]; refine ⟨_, rfl, ?_⟩))))
              ((go_roundw; (case rel => exact ⟨j + 1, by go_num, by omega, by rw [HN.out], _, rfl⟩); (case measure => simp [intOf]; omega)))
            · have hkb : decide (key j < key b.toNat) = false := decide_eq_false hk
              have HN : Hid (B (j + 1) = b) := Lib.hid (by rw [hst, hr, hy, hnb, hkb]; rfl)
              clear hst hr hr0 hin hb hy hneg hk
              go_wp2_with (first | ((go_at_call 110; refine (HRDY.out _).mono ?_; rintro e w2 ⟨rfl, mm, rfl⟩; rw [World.drewN_drewN])) | ((with_reducible refine gate_value (n := 21) rfl ?_; refine gate_guard (by first | rfl | (go_simp; done) | (simp [go_sem]; done)) ?_; dsimp only; go_must (refine goesF_ (some 23) rfl rfl rfl rfl HFM.out hnm hbm (m1 ++ #[.int .i64 (j : Int)] ++ m2) (by simp [Act.eval]) ?_; refine (HMAY.out _).mono ?_; rintro e w2 ⟨rfl, mm, rfl⟩; rw [World.drewN_drewN]; refine ⟨_, rfl, ?_⟩))) | ((with_reducible refine gate_value (n := 29) rfl ?_; refine gate_guard (by first | rfl | (go_simp; done) | (simp [go_sem]; done)) ?_; dsimp only; go_must (refine goesF_ (some 31) rfl rfl rfl rfl HFK.out hnk hbk (k1 ++ #[.int .i64 (j : Int)] ++ k2) (by simp [Act.eval]) ?_; refine (HKA.out _).mono ?_; rintro e w2 ⟨rfl, mm, rfl⟩; rw [World.drewN_drewN]; refine ⟨_, rfl, ?_⟩))) | ((with_reducible refine gate_value (n := 32) rfl ?_; refine gate_guard (by first | rfl | (go_simp; done) | (simp [go_sem]; done)) ?_; dsimp only; go_must (refine goesF_ (some 34) rfl rfl rfl rfl HFK.out hnk hbk (k1 ++ #[.int .i64 b] ++ k2) (by simp [Act.eval]) ?_; refine (HKB.out _).mono ?_; rintro e w2 ⟨rfl, mm, rfl⟩; rw [World.drewN_drewN]; refine ⟨_, rfl, ?_⟩))))
              ((go_roundw; (case rel => exact ⟨j + 1, by go_num, by omega, by rw [HN.out], _, rfl⟩); (case measure => simp [intOf]; omega)))
    · have b1 : decide ((j : Int) < (jobs.length : Int)) = false := decide_eq_false (by omega)
      have hje : j = jobs.length := by omega
      subst hje
      have HBE := Lib.hid hb
      clear hst hin hb
      go_wp2
      go_ret
      exact ⟨by rw [← HBE.out]; rfl, _, rfl⟩
set_option maxHeartbeats 1000000 in
theorem edf_calls (g : Nat) (A : Option Addr) (c : Nat) (jobs : List (S67)) (D : Option Addr) (cd : Nat) (done : List Int) (now : Int) (w : World) (h : MachR w g A c jobs D cd done now) :
    Calls Try.prog 82 #[.pointer (some ⟨g, 0, none⟩)] w fun e w' => e = .returned (.int .i64 (bestN (rdyB jobs done now) (fun i => (jobs.getD i z67).f2) jobs.length)) ∧ ∃ m, w' = w.drewN m := by
  have hmf : ∀ (fn : Fn) (first cap : Array Value) (w : World), (Instr.makeFunc fn first cap).run Try.prog w = .ok (.func fn first cap) w := fun _ _ _ _ => rfl
  have H := Lib.hid (best_calls g A c jobs D cd done now w h (fun i => (jobs.getD i z67).f2) (fun _ => true) 112 #[.pointer (some ⟨g, 0, none⟩)] #[] Try.func112 (by kernel_rfl) rfl
    (fun i n hi => deadline_calls g A c jobs D cd done now i hi (w.drewN n) (h.drewN n)) 148 #[.pointer (some ⟨g, 0, none⟩)] #[] Try.func148 (by kernel_rfl) rfl (fun i n hi => any_calls _ i (w.drewN n)))
  have he : (fun i => rdyB jobs done now i && true) = rdyB jobs done now := by funext i; simp
  have HE := Lib.hid he
  clear h he
  go_enter Try.func82, Try.ntmps82
  go_wp2_with (go_at_call 111; refine H.out.mono ?_; rw [HE.out]; rintro e w2 ⟨rfl, m, rfl⟩)
  go_ret
  exact ⟨rfl, _, rfl⟩

open Go.Proofs.Ytonifhkplniblaa.Walk
set_option maxHeartbeats 2000000 in
set_option maxRecDepth 100000 in
theorem newMachine_calls (A : Option Addr) (c : Nat) (jobs : List (S67)) (w : World) (hl : jobs.length ≤ 1000000) :
    Calls Try.prog 118 #[.slice A jobs.length c] w fun e w' => ∃ (g : Nat) (dv : Value), e = .returned (.pointer (some ⟨g, 0, none⟩)) ∧ w.heap.size ≤ g ∧ w'.heap[g]? = some (.cells #[.slice A jobs.length c, dv, .int .i64 0] 124 (0, 0)) ∧ Kd.R (Kd.int .i64) 3 w' w.heap.size (fun _ => True) dv (List.replicate jobs.length 0) ∧ Below w.heap.size w w' := by
  have hu := Try.underlying124
  have HB := Aside0.mk (Below.refl w.heap.size w)
  have n0 : (0 : Int) ≤ (jobs.length : Int) := by omega
  go_enter Try.func118, Try.ntmps118
  go_wp2_with (first | ((with_reducible refine gate_dst (N := 6) rfl ?_); refine Kd.R_make (Kd.int .i64) _ 3 rfl (N := 6) rfl 30 _ _ rfl (jobs.length : Int) rfl rfl Try.underlying30 (.int .i64 0) 8 info3 rfl (by decide) (by omega) 0 (ok := fun _ => True) (okp := fun _ => True) rfl (fun _ hk => hk) trivial n0 (by simp only [Int.toNat_natCast]; omega) (Below.refl _ _) (Nat.le_refl _) ?_; intro v103 w11 ho12 hb hg_ hnew_; clear hg_ hnew_; simp only [Int.toNat_natCast] at ho12; have n0_ := Aside0.mk ho12; have n1_ := Aside0.mk (below_step (by repeat (first | (with_reducible first | exact HB.out | apply below_alloc | apply pw_below_drewN | apply below_drew1) | exact HB.out)) hb); clear HB; have HO := n0_; have HB := n1_; clear n0_ n1_; clear hb ho12; obtain ⟨Ad, cd, ed⟩ := Kd.R_slice HO.out; have hln : (List.replicate jobs.length (0 : Int)).length = jobs.length := List.length_replicate; rw [hln] at ed; subst ed; clear hln) | ((with_reducible refine gate_dst (N := 8) rfl ?_); refine box_event ?hg (N := 8) ?hd (cs := #[.slice A jobs.length c, .slice Ad jobs.length cd, .int .i64 0]) (t := 124) ?hr ?_; (case hd => rfl); (case hg => rfl); (case hr => first | (go_simp; done) | (go_simp; rfl)); intro g hg w2 hbox hb2; have HG := Aside0.mk hg; have HBX := Aside0.mk hbox; have HB2 := Aside0.mk hb2; clear hg hbox hb2))
  go_ret
  exact ⟨g, .slice Ad jobs.length cd, rfl, by rw [HG.out]; exact HB.out.size, HBX.out, Kd.R_below HO.out HB2.out, below_step HB.out HB2.out⟩

open Go.Proofs.Ytonifhkplniblaa.Walk
section
variable {w00 w W W2 : World} {S : Nat → Prop} {g go g4 : Nat} {A : Option Addr} {c : Nat} {jobs : List (S67)} {dv rv fv : Value} {done run fin : List Int} {now : Int}
/-- Which blocks are apart. -/
def SimD (w : World) (g go g4 : Nat) (dv rv fv : Value) : Prop :=
  w.heap.size ≤ g ∧ w.heap.size ≤ go ∧ w.heap.size ≤ g4 ∧ go ≠ g4 ∧ (∀ k, dv.ownBlock = some k → rv.ownBlock ≠ some k ∧ fv.ownBlock ≠ some k) ∧ (∀ k, rv.ownBlock = some k → fv.ownBlock ≠ some k)
/-- What a simulation holds in memory. -/
def SimI (w00 w : World) (S : Nat → Prop) (g go g4 : Nat) (A : Option Addr) (c : Nat) (jobs : List (S67)) (dv rv fv : Value) (W : World) (done run fin : List Int) (now : Int) : Prop :=
  W.heap[g]? = some (.cells #[.slice A jobs.length c, dv, .int .i64 now] 124 (0, 0)) ∧ W.heap[go]? = some (.cells #[rv, fv] 32 (0, 0)) ∧ W.heap[g4]? = some (.cells #[.slice none 0 0, .slice none 0 0] 32 (0, 0)) ∧
  Kd.R (Kd.int .i64) 3 W w.heap.size (fun _ => True) dv done ∧ Kd.R (Kd.int .i64) 3 W w.heap.size (fun _ => True) rv run ∧ Kd.R (Kd.int .i64) 3 W w.heap.size (fun _ => True) fv fin ∧ Kept w W S ∧ Below w00.heap.size w00 W
theorem row_step {v : Value} {xs : List Int} {base : Nat} (h : Kd.R (Kd.int .i64) 3 W base (fun _ => True) v xs) (hm : ∀ k, v.ownBlock = some k → k < W.heap.size → W2.heap[k]? = W.heap[k]?) : Kd.R (Kd.int .i64) 3 W2 base (fun _ => True) v xs :=
  Kd.R_mono (Kd.R_step (Kd.R_tight rfl h) (fun k hk hlt => hm k hk.symm hlt)) (fun _ _ => trivial)
theorem SimI.keep (h : SimI w00 w S g go g4 A c jobs dv rv fv W done run fin now) (hD : SimD w g go g4 dv rv fv) (hS : ∀ k, S k → k < w.heap.size) (hk : Kept W W2 S) (hb : Below w00.heap.size W W2) : SimI w00 w S g go g4 A c jobs dv rv fv W2 done run fin now := by
  obtain ⟨h1, h2, h3, h4, h5, h6, h7, h8⟩ := h
  obtain ⟨d1, d2, d3, _⟩ := hD
  have hn : ∀ k, w.heap.size ≤ k → ¬ S k := fun k hk h => by have := hS k h; omega
  refine ⟨blk_kept h1 hk (hn _ d1), blk_kept h2 hk (hn _ d2), blk_kept h3 hk (hn _ d3), ?_, ?_, ?_, h7.then_ hk (fun k h => .inl h), h8.trans hb⟩
  · exact row_step h4 (fun k e hlt => hk.2 k hlt (hn k (Kd.R_base h4 k e)))
  · exact row_step h5 (fun k e hlt => hk.2 k hlt (hn k (Kd.R_base h5 k e)))
  · exact row_step h6 (fun k e hlt => hk.2 k hlt (hn k (Kd.R_base h6 k e)))
theorem SimI.drewN (h : SimI w00 w S g go g4 A c jobs dv rv fv W done run fin now) (n : Nat) : SimI w00 w S g go g4 A c jobs dv rv fv (W.drewN n) done run fin now := by
  obtain ⟨h1, h2, h3, h4, h5, h6, h7, h8⟩ := h
  exact ⟨h1, h2, h3, Kd.R_drewN h4 n, Kd.R_drewN h5 n, Kd.R_drewN h6 n, h7.drewN n, pw_below_drewN h8 n⟩
theorem SimI.drew (h : SimI w00 w S g go g4 A c jobs dv rv fv W done run fin now) : SimI w00 w S g go g4 A c jobs dv rv fv W.drew done run fin now := by
  obtain ⟨h1, h2, h3, h4, h5, h6, h7, h8⟩ := h
  exact ⟨h1, h2, h3, Kd.R_drew h4, Kd.R_drew h5, Kd.R_drew h6, h7.drew, below_drew h8⟩
theorem SimI.setRun {gr n cr : Nat} (h : SimI w00 w S g go g4 A c jobs dv (.slice (some ⟨gr, 0, none⟩) n cr) fv W done run fin now) (hD : SimD w g go g4 dv (.slice (some ⟨gr, 0, none⟩) n cr) fv) (h0 : w00.heap.size ≤ w.heap.size) (i : Int) (x : Int) :
    SimI w00 w S g go g4 A c jobs dv (.slice (some ⟨gr, 0, none⟩) n cr) fv (W.setCell ⟨gr, i.toNat, none⟩ (.int .i64 x)) done (run.set i.toNat x) fin now := by
  obtain ⟨h1, h2, h3, h4, h5, h6, h7, h8⟩ := h
  obtain ⟨d1, d2, d3, d4, d5, d6⟩ := hD
  obtain ⟨p1, p2⟩ := Kd.R_putg h5 i x
  have hgr : w.heap.size ≤ gr := Kd.R_base h5 gr rfl
  have e1 : gr ≠ g := fun e => Kd.R_ne h5 h1 (by decide) (by rw [← e]; rfl)
  have e2 : gr ≠ go := fun e => Kd.R_ne h5 h2 (by decide) (by rw [← e]; rfl)
  have e3 : gr ≠ g4 := fun e => Kd.R_ne h5 h3 (by decide) (by rw [← e]; rfl)
  refine ⟨blk_far h1 e1.symm _, blk_far h2 e2.symm _, blk_far h3 e3.symm _, row_step h4 (fun k e hlt => Below.heap_setCell _ _ _ k (fun e' => (d5 k e).1 (by rw [e']; rfl))), p1, row_step h6 (fun k e hlt => Below.heap_setCell _ _ _ k (fun e' => d6 gr rfl (by rw [e, e']))), h7.setCell (.inr hgr) _, h8.setCell (Nat.le_trans h0 hgr) _⟩
theorem SimI.setDone {gr n cr : Nat} (h : SimI w00 w S g go g4 A c jobs (.slice (some ⟨gr, 0, none⟩) n cr) rv fv W done run fin now) (hD : SimD w g go g4 (.slice (some ⟨gr, 0, none⟩) n cr) rv fv) (h0 : w00.heap.size ≤ w.heap.size) (i : Int) (x : Int) :
    SimI w00 w S g go g4 A c jobs (.slice (some ⟨gr, 0, none⟩) n cr) rv fv (W.setCell ⟨gr, i.toNat, none⟩ (.int .i64 x)) (done.set i.toNat x) run fin now := by
  obtain ⟨h1, h2, h3, h4, h5, h6, h7, h8⟩ := h
  obtain ⟨d1, d2, d3, d4, d5, d6⟩ := hD
  obtain ⟨p1, p2⟩ := Kd.R_putg h4 i x
  have hgr : w.heap.size ≤ gr := Kd.R_base h4 gr rfl
  have e1 : gr ≠ g := fun e => Kd.R_ne h4 h1 (by decide) (by rw [← e]; rfl)
  have e2 : gr ≠ go := fun e => Kd.R_ne h4 h2 (by decide) (by rw [← e]; rfl)
  have e3 : gr ≠ g4 := fun e => Kd.R_ne h4 h3 (by decide) (by rw [← e]; rfl)
  refine ⟨blk_far h1 e1.symm _, blk_far h2 e2.symm _, blk_far h3 e3.symm _, p1, row_step h5 (fun k e hlt => Below.heap_setCell _ _ _ k (fun e' => (d5 gr rfl).1 (by rw [e, e']))), row_step h6 (fun k e hlt => Below.heap_setCell _ _ _ k (fun e' => (d5 gr rfl).2 (by rw [e, e']))), h7.setCell (.inr hgr) _, h8.setCell (Nat.le_trans h0 hgr) _⟩
theorem SimI.setFin {gr n cr : Nat} (h : SimI w00 w S g go g4 A c jobs dv rv (.slice (some ⟨gr, 0, none⟩) n cr) W done run fin now) (hD : SimD w g go g4 dv rv (.slice (some ⟨gr, 0, none⟩) n cr)) (h0 : w00.heap.size ≤ w.heap.size) (i : Int) (x : Int) :
    SimI w00 w S g go g4 A c jobs dv rv (.slice (some ⟨gr, 0, none⟩) n cr) (W.setCell ⟨gr, i.toNat, none⟩ (.int .i64 x)) done run (fin.set i.toNat x) now := by
  obtain ⟨h1, h2, h3, h4, h5, h6, h7, h8⟩ := h
  obtain ⟨d1, d2, d3, d4, d5, d6⟩ := hD
  obtain ⟨p1, p2⟩ := Kd.R_putg h6 i x
  have hgr : w.heap.size ≤ gr := Kd.R_base h6 gr rfl
  have e1 : gr ≠ g := fun e => Kd.R_ne h6 h1 (by decide) (by rw [← e]; rfl)
  have e2 : gr ≠ go := fun e => Kd.R_ne h6 h2 (by decide) (by rw [← e]; rfl)
  have e3 : gr ≠ g4 := fun e => Kd.R_ne h6 h3 (by decide) (by rw [← e]; rfl)
  refine ⟨blk_far h1 e1.symm _, blk_far h2 e2.symm _, blk_far h3 e3.symm _, row_step h4 (fun k e hlt => Below.heap_setCell _ _ _ k (fun e' => (d5 k e).2 (by rw [e']; rfl))), row_step h5 (fun k e hlt => Below.heap_setCell _ _ _ k (fun e' => d6 k e (by rw [e']; rfl))), p1, h7.setCell (.inr hgr) _, h8.setCell (Nat.le_trans h0 hgr) _⟩
theorem SimI.setNow (h : SimI w00 w S g go g4 A c jobs dv rv fv W done run fin now) (hD : SimD w g go g4 dv rv fv) (h0 : w00.heap.size ≤ w.heap.size) (x : Int) :
    SimI w00 w S g go g4 A c jobs dv rv fv (W.setCell ⟨g, 2, none⟩ (.int .i64 x)) done run fin x := by
  obtain ⟨h1, h2, h3, h4, h5, h6, h7, h8⟩ := h
  obtain ⟨d1, d2, d3, d4, d5, d6⟩ := hD
  have e2 : go ≠ g := fun e => by rw [e, h1] at h2; injection h2 with h2; injection h2 with _ h2; cases h2
  have e3 : g4 ≠ g := fun e => by rw [e, h1] at h3; injection h3 with h3; injection h3 with _ h3; cases h3
  refine ⟨blk_put h1 2 _ rfl, blk_far h2 e2 _, blk_far h3 e3 _, row_step h4 (fun k e hlt => Below.heap_setCell _ _ _ k (fun e' => Kd.R_ne h4 h1 (by decide) (by rw [e, e']))), row_step h5 (fun k e hlt => Below.heap_setCell _ _ _ k (fun e' => Kd.R_ne h5 h1 (by decide) (by rw [e, e']))), row_step h6 (fun k e hlt => Below.heap_setCell _ _ _ k (fun e' => Kd.R_ne h6 h1 (by decide) (by rw [e, e']))), h7.setCell (.inr d1) _, h8.setCell (Nat.le_trans h0 d1) _⟩
/-- Behind the two stores into the result. -/
theorem SimI.out (h : SimI w00 w S g go g4 A c jobs dv rv fv W done run fin now) (hD : SimD w g go g4 dv rv fv) (h0 : w00.heap.size ≤ w.heap.size) (a b : Value) :
    Kd.R (Kd.int .i64) 3 ((W.setCell ⟨g4, 0, none⟩ a).setCell ⟨g4, 1, none⟩ b) w.heap.size (fun k_ => some k_ ≠ fv.ownBlock) rv run ∧ Kd.R (Kd.int .i64) 3 ((W.setCell ⟨g4, 0, none⟩ a).setCell ⟨g4, 1, none⟩ b) w.heap.size (fun k_ => some k_ ≠ rv.ownBlock) fv fin ∧
    Below w00.heap.size w00 ((W.setCell ⟨g4, 0, none⟩ a).setCell ⟨g4, 1, none⟩ b) ∧ Kept w ((W.setCell ⟨g4, 0, none⟩ a).setCell ⟨g4, 1, none⟩ b) S := by
  obtain ⟨h1, h2, h3, h4, h5, h6, h7, h8⟩ := h
  obtain ⟨d1, d2, d3, d4, d5, d6⟩ := hD
  have far : ∀ k, k ≠ g4 → ((W.setCell ⟨g4, 0, none⟩ a).setCell ⟨g4, 1, none⟩ b).heap[k]? = W.heap[k]? := fun k hk => (Below.heap_setCell _ _ _ k hk).trans (Below.heap_setCell _ _ _ k hk)
  refine ⟨Kd.R_reok rfl (row_step h5 (fun k e hlt => far k (fun e' => Kd.R_ne h5 h3 (by decide) (by rw [e, e'])))) (fun k hk h => d6 k hk h.symm), Kd.R_reok rfl (row_step h6 (fun k e hlt => far k (fun e' => Kd.R_ne h6 h3 (by decide) (by rw [e, e'])))) (fun k hk h => d6 k h.symm hk), (h8.setCell (Nat.le_trans h0 d3) _).setCell (Nat.le_trans h0 d3) _, (h7.setCell (.inr d3) _).setCell (.inr d3) _⟩
end
section
variable {σ : Type}
/-- One tick of a simulation: what the pick has kept, how long each job has run, the jobs that ran, when they were finished. -/
def simStep (jobs : List (S67)) (pick : σ → List Int → Nat → Int × σ) (t : Nat) (x : σ × List Int × List Int × List Int) : σ × List Int × List Int × List Int :=
  if (pick x.1 x.2.1 t).1 < 0 then ((pick x.1 x.2.1 t).2, x.2.1, x.2.2.1.set t (pick x.1 x.2.1 t).1, x.2.2.2)
  else if x.2.1.getD (pick x.1 x.2.1 t).1.toNat 0 + 1 = (jobs.getD (pick x.1 x.2.1 t).1.toNat z67).f3 then
    ((pick x.1 x.2.1 t).2, x.2.1.set (pick x.1 x.2.1 t).1.toNat (x.2.1.getD (pick x.1 x.2.1 t).1.toNat 0 + 1), x.2.2.1.set t (pick x.1 x.2.1 t).1, x.2.2.2.set (pick x.1 x.2.1 t).1.toNat ((t : Int) + 1))
  else ((pick x.1 x.2.1 t).2, x.2.1.set (pick x.1 x.2.1 t).1.toNat (x.2.1.getD (pick x.1 x.2.1 t).1.toNat 0 + 1), x.2.2.1.set t (pick x.1 x.2.1 t).1, x.2.2.2)
def simN (jobs : List (S67)) (pick : σ → List Int → Nat → Int × σ) (s0 : σ) : Nat → σ × List Int × List Int × List Int
  | 0 => (s0, List.replicate jobs.length 0, List.replicate 120 (-1), List.replicate jobs.length (-1))
  | t + 1 => simStep jobs pick t (simN jobs pick s0 t)
/-- What a pick may answer. -/
def PickOk (jobs : List (S67)) (pick : σ → List Int → Nat → Int × σ) : Prop := ∀ s done t, done.length = jobs.length →
  -1 ≤ (pick s done t).1 ∧ (pick s done t).1 < jobs.length ∧ (0 ≤ (pick s done t).1 → done.getD (pick s done t).1.toNat 0 < (jobs.getD (pick s done t).1.toNat z67).f3)
theorem simN_len {jobs : List (S67)} {pick : σ → List Int → Nat → Int × σ} {s0 : σ} : ∀ t, (simN jobs pick s0 t).2.1.length = jobs.length ∧ (simN jobs pick s0 t).2.2.1.length = 120 ∧ (simN jobs pick s0 t).2.2.2.length = jobs.length
  | 0 => by simp [simN]
  | t + 1 => by
    have := simN_len (jobs := jobs) (pick := pick) (s0 := s0) t
    unfold simN simStep
    split
    · simpa using this
    · split <;> simpa using this
theorem getD_set' (l : List Int) (i j : Nat) (x : Int) : (l.set i x).getD j 0 = if i = j ∧ j < l.length then x else l.getD j 0 := by
  rw [List.getD_eq_getElem?_getD, List.getD_eq_getElem?_getD, List.getElem?_set]
  split
  · rename_i e
    split
    · rename_i h; rw [if_pos ⟨e, by omega⟩]; rfl
    · rename_i h; rw [if_neg (by omega), List.getElem?_eq_none (by omega)]
  · rename_i e; rw [if_neg (by omega)]
theorem simN_done {jobs : List (S67)} {pick : σ → List Int → Nat → Int × σ} {s0 : σ} (hp : PickOk jobs pick) (hex : ∀ i, i < jobs.length → (jobs.getD i z67).f3 ≤ 8) :
    ∀ t i, 0 ≤ (simN jobs pick s0 t).2.1.getD i 0 ∧ (simN jobs pick s0 t).2.1.getD i 0 ≤ 8
  | 0, i => by
    unfold simN
    simp only [List.getD_eq_getElem?_getD, List.getElem?_replicate]
    split <;> simp
  | t + 1, i => by
    have ih := simN_done hp hex (s0 := s0) t
    have hl := simN_len (jobs := jobs) (pick := pick) (s0 := s0) t
    have hr := hp (simN jobs pick s0 t).1 (simN jobs pick s0 t).2.1 t hl.1
    obtain ⟨x, hx⟩ : ∃ x, x = simN jobs pick s0 t := ⟨_, rfl⟩
    rw [← hx] at ih hr
    unfold simN
    rw [← hx]
    unfold simStep
    split
    · exact ih i
    · rename_i hneg
      have h3 := hr.2.2 (by omega)
      have h4 := hex (pick x.1 x.2.1 t).1.toNat (by omega)
      have h5 := ih (pick x.1 x.2.1 t).1.toNat
      have h6 := ih i
      split <;> (simp only [getD_set']; split <;> omega)
end
set_option maxHeartbeats 4000000 in
set_option maxRecDepth 100000 in
theorem simulate_calls {σ : Type} (Inv : World → σ → Prop) (pick : σ → List Int → Nat → Int × σ) (s0 : σ) (S : Nat → Prop) (w00 w : World) (hw : Below w00.heap.size w00 w) (hS : ∀ k, S k → k < w.heap.size)
    (A : Option Addr) (c : Nat) (jobs : List (S67)) (hj : Kd.C k67 w00 A jobs.length jobs) (hc : jobs.length ≤ c) (hlen : jobs.length ≤ 60) (hex : ∀ i, i < jobs.length → (jobs.getD i z67).f3 ≤ 8)
    (fp : FuncId) (p1 p2 : Array Value) {fnp : Func} (hfp : Try.prog.funcs[fp]? = some fnp) (hname : (fnp.name == "runtime.NumGoroutine") = false) (hbody : fnp.body.isSome = true)
    (hinv0 : Inv w s0) (hst : ∀ W W' s, Inv W s → (∀ k, k < w.heap.size → W'.heap[k]? = W.heap[k]?) → W.heap.size ≤ W'.heap.size → Inv W' s) (hok : PickOk jobs pick)
    (hp : ∀ (g : Nat) (D : Option Addr) (cd : Nat) (W : World) (s : σ) (done : List Int) (t : Nat), t < 120 → Inv W s → MachR W g A c jobs D cd done t → w.heap.size ≤ g → Below w00.heap.size w00 W → w.heap.size ≤ W.heap.size →
      Calls Try.prog fp (p1 ++ #[.pointer (some ⟨g, 0, none⟩)] ++ p2) W fun e w' => e = .returned (.int .i64 (pick s done t).1) ∧ Inv w' (pick s done t).2 ∧ Kept W w' S ∧ Below w00.heap.size W w') :
    Calls Try.prog 80 #[.slice A jobs.length c, .func (.func fp) p1 p2] w fun e w' => ∃ v0_ v1_ : Value, e = .returned (.agg #[v0_, v1_]) ∧ Kd.R (Kd.int .i64) 3 w' w.heap.size (fun k_ => some k_ ≠ (v1_ : Value).ownBlock) v0_ (simN jobs pick s0 120).2.2.1 ∧
      Kd.R (Kd.int .i64) 3 w' w.heap.size (fun k_ => some k_ ≠ (v0_ : Value).ownBlock) v1_ (simN jobs pick s0 120).2.2.2 ∧ Below w00.heap.size w00 w' ∧ Kept w w' S ∧ Inv w' (simN jobs pick s0 120).1 := by
  have hu := Try.underlying32
  have huM := Try.underlying124
  have huJ := Try.underlying67
  have h00 := hw.size
  have hB4 := below_alloc (Below.refl w.heap.size w) (.cells #[.slice none 0 0, .slice none 0 0] 32)
  have h4 := blk_new w (.cells #[.slice none 0 0, .slice none 0 0] 32)
  have HF := Aside0.mk hfp
  have HJ := Aside0.mk hj
  have HS := Aside0.mk hS
  have HW := Aside0.mk hw
  have H4 := Aside0.mk h4
  have HB4 := Aside0.mk hB4
  have HP0 := Aside0.mk hp
  have HV0 := Aside0.mk hinv0
  have HST := Aside0.mk hst
  have HOK := Aside0.mk hok
  have HEX := Aside0.mk hex
  have HNM := Lib.hid (fun W => newMachine_calls A c jobs W (by omega))
  have HN1 := Lib.hid (fun W => impl_none.calls 120 (List.replicate 120 (-1)) W rfl)
  have HN2 := Lib.hid (fun W => impl_none.calls jobs.length (List.replicate jobs.length (-1)) W (by unfold impl_none.f; rw [if_pos (by omega)]; simp))
  clear hfp hj hS hw h4 hB4 hp hinv0 hst hok hex
  go_enter Try.func80, Try.ntmps80
  go_wp2_with (first | (go_at_call 118; refine (HNM.out _).mono ?_; rintro e w1 ⟨g, dv, rfl, hg, hbm, hrd, hb1⟩; obtain ⟨Ad, cd, ed⟩ := Kd.R_slice hrd; rw [show (List.replicate jobs.length (0 : Int)).length = jobs.length from List.length_replicate] at ed; subst ed; have HG := Lib.hid hg; have HBM := Lib.hid hbm; have HRD := Lib.hid hrd; have HB1 := Lib.hid hb1; clear hg hbm hrd hb1) | (go_at_call 79; refine (HN1.out _).mono ?_; rintro e w2 ⟨rv, rfl, hrr, hb2⟩; obtain ⟨Ar, cr, er⟩ := Kd.R_slice hrr; rw [show (List.replicate 120 (-1 : Int)).length = 120 from List.length_replicate] at er; subst er; have HRR := Lib.hid hrr; have HB2 := Lib.hid hb2; clear hrr hb2) | (go_at_call 79; refine (HN2.out _).mono ?_; rintro e w3 ⟨fv, rfl, hrf, hb3⟩; obtain ⟨Af, cf, ef⟩ := Kd.R_slice hrf; rw [show (List.replicate jobs.length (-1 : Int)).length = jobs.length from List.length_replicate] at ef; subst ef; have HRF := Lib.hid hrf; have HB3 := Lib.hid hb3; clear hrf hb3))
  have hBA : Below w.heap.size w w3 := below_step (below_step (below_step HB4.out HB1.out) HB2.out) HB3.out
  have hB : Below w.heap.size w (w3.alloc (.cells #[.slice Ar 120 cr, .slice Af jobs.length cf] 32)) := below_alloc hBA _
  have hszA : (w.alloc (.cells #[.slice none 0 0, .slice none 0 0] 32)).heap.size = w.heap.size + 1 := by simp
  have s1 := HB1.out.size
  have s2 := HB2.out.size
  have s3 := HB3.out.size
  have hI : SimI w00 w S g w3.heap.size w.heap.size A c jobs (.slice Ad jobs.length cd) (.slice Ar 120 cr) (.slice Af jobs.length cf) (w3.alloc (.cells #[.slice Ar 120 cr, .slice Af jobs.length cf] 32)) (simN jobs pick s0 0).2.1 (simN jobs pick s0 0).2.2.1 (simN jobs pick s0 0).2.2.2 ((0 : Nat) : Int) := by
    refine ⟨blk_alloc (blk_below (blk_below HBM.out HB2.out) HB3.out) _, blk_new _ _, blk_alloc (blk_below (blk_below (blk_below H4.out HB1.out) HB2.out) HB3.out) _, ?_, ?_, ?_, Kept.of_below hB S, HW.out.trans (hB.mono h00)⟩
    · exact Kd.R_alloc (Kd.R_below (Kd.R_below (Kd.R_lower HRD.out (by omega)) HB2.out) HB3.out) _
    · exact Kd.R_alloc (Kd.R_below (Kd.R_lower HRR.out (by omega)) HB3.out) _
    · exact Kd.R_alloc (Kd.R_lower HRF.out (by omega)) _
  have hD : SimD w g w3.heap.size w.heap.size (.slice Ad jobs.length cd) (.slice Ar 120 cr) (.slice Af jobs.length cf) := by
    have hg := HG.out
    refine ⟨by omega, by omega, Nat.le_refl _, by omega, fun k hk => ⟨fun h => ?_, fun h => ?_⟩, fun k hk h => ?_⟩
    · have := Kd.R_lt HRD.out k hk; have := Kd.R_base HRR.out k h; omega
    · have := Kd.R_lt HRD.out k hk; have := Kd.R_base HRF.out k h; omega
    · have := Kd.R_lt HRR.out k hk; have := Kd.R_base HRF.out k h; omega
  have hV : Inv (w3.alloc (.cells #[.slice Ar 120 cr, .slice Af jobs.length cf] 32)) (simN jobs pick s0 0).1 := HST.out _ _ _ HV0.out hB.block hB.size
  have HI0 := Aside0.mk hI
  have HD := Aside0.mk hD
  have HVI := Aside0.mk hV
  clear hI hD hV hBA hB hszA s1 s2 s3 HG HBM HRD HB1 HRR HB2 HRF HB3 H4 HB4 HV0 HNM HN1 HN2
  generalize w3.heap.size = go at HI0 HD ⊢
  go_loopg [] 120 (fun kq w' => ∃ t : Nat, t + kq = 120 ∧ Aside0 (SimI w00 w S g go w.heap.size A c jobs (.slice Ad jobs.length cd) (.slice Ar 120 cr) (.slice Af jobs.length cf) w' (simN jobs pick s0 t).2.1 (simN jobs pick s0 t).2.2.1 (simN jobs pick s0 t).2.2.2 (t : Int)) ∧ Aside0 (Inv w' (simN jobs pick s0 t).1))
  case atStart => exact ⟨0, rfl, HI0, HVI⟩
  case round =>
    clear HI0 HVI
    obtain ⟨t, ht, HI, HV⟩ := hrel
    have hb := HI.out
    obtain ⟨h1, h2, h3, h4, h5, h6, h7, h8⟩ := hb
    have hm1 : wr.cell? ⟨g, 1, none⟩ = some (.slice Ad jobs.length cd) := (blk_cell h1 1).trans rfl
    have hm2 : wr.cell? ⟨g, 2, none⟩ = some (.int .i64 (t : Int)) := (blk_cell h1 2).trans rfl
    have hfz2 := blk_frozen h1 2
    cases gk with
    | zero =>
      have htt : t = 120 := by omega
      subst htt
      have b1 : decide (((120 : Nat) : Int) < 120) = false := by decide
      have ho0 : wr.cell? ⟨go, 0, none⟩ = some (.slice Ar 120 cr) := (blk_cell h2 0).trans rfl
      have ho1 : wr.cell? ⟨go, 1, none⟩ = some (.slice Af jobs.length cf) := (blk_cell h2 1).trans rfl
      have hq0 : wr.cell? ⟨w.heap.size, 0, none⟩ = some (.slice none 0 0) := (blk_cell h3 0).trans rfl
      have hq1 : wr.cell? ⟨w.heap.size, 1, none⟩ = some (.slice none 0 0) := (blk_cell h3 1).trans rfl
      have hqf0 := blk_frozen h3 0
      have hqf1 := blk_frozen h3 1
      have hgo := HD.out.2.2.2.1
      have H3 := Aside0.mk h3
      have hout := HI.out.out HD.out h00 (.slice Ar 120 cr) (.slice Af jobs.length cf)
      have hfar : ∀ k, k < w.heap.size → ((wr.setCell ⟨w.heap.size, 0, none⟩ (.slice Ar 120 cr)).setCell ⟨w.heap.size, 1, none⟩ (.slice Af jobs.length cf)).heap[k]? = wr.heap[k]? := fun k hk => (Below.heap_setCell _ _ _ k (by simp; omega)).trans (Below.heap_setCell _ _ _ k (by simp; omega))
      have hVo := HST.out wr _ _ HV.out hfar (by simp [World.setCell])
      have HOUT := Aside0.mk hout
      have HVO := Aside0.mk hVo
      clear h1 h2 h3 h4 h5 h6 h7 h8 hout hVo hfar
      go_wp2
      (try simp only [Exit.inBlock, Exit.then])
      refine bodyPost_ret (results_cell_row rfl _ _ w.heap.size 32 #[.slice Ar 120 cr, .slice Af jobs.length cf] (0, 0) _ rfl (blk_put (blk_put H3.out 0 _ rfl) 1 _ rfl) Try.underlying32 rfl (by kernel_rfl)) rfl ?_
      exact ⟨_, _, rfl, HOUT.out.1, HOUT.out.2.1, HOUT.out.2.2.1, HOUT.out.2.2.2, HVO.out⟩
    | succ k1 =>
      have b1 : decide ((t : Int) < 120) = true := decide_eq_true (by omega)
      have hlen' := simN_len (jobs := jobs) (pick := pick) (s0 := s0) t
      have hnx : simN jobs pick s0 (t + 1) = simStep jobs pick t (simN jobs pick s0 t) := rfl
      have hdn := simN_done HOK.out HEX.out (s0 := s0) t
      obtain ⟨X, hX⟩ : ∃ X, X = simN jobs pick s0 t := ⟨_, rfl⟩
      rw [← hX] at hlen' hnx hdn HI HV h4 h5 h6
      clear hX
      obtain ⟨s, done, run, fin⟩ := X
      obtain ⟨hl1, hl2, hl3⟩ := hlen'
      simp only at hl1 hl2 hl3 hdn HI HV h4 h5 h6
      obtain ⟨gr, cr', er, _⟩ := Kd.R_form h5 (by omega)
      injection er with er1 er2 er3
      subst er1 er3
      clear er2
      have hR := HOK.out s done t hl1
      have hpc := HP0.out g Ad cd wr s done t (by omega) HV.out ⟨by rw [hl1]; exact h1, Kd.C_below HJ.out h8, (Kd.R_reads' h4).2.2, hl1⟩ HD.out.1 h8 h7.1
      have hsm : simN jobs pick s0 (t + 1) = simStep jobs pick t (s, done, run, fin) := hnx
      unfold simStep at hsm
      simp only at hsm
      obtain ⟨r, hr⟩ : ∃ r, r = (pick s done t).1 := ⟨_, rfl⟩
      obtain ⟨s', hs'⟩ : ∃ s', s' = (pick s done t).2 := ⟨_, rfl⟩
      rw [← hr] at hR hpc hsm
      rw [← hs'] at hpc hsm
      have HP := Lib.hid hpc
      have HR := Lib.hid hR
      have HSM := Lib.hid hsm
      have HDN := Lib.hid hdn
      clear hr hs' hpc hR hsm hnx hdn h1 h2 h3 h4 h5 h6 h7 h8
      go_wp2_with ((with_reducible refine gate_value (n := 27) rfl ?_; go_must (refine goesF_ (some 29) rfl rfl rfl rfl HF.out hname hbody (p1 ++ #[.pointer (some ⟨g, 0, none⟩)] ++ p2) (by simp [Act.eval]) ?_; refine HP.out.mono ?_; rintro e w2 ⟨rfl, hi2, hk2, hb2⟩; refine ⟨_, rfl, ?_⟩; have HI2 := Aside0.mk (HI.out.keep HD.out HS.out hk2 hb2); have HV2 := Aside0.mk hi2; clear hi2 hk2 hb2)))
      obtain ⟨i1, i2, i3, i4, i5, i6, i7, i8⟩ := HI2.out
      have ho0 : w2.cell? ⟨go, 0, none⟩ = some (.slice (some ⟨gr, 0, none⟩) 120 cr) := (blk_cell i2 0).trans rfl
      have hn2 : w2.cell? ⟨g, 2, none⟩ = some (.int .i64 (t : Int)) := (blk_cell i1 2).trans rfl
      obtain ⟨hx0, hxf0⟩ := Kd.R_celln 0 i5 (t : Int) (by omega) (by omega)
      simp only [Int.toNat_natCast] at hx0 hxf0
      have q0 : 0 ≤ (t : Int) := by omega
      have q1 : (t : Int) < 120 := by omega
      have ne1 : gr ≠ g := fun e => Kd.R_ne i5 i1 (by decide) (by rw [← e]; rfl)
      have ne2 : gr ≠ go := fun e => Kd.R_ne i5 i2 (by decide) (by rw [← e]; rfl)
      clear i1 i2 i3 i4 i5 i6 i7 i8
      go_wp2_with fail
      go_region_held3 (fun w' => w'.cell? ⟨go, 0, none⟩ = some (.slice (some ⟨gr, 0, none⟩) 120 cr) ∧ w'.cell? ⟨g, 2, none⟩ = some (.int .i64 (t : Int))) (go_keep) (fail)
      have hgrw : w.heap.size ≤ gr := Kd.R_base HI2.out.2.2.2.2.1 gr rfl
      have hI3 := (HI2.out.setRun HD.out h00 (t : Int) r).drew
      simp only [Int.toNat_natCast] at hI3
      have hV3 : Inv ((w2.setCell ⟨gr, t, none⟩ (.int .i64 r)).drew) s' := HST.out w2 _ _ HV2.out (fun k hk => (show (w2.setCell ⟨gr, t, none⟩ (.int .i64 r)).heap[k]? = _ from Below.heap_setCell _ _ _ k (by simp; omega))) (by simp [World.setCell, World.drew])
      have HI3 := Aside0.mk hI3
      have HV3 := Aside0.mk hV3
      clear hI3 hV3 HI HV HI2 HV2 HP ho0 hn2 hx0 hxf0 hgrw hm1 hm2 hfz2
      generalize World.drew (World.setCell w2 _ _) = w3 at HI3 HV3 ⊢
      obtain ⟨i1, i2, i3, i4, i5, i6, i7, i8⟩ := HI3.out
      by_cases hneg : r < 0
      · have hnb : decide (r < 0) = true := decide_eq_true hneg
        have hst1 : simN jobs pick s0 (t + 1) = (s', done, run.set t r, fin) := by rw [HSM.out, if_pos hneg]
        have HST1 := Lib.hid hst1
        have hn2 : w3.cell? ⟨g, 2, none⟩ = some (.int .i64 (t : Int)) := (blk_cell i1 2).trans rfl
        have hf2 := blk_frozen i1 2
        have q2 : (t : Int) < 120 := by omega
        clear i1 i2 i3 i4 i5 i6 i7 i8 hst1 hneg
        have HIL := HI3
        have HVL := HV3
        go_wp2_with fail
        ((go_roundg k1; (case measure => omega); (case rel => refine ⟨t + 1, by omega, ⟨?_⟩, ⟨?_⟩⟩; (· rw [HST1.out]; exact HIL.out.setNow HD.out h00 _); (· rw [HST1.out]; exact HST.out _ _ _ HVL.out (fun k hk => Below.heap_setCell _ _ _ k (by have := HD.out.1; simp; omega)) (by simp [World.setCell])))))
      · have hnb : decide (r < 0) = false := decide_eq_false hneg
        have hr3 := HR.out
        have hj0 : 0 < jobs.length := by omega
        obtain ⟨gd, cd', ed, _⟩ := Kd.R_form i4 (by omega)
        injection ed with ed1 ed2 ed3
        subst ed1 ed3
        obtain ⟨gf, cf', ef, _⟩ := Kd.R_form i6 (by omega)
        injection ef with ef1 ef2 ef3
        subst ef1 ef3
        clear ed2 ef2
        obtain ⟨n, rfl⟩ : ∃ n : Nat, r = (n : Int) := ⟨r.toNat, by omega⟩
        simp only [Int.toNat_natCast] at hr3
        have hnl : n < jobs.length := by omega
        have hdone := HDN.out n
        have hexn := HEX.out n hnl
        have hready := hr3.2.2 (by omega)
        obtain ⟨x, hx⟩ : ∃ x, x = done.getD n 0 := ⟨_, rfl⟩
        obtain ⟨hdc, hdf⟩ := Kd.R_celln 0 i4 (n : Int) (by omega) (by omega)
        have hrd : rdOf 0 done (n : Int) = done.getD n 0 := rfl
        rw [hrd] at hdc
        rw [← hx] at hdone hready hdc
        simp only [Int.toNat_natCast] at hdc hdf
        have hm1 : w3.cell? ⟨g, 1, none⟩ = some (.slice (some ⟨gd, 0, none⟩) jobs.length cd) := (blk_cell i1 1).trans rfl
        have q2 : 0 ≤ (n : Int) := by omega
        have q3 : (n : Int) < (jobs.length : Int) := by omega
        have nd1 : gd ≠ g := fun e => Kd.R_ne i4 i1 (by decide) (by rw [← e]; rfl)
        have hgdw : w.heap.size ≤ gd := Kd.R_base i4 gd rfl
        have hgfw : w.heap.size ≤ gf := Kd.R_base i6 gf rfl
        have hI4 := HI3.out.setDone HD.out h00 (n : Int) (x + 1)
        simp only [Int.toNat_natCast] at hI4
        have hV4 : Inv (w3.setCell ⟨gd, n, none⟩ (.int .i64 (x + 1))) s' := HST.out w3 _ _ HV3.out (fun k hk => Below.heap_setCell _ _ _ k (by simp; omega)) (by simp [World.setCell])
        have HI4 := Aside0.mk hI4
        have HV4 := Aside0.mk hV4
        have HX := Lib.hid hx
        obtain ⟨hx0, hx8⟩ := hdone
        clear i1 i2 i3 i4 i5 i6 i7 i8 hI4 hV4 hr3 hneg HR hrd hx
        go_wp2_with fail
        generalize World.setCell w3 _ _ = w4 at HI4 HV4 ⊢
        clear HI3 HV3 hdc hdf hm1
        obtain ⟨i1, i2, i3, i4, i5, i6, i7, i8⟩ := HI4.out
        have hls : (done.set n (x + 1)).length = jobs.length := by rw [List.length_set, hl1]
        obtain ⟨hdc, hdf⟩ := Kd.R_celln 0 i4 (n : Int) (by omega) (by omega)
        have hrd : rdOf 0 (done.set n (x + 1)) (n : Int) = x + 1 := by
          show (done.set n (x + 1)).getD (n : Int).toNat 0 = x + 1
          rw [Int.toNat_natCast, getD_set', if_pos ⟨rfl, by omega⟩]
        rw [hrd] at hdc
        simp only [Int.toNat_natCast] at hdc hdf
        have hm1 : w4.cell? ⟨g, 1, none⟩ = some (.slice (some ⟨gd, 0, none⟩) jobs.length cd) := (blk_cell i1 1).trans rfl
        obtain ⟨adj, ej, hy0, hy1, hy2, hy3⟩ := at_T67 (Kd.C_below HJ.out i8) (n : Int) (by omega) (by omega)
        cases ej
        simp only [Int.toNat_natCast] at hy0 hy1 hy2 hy3
        have hrj : rd_T67 jobs (n : Int) = jobs.getD n z67 := rfl
        rw [hrj] at hy0 hy1 hy2 hy3
        obtain ⟨y, hy⟩ : ∃ y, y = (jobs.getD n z67).f3 := ⟨_, rfl⟩
        rw [← hy] at hy3 hready hexn
        have HY := Lib.hid hy
        have hn2 : w4.cell? ⟨g, 2, none⟩ = some (.int .i64 (t : Int)) := (blk_cell i1 2).trans rfl
        have hf2 := blk_frozen i1 2
        have q4 : (t : Int) < 120 := by omega
        by_cases heq : x + 1 = y
        · have heb : (x + 1 == y) = true := by rw [beq_iff_eq]; exact heq
          have hst1 : simN jobs pick s0 (t + 1) = (s', done.set n (x + 1), run.set t (n : Int), fin.set n ((t : Int) + 1)) := by
            rw [HSM.out, if_neg (by omega)]
            simp only [Int.toNat_natCast]
            rw [← HX.out, ← HY.out, if_pos heq]
          have HST1 := Lib.hid hst1
          have ho1 : w4.cell? ⟨go, 1, none⟩ = some (.slice (some ⟨gf, 0, none⟩) jobs.length cf) := (blk_cell i2 1).trans rfl
          obtain ⟨hfc, hff⟩ := Kd.R_celln 0 i6 (n : Int) (by omega) (by omega)
          simp only [Int.toNat_natCast] at hfc hff
          have nf1 : gf ≠ g := fun e => Kd.R_ne i6 i1 (by decide) (by rw [← e]; rfl)
          have nf2 : gf ≠ go := fun e => Kd.R_ne i6 i2 (by decide) (by rw [← e]; rfl)
          clear i1 i2 i3 i4 i5 i6 i7 i8 hst1 heq hrd hrj hy hls
          go_wp2_with fail
          go_quiet (fail)
          go_wp2_with fail
          go_region_held3 (fun w' => w'.cell? ⟨go, 1, none⟩ = some (.slice (some ⟨gf, 0, none⟩) jobs.length cf) ∧ w'.cell? ⟨g, 2, none⟩ = some (.int .i64 (t : Int))) (go_keep) (fail)
          have hw1 : IntKind.i64.wrap ((t : Int) + 1) = (t : Int) + 1 := by rw [i64_w]; unfold wrap64; omega
          rw [hw1]
          have hIL := (HI4.out.drewN (nq + 1)).setFin HD.out h00 (n : Int) ((t : Int) + 1)
          simp only [Int.toNat_natCast] at hIL
          have hVL : Inv ((w4.drewN (nq + 1)).setCell ⟨gf, n, none⟩ (.int .i64 ((t : Int) + 1))) s' := HST.out w4 _ _ HV4.out (fun k hk => (show ((w4.drewN (nq + 1)).setCell ⟨gf, n, none⟩ (.int .i64 ((t : Int) + 1))).heap[k]? = (w4.drewN (nq + 1)).heap[k]? from Below.heap_setCell _ _ _ k (by simp; omega))) (by simp [World.setCell, World.drewN])
          have HIL := Aside0.mk hIL
          have HVL := Aside0.mk hVL
          clear hIL hVL hw1 hn2 hf2 ho1 hfc hff hdc hdf hm1 hy0 hy1 hy2 hy3
          generalize World.setCell _ _ _ = w5 at HIL HVL ⊢
          obtain ⟨i1, i2, i3, i4, i5, i6, i7, i8⟩ := HIL.out
          have hn2 : w5.cell? ⟨g, 2, none⟩ = some (.int .i64 (t : Int)) := (blk_cell i1 2).trans rfl
          have hf2 := blk_frozen i1 2
          clear i1 i2 i3 i4 i5 i6 i7 i8
          go_wp2_with fail
          ((go_roundg k1; (case measure => omega); (case rel => refine ⟨t + 1, by omega, ⟨?_⟩, ⟨?_⟩⟩; (· rw [HST1.out]; exact HIL.out.setNow HD.out h00 _); (· rw [HST1.out]; exact HST.out _ _ _ HVL.out (fun k hk => Below.heap_setCell _ _ _ k (by have := HD.out.1; simp; omega)) (by simp [World.setCell])))))
        · have heb : (x + 1 == y) = false := by rw [beq_eq_false_iff_ne]; exact heq
          have hst1 : simN jobs pick s0 (t + 1) = (s', done.set n (x + 1), run.set t (n : Int), fin) := by
            rw [HSM.out, if_neg (by omega)]
            simp only [Int.toNat_natCast]
            rw [← HX.out, ← HY.out, if_neg heq]
          have HST1 := Lib.hid hst1
          clear i1 i2 i3 i4 i5 i6 i7 i8 hst1 heq hrd hrj hy hls
          go_wp2_with fail
          go_quiet (fail)
          have HIL := Aside0.mk (HI4.out.drewN nq)
          have HVL : Aside0 (Inv (w4.drewN nq) s') := ⟨HST.out w4 _ _ HV4.out (fun k hk => rfl) (Nat.le_refl _)⟩
          go_wp2_with fail
          ((go_roundg k1; (case measure => omega); (case rel => refine ⟨t + 1, by omega, ⟨?_⟩, ⟨?_⟩⟩; (· rw [HST1.out]; exact HIL.out.setNow HD.out h00 _); (· rw [HST1.out]; exact HST.out _ _ _ HVL.out (fun k hk => Below.heap_setCell _ _ _ k (by have := HD.out.1; simp; omega)) (by simp [World.setCell])))))

open Go.Proofs.Ytonifhkplniblaa.Walk
/-- What a legal pattern says of its jobs. -/
theorem legal_jobs {s : List (S62)} {l : List (S67)} (hs : impl_SetValid.f s = some true) (h : legalB s l = true) : l.length ≤ 60 ∧ ∀ i, i < l.length → (l.getD i z67).f3 ≤ 8 := by
  unfold legalB at h
  rw [Bool.and_eq_true] at h
  obtain ⟨h1, h2⟩ := ordB_in h.1
  refine ⟨h1, fun i hi => ?_⟩
  have := h2 i hi
  unfold jobIn at this
  simp only [Bool.and_eq_true, decide_eq_true_eq] at this
  obtain ⟨⟨a1, a2⟩, _, _, a3⟩ := this
  unfold impl_SetValid.f at hs
  have hs := Option.some.inj hs
  rw [Bool.and_eq_true, List.all_eq_true] at hs
  have hm : rd_T62 s (l.getD i z67).f0 ∈ s := by
    unfold rd_T62
    rw [List.getD_eq_getElem?_getD, List.getElem?_eq_getElem (by omega)]
    exact List.getElem_mem _
  have := hs.2 _ hm
  unfold okTask at this
  have := of_decide_eq_true this
  omega
theorem rdyB_done {jobs : List (S67)} {done : List Int} {now : Int} {i : Nat} (h : rdyB jobs done now i = true) : done.getD i 0 < (jobs.getD i z67).f3 := by
  unfold rdyB at h; rw [Bool.and_eq_true] at h; exact of_decide_eq_true h.2
theorem best_ok (jobs : List (S67)) (may : List Int → Nat → Nat → Bool) (key : List Int → Nat → Nat → Int) : PickOk jobs (fun (_ : Unit) done t => (bestN (fun i => rdyB jobs done t i && may done t i) (key done t) jobs.length, ())) := by
  intro s done t hl
  have h1 := bestN_in (fun i => rdyB jobs done t i && may done t i) (key done t) jobs.length
  refine ⟨h1.1, by simpa using h1.2, fun h => ?_⟩
  have := bestN_ok (fun i => rdyB jobs done t i && may done t i) (key done t) jobs.length h
  rw [Bool.and_eq_true] at this
  exact rdyB_done this.1
/-- A schedule is handed back by its own block. -/
theorem sched_out {w W : World} {b : Nat} {v0 v1 : Value} {r1 r2 : List Int} {g : Nat} {cs : Array Value} (hg : w.heap.size ≤ g) (hb : w.heap.size ≤ b) (h3 : W.heap[g]? = some (.cells cs 32 (0, 0))) (hB : Below w.heap.size w W)
    (h0 : Kd.R (Kd.int .i64) 3 W b (fun k_ => some k_ ≠ v1.ownBlock) v0 r1) (h1 : Kd.R (Kd.int .i64) 3 W b (fun k_ => some k_ ≠ v0.ownBlock) v1 r2) (x y : Value) :
    Kd.R (Kd.int .i64) 3 ((W.setCell ⟨g, 0, none⟩ x).setCell ⟨g, 1, none⟩ y) w.heap.size (fun k_ => some k_ ≠ v1.ownBlock) v0 r1 ∧ Kd.R (Kd.int .i64) 3 ((W.setCell ⟨g, 0, none⟩ x).setCell ⟨g, 1, none⟩ y) w.heap.size (fun k_ => some k_ ≠ v0.ownBlock) v1 r2 ∧
    Below w.heap.size w ((W.setCell ⟨g, 0, none⟩ x).setCell ⟨g, 1, none⟩ y) := by
  have far : ∀ k, k ≠ g → ((W.setCell ⟨g, 0, none⟩ x).setCell ⟨g, 1, none⟩ y).heap[k]? = W.heap[k]? := fun k hk => (Below.heap_setCell _ _ _ k hk).trans (Below.heap_setCell _ _ _ k hk)
  refine ⟨?_, ?_, (hB.setCell hg _).setCell hg _⟩
  · exact Kd.R_lower (Kd.R_reok rfl (row_step (Kd.R_mono h0 (fun _ _ => trivial)) (fun k e hlt => far k (fun e' => Kd.R_ne h0 h3 (by decide) (by rw [e, e'])))) (fun k hk => h0.1 k hk)) hb
  · exact Kd.R_lower (Kd.R_reok rfl (row_step (Kd.R_mono h1 (fun _ _ => trivial)) (fun k e hlt => far k (fun e' => Kd.R_ne h1 h3 (by decide) (by rw [e, e'])))) (fun k hk => h1.1 k hk)) hb

open Go.Proofs.Ytonifhkplniblaa.Walk
/-- Where a number stands first in a list, or -1. -/
def ixv (o : List Int) (v : Int) : Int := idxOf (fun x => x == v) o
theorem index_some (o : List Int) (v : Int) (ho : o.length ≤ 9223372036854775807) : ∀ n j, j + n = o.length → (∀ i, i < j → o.getD i 0 ≠ v) → slices_Index_int_int.l0 (n + 1) o v (o.length : Int) (j : Int) = some (ixv o v)
  | 0, j, h, hn => by
    unfold slices_Index_int_int.l0
    rw [if_neg (by omega)]
    unfold ixv
    rw [idxOf_none 0 (fun i hi => by simpa using hn i (by omega))]
  | n + 1, j, h, hn => by
    unfold slices_Index_int_int.l0
    have hr : rd o (j : Int) = o.getD j 0 := rfl
    rw [if_pos (by omega), if_pos (by omega), if_pos (by omega), hr]
    by_cases e : v = o.getD j 0
    · rw [if_pos e]
      unfold ixv
      rw [idxOf_at 0 (show j < o.length by omega) (fun i hi => by simpa using hn i hi) (by simpa using e.symm)]
    · rw [if_neg e, show wrap64 ((j : Int) + 1) = ((j + 1 : Nat) : Int) by unfold wrap64; omega]
      refine index_some o v ho n (j + 1) (by omega) (fun i hi => ?_)
      rcases Nat.lt_or_ge i j with h1 | h1
      · exact hn i h1
      · obtain rfl : i = j := by omega
        exact fun h => e h.symm
theorem index_calls (A : Option Addr) (c : Nat) (o : List Int) (v : Int) (W : World) (hr : Kd.C (Kd.int .i64) W A o.length o) (hc : o.length ≤ c) : Calls Try.prog 162 #[.slice A o.length c, .int .i64 v] W fun e w' => e = .returned (.int .i64 (ixv o v)) ∧ ∃ m, w' = W.drewN m :=
  (slices_Index_int_int.calls (o.length + 1) A c o v (ixv o v) W hr hc (index_some o v hr.2.1 o.length 0 (by omega) (fun i hi => absurd hi (by omega)))).mono (by rintro e w' ⟨rfl, hd⟩; exact ⟨rfl, hd.out⟩)
set_option maxHeartbeats 2000000 in
set_option maxRecDepth 100000 in
theorem fixed_11 (go gm g : Nat) (Ao : Option Addr) (co : Nat) (o : List Int) (A : Option Addr) (c : Nat) (jobs : List (S67)) (D : Option Addr) (cd : Nat) (done : List Int) (now : Int) (i : Nat) (hi : i < jobs.length) (w : World) (hO : w.cell? ⟨go, 0, none⟩ = some (.slice Ao o.length co)) (hC : Kd.C (Kd.int .i64) w Ao o.length o) (hco : o.length ≤ co)
    (hm : w.cell? ⟨gm, 0, none⟩ = some (.pointer (some ⟨g, 0, none⟩))) (h : MachR w g A c jobs D cd done now) :
    Calls Try.prog 164 #[.int .i64 (i : Int), .pointer (some ⟨go, 0, none⟩), .pointer (some ⟨gm, 0, none⟩)] w fun e w' => e = .returned (.int .i64 (ixv o (jobs.getD i z67).f0)) ∧ ∃ m, w' = w.drewN m := by
  obtain ⟨hb, hj, hd, hl⟩ := h
  have hm0 : w.cell? ⟨g, 0, none⟩ = some (.slice A jobs.length c) := (blk_cell hb 0).trans rfl
  obtain ⟨ad0, e0, hy0, hy1, hy2, hy3⟩ := at_T67 hj (i : Int) (by omega) (by omega)
  cases e0
  simp only [Int.toNat_natCast] at hy0 hy1 hy2 hy3
  have hrd : rd_T67 jobs (i : Int) = jobs.getD i z67 := rfl
  rw [hrd] at hy0 hy1 hy2 hy3
  have hu := Try.underlying124
  have huJ := Try.underlying67
  have q0 : 0 ≤ (i : Int) := by omega
  have q1 : (i : Int) < (jobs.length : Int) := by omega
  obtain ⟨y, hy⟩ : ∃ y, y = jobs.getD i z67 := ⟨_, rfl⟩
  rw [← hy] at hy0 hy1 hy2 hy3 ⊢
  have QI := Lib.hid (fun n => index_calls Ao co o y.f0 (w.drewN n) (Kd.C_drewN hC n) hco)
  clear hrd hy hb hj hd hl hC
  obtain ⟨ya, yb, yc, yd⟩ := y
  go_enter Try.func164, Try.ntmps164
  go_wp2_with fail
  go_quiet ((go_at_call 162; exact Calls.quiet_of (QI.out _)))
  go_wp2
  go_ret
  exact ⟨rfl, _, rfl⟩
def fixPick (o : List Int) (jobs : List (S67)) (_ : Unit) (done : List Int) (t : Nat) : Int × Unit := (bestN (rdyB jobs done t) (fun i => ixv o (jobs.getD i z67).f0) jobs.length, ())
theorem fixPick_ok (o : List Int) (jobs : List (S67)) : PickOk jobs (fixPick o jobs) := by
  have := best_ok jobs (fun _ _ _ => true) (fun _ _ i => ixv o (jobs.getD i z67).f0)
  simpa [fixPick, PickOk] using this
set_option maxHeartbeats 2000000 in
set_option maxRecDepth 100000 in
theorem fixed_1 (go g : Nat) (Ao : Option Addr) (co : Nat) (o : List Int) (A : Option Addr) (c : Nat) (jobs : List (S67)) (D : Option Addr) (cd : Nat) (done : List Int) (t : Nat) (w : World) (hO : w.cell? ⟨go, 0, none⟩ = some (.slice Ao o.length co)) (hC : Kd.C (Kd.int .i64) w Ao o.length o) (hco : o.length ≤ co) (h : MachR w g A c jobs D cd done t) :
    Calls Try.prog 163 #[.pointer (some ⟨g, 0, none⟩), .pointer (some ⟨go, 0, none⟩)] w fun e w' => e = .returned (.int .i64 (fixPick o jobs () done t).1) ∧ Below w.heap.size w w' := by
  have hmf : ∀ (fn : Fn) (first cap : Array Value) (w : World), (Instr.makeFunc fn first cap).run Try.prog w = .ok (.func fn first cap) w := fun _ _ _ _ => rfl
  have hB := below_alloc (Below.refl w.heap.size w) (.cells #[.pointer (some ⟨g, 0, none⟩)] 120)
  have hcell : (w.alloc (.cells #[.pointer (some ⟨g, 0, none⟩)] 120)).cell? ⟨w.heap.size, 0, none⟩ = some (.pointer (some ⟨g, 0, none⟩)) := by rw [World.cell?_alloc_at _ _ _ _ rfl]; rfl
  have hO' := (hB.cell (World.block_lt_of_cell? w _ hO)).trans hO
  have hC' := Kd.C_below hC hB
  have h' := h.below hB
  have he : (fun i => rdyB jobs done t i && true) = rdyB jobs done t := by funext i; simp
  have H := Lib.hid (best_calls g A c jobs D cd done t _ h' (fun i => ixv o (jobs.getD i z67).f0) (fun _ => true) 164 #[] #[.pointer (some ⟨go, 0, none⟩), .pointer (some ⟨w.heap.size, 0, none⟩)] Try.func164 (by kernel_rfl) rfl
    (fun i n hi => fixed_11 go w.heap.size g Ao co o A c jobs D cd done t i hi _ hO' (Kd.C_drewN hC' n) hco hcell (h'.drewN n)) 148 #[.pointer (some ⟨g, 0, none⟩)] #[] Try.func148 (by kernel_rfl) rfl (fun i n hi => any_calls _ i _))
  have HE := Lib.hid he
  have HB := Aside0.mk hB
  clear hO hC h hO' hC' h' he hB
  go_enter Try.func163, Try.ntmps163
  go_wp2_with (go_at_call 111; refine H.out.mono ?_; rw [HE.out]; rintro e w2 ⟨rfl, m, rfl⟩)
  go_ret
  exact ⟨rfl, pw_below_drewN HB.out m⟩
theorem fixed_calls (Ao : Option Addr) (n co : Nat) (w : World) : Calls Try.prog 132 #[.slice Ao n co] w fun e w' => e = .returned (.func (.func 163) #[] #[.pointer (some ⟨w.heap.size, 0, none⟩)]) ∧ w' = w.alloc (.cells #[.slice Ao n co] 30) := by
  have hmf : ∀ (fn : Fn) (first cap : Array Value) (w : World), (Instr.makeFunc fn first cap).run Try.prog w = .ok (.func fn first cap) w := fun _ _ _ _ => rfl
  go_enter Try.func132, Try.ntmps132
  go_wp2
  go_ret
  exact ⟨rfl, rfl⟩
def impl_RunFixed.f (k : Nat) (l0 : List (S62)) (l1 : List Int) (l2 : List (S67)) : Option (List Int × List Int) := (impl_OrderValid.f k l0 l1).bind fun a => if a = true then (impl_JobsLegal.f l0 l2).bind (fun b => if b = true then some ((simN l2 (fixPick l1 l2) () 120).2.2.1, (simN l2 (fixPick l1 l2) () 120).2.2.2) else some ([], [])) else some ([], [])
theorem impl_RunFixed.mono : ∀ a0 a1 a2 k, LeO (impl_RunFixed.f k a0 a1 a2) (impl_RunFixed.f (k + 1) a0 a1 a2) := by
  intro a0 a1 a2 k
  unfold impl_RunFixed.f
  exact LeO.bind (impl_OrderValid.mono a0 a1 k) (fun _ => LeO.refl _)
set_option maxHeartbeats 2000000 in
set_option maxRecDepth 100000 in
theorem impl_RunFixed.calls (k : Nat) (A0 : Option Addr) (c0 : Nat) (l0 : List (S62)) (A1 : Option Addr) (c1 : Nat) (l1 : List Int) (A2 : Option Addr) (c2 : Nat) (l2 : List (S67)) (r1 : List Int) (r2 : List Int) (w : World) (hr0 : Kd.C k62 w A0 l0.length l0) (hc0 : l0.length ≤ c0) (hr1 : Kd.C (Kd.int .i64) w A1 l1.length l1) (hc1 : l1.length ≤ c1) (hr2 : Kd.C k67 w A2 l2.length l2) (hc2 : l2.length ≤ c2) (h : impl_RunFixed.f k l0 l1 l2 = some (r1, r2)) :
    Calls Try.prog 56 #[.slice A0 l0.length c0, .slice A1 l1.length c1, .slice A2 l2.length c2] w fun e w' => ∃ v0_ v1_ : Value, e = .returned (.agg #[v0_, v1_]) ∧ Kd.R (Kd.int .i64) 3 w' w.heap.size (fun k_ => some k_ ≠ (v1_ : Value).ownBlock) v0_ r1 ∧ Kd.R (Kd.int .i64) 3 w' w.heap.size (fun k_ => some k_ ≠ (v0_ : Value).ownBlock) v1_ r2 ∧ Below w.heap.size w w' := by
  have hu := Try.underlying32
  unfold impl_RunFixed.f at h
  obtain ⟨a, ha⟩ : ∃ a, impl_OrderValid.f k l0 l1 = some a := by
    cases hs : impl_OrderValid.f k l0 l1 with
    | none => rw [hs] at h; cases h
    | some b => exact ⟨b, rfl⟩
  rw [ha, Option.bind_some] at h
  have hBA := below_alloc (Below.refl w.heap.size w) (.cells #[.slice none 0 0, .slice none 0 0] 32)
  have h4 := blk_new w (.cells #[.slice none 0 0, .slice none 0 0] 32)
  have HO := Lib.hid (impl_OrderValid.calls k A0 c0 l0 A1 c1 l1 a _ (Kd.C_below hr0 hBA) hc0 (Kd.C_below hr1 hBA) hc1 ha)
  have HBA := Aside0.mk hBA
  have H4 := Aside0.mk h4
  cases a with
  | false =>
    rw [if_neg (by simp)] at h
    injection h with h
    injection h with h1 h2
    subst h1 h2
    clear hr0 hc0 hr1 hc1 hr2 hc2 ha hBA h4
    go_enter Try.func56, Try.ntmps56
    go_wp2_with (go_at_call 131; refine HO.out.mono ?_; rintro e w2 ⟨rfl, hb2⟩; have HB2 := Aside0.mk (below_step HBA.out hb2); have H42 := Aside0.mk (blk_below H4.out hb2); have hq0 := (blk_cell (blk_below H4.out hb2) 0).trans rfl; have hq1 := (blk_cell (blk_below H4.out hb2) 1).trans rfl; have hqf0 := blk_frozen (blk_below H4.out hb2) 0; have hqf1 := blk_frozen (blk_below H4.out hb2) 1; clear hb2)
    (try simp only [Exit.inBlock, Exit.then])
    have ho := sched_out (b := w.heap.size) (Nat.le_refl _) (Nat.le_refl _) H42.out HB2.out (Kd.R_nil (Kd.int .i64) 3 _ _ _) (Kd.R_nil (Kd.int .i64) 3 _ _ _) (.slice none 0 0) (.slice none 0 0)
    refine bodyPost_ret (results_cell_row rfl _ _ w.heap.size 32 #[.slice none 0 0, .slice none 0 0] (0, 0) _ rfl (blk_put (blk_put H42.out 0 _ rfl) 1 _ rfl) Try.underlying32 rfl (by kernel_rfl)) rfl ?_
    exact ⟨_, _, rfl, ho.1, ho.2.1, ho.2.2⟩
  | true =>
    rw [if_pos rfl] at h
    obtain ⟨b, hb⟩ : ∃ b, impl_JobsLegal.f l0 l2 = some b := by
      cases hs : impl_JobsLegal.f l0 l2 with
      | none => rw [hs] at h; cases h
      | some b => exact ⟨b, rfl⟩
    rw [hb, Option.bind_some] at h
    have HL := Lib.hid (fun (W : World) (hW : Below w.heap.size w W) => impl_JobsLegal.calls A0 c0 l0 A2 c2 l2 b W (Kd.C_below hr0 hW) hc0 (Kd.C_below hr2 hW) hc2 hb)
    cases b with
    | false =>
      rw [if_neg (by simp)] at h
      injection h with h
      injection h with h1 h2
      subst h1 h2
      clear hr0 hc0 hr1 hc1 hr2 hc2 ha hb hBA h4
      go_enter Try.func56, Try.ntmps56
      go_wp2_with (first | (go_at_call 131; refine HO.out.mono ?_; rintro e w2 ⟨rfl, hb2⟩; have HB2 := Aside0.mk (below_step HBA.out hb2); have H42 := Aside0.mk (blk_below H4.out hb2); clear hb2) | (go_at_call 35; refine (HL.out _ HB2.out).mono ?_; rintro e w3 ⟨rfl, hb3⟩; have HB3 := Aside0.mk (below_step HB2.out hb3); have H43 := Aside0.mk (blk_below H42.out hb3); have hq0 := (blk_cell H43.out 0).trans rfl; have hq1 := (blk_cell H43.out 1).trans rfl; have hqf0 := blk_frozen H43.out 0; have hqf1 := blk_frozen H43.out 1; clear hb3))
      (try simp only [Exit.inBlock, Exit.then])
      have ho := sched_out (b := w.heap.size) (Nat.le_refl _) (Nat.le_refl _) H43.out HB3.out (Kd.R_nil (Kd.int .i64) 3 _ _ _) (Kd.R_nil (Kd.int .i64) 3 _ _ _) (.slice none 0 0) (.slice none 0 0)
      refine bodyPost_ret (results_cell_row rfl _ _ w.heap.size 32 #[.slice none 0 0, .slice none 0 0] (0, 0) _ rfl (blk_put (blk_put H43.out 0 _ rfl) 1 _ rfl) Try.underlying32 rfl (by kernel_rfl)) rfl ?_
      exact ⟨_, _, rfl, ho.1, ho.2.1, ho.2.2⟩
    | true =>
      rw [if_pos rfl] at h
      injection h with h
      injection h with h1 h2
      subst h1 h2
      have hsv : impl_SetValid.f l0 = some true ∧ legalB l0 l2 = true := by
        unfold impl_JobsLegal.f at hb
        cases hs : impl_SetValid.f l0 with
        | none => rw [hs] at hb; cases hb
        | some b => rw [hs, Option.bind_some] at hb; have := Option.some.inj hb; rw [Bool.and_eq_true] at this; rw [this.1]; exact ⟨rfl, this.2⟩
      obtain ⟨hl1, hl2⟩ := legal_jobs hsv.1 hsv.2
      have HS := Lib.hid (fun (W : World) (go : Nat) (hW : Below w.heap.size w W) (hcell : W.cell? ⟨go, 0, none⟩ = some (.slice A1 l1.length c1)) (hgo : go < W.heap.size) => simulate_calls (fun V (_ : Unit) => V.cell? ⟨go, 0, none⟩ = some (.slice A1 l1.length c1)) (fixPick l1 l2) () (fun _ => False) w W hW (fun k hk => hk.elim) A2 c2 l2 hr2 hc2 hl1 hl2 163 #[] #[.pointer (some ⟨go, 0, none⟩)] Try.func163 (by kernel_rfl) rfl hcell
        (fun V V' _ hV hk _ => by rw [← hV]; exact World.cell?_of_block (hk go hgo)) (fixPick_ok l1 l2)
        (fun g D cd V s done t ht hV hM hg hB hz => (fixed_1 go g A1 c1 l1 A2 c2 l2 D cd done t V hV (Kd.C_below hr1 hB) hc1 hM).mono (by rintro e w' ⟨rfl, hb⟩; exact ⟨rfl, (hb.cell (World.block_lt_of_cell? _ _ hV)).trans hV, Kept.of_below hb _, hb.mono hB.size⟩)))
      clear hr0 hc0 hr1 hc1 hr2 hc2 ha hb hBA h4 hsv hl1 hl2
      go_enter Try.func56, Try.ntmps56
      go_wp2_with (first | (go_at_call 131; refine HO.out.mono ?_; rintro e w2 ⟨rfl, hb2⟩; have HB2 := Aside0.mk (below_step HBA.out hb2); have H42 := Aside0.mk (blk_below H4.out hb2); clear hb2) | (go_at_call 35; refine (HL.out _ HB2.out).mono ?_; rintro e w3 ⟨rfl, hb3⟩; have HB3 := Aside0.mk (below_step HB2.out hb3); have H43 := Aside0.mk (blk_below H42.out hb3); clear hb3) | (go_at_call 132; refine (fixed_calls _ _ _ _).mono ?_; rintro e w4 ⟨rfl, hw4⟩; have hcz : w4.cell? ⟨w3.heap.size, 0, none⟩ = some (.slice A1 l1.length c1) := (by rw [hw4, World.cell?_alloc_at _ _ _ _ rfl]; rfl); have HCZ := Aside0.mk hcz; have HLT := Aside0.mk (World.block_lt_of_cell? _ _ hcz); have HB4 := Aside0.mk (show Below w.heap.size w w4 by rw [hw4]; exact below_alloc HB3.out _); have H44 := Aside0.mk (show w4.heap[w.heap.size]? = some (.cells #[.slice none 0 0, .slice none 0 0] 32 (0, 0)) by rw [hw4]; exact blk_alloc H43.out _); clear hcz hw4) | (go_at_call 80; refine (HS.out _ _ HB4.out HCZ.out HLT.out).mono ?_; rintro e w5 ⟨v0, v1, rfl, hr0, hr1, hb5, hk5, _⟩; obtain ⟨Aa, ca, ea⟩ := Kd.R_slice hr0; obtain ⟨Ab, cb, eb⟩ := Kd.R_slice hr1; subst ea eb; have H45 := Aside0.mk (blk_kept H44.out hk5 (fun h => h)); have HR0 := Aside0.mk hr0; have HR1 := Aside0.mk hr1; have HB5 := Aside0.mk hb5; have hq0 := (blk_cell H45.out 0).trans rfl; have hq1 := (blk_cell H45.out 1).trans rfl; have hqf0 := blk_frozen H45.out 0; have hqf1 := blk_frozen H45.out 1; clear hr0 hr1 hb5 hk5))
      (try simp only [Exit.inBlock, Exit.then])
      refine bodyPost_ret (results_cell_row rfl _ _ w.heap.size 32 #[.slice Aa _ ca, .slice Ab _ cb] (0, 0) _ rfl (blk_put (blk_put H45.out 0 _ rfl) 1 _ rfl) Try.underlying32 rfl (by kernel_rfl)) rfl ?_
      have ho := sched_out (Nat.le_refl _) HB4.out.size H45.out HB5.out HR0.out HR1.out
      exact ⟨_, _, rfl, (ho _ _).1, (ho _ _).2.1, (ho _ _).2.2⟩

end Go.Proofs.Ytonifhkplniblaa.Print

namespace Go.Proofs.Ytonifhkplniblaa.Print
open Go.RowKit Go.Proofs.YtonifhkplniblaaW.PrintWords Go.Proofs.YtonifhkplniblaaW.PrintLast Go.Proofs.YtonifhkplniblaaW.PrintMore
attribute [local go_sem] max2_int min2_int max_two min_two max_three min_three max_four min_four   -- for this text's walks alone
set_option linter.unusedVariables false
set_option linter.unusedSimpArgs false

/-! ### laws_eqIntS: function 45 -/
def laws_eqIntS.l0 : Nat → List Int → List Int → Int → Option (Bool)
  | 0, _, _, _ => none
  | k + 1, x0, x1, x5 => if x5 < (x0.length : Int) then (if 0 ≤ x5 then (if x5 < (x1.length : Int) then (if (rd x0 x5) = (rd x1 x5) then (laws_eqIntS.l0 k x0 x1 (wrap64 (x5 + 1))) else (some false)) else (none)) else (none)) else (some true)
def laws_eqIntS.f (k : Nat) (l0 : List Int) (l1 : List Int) : Option (Bool) := if (l0.length : Int) = (l1.length : Int) then (laws_eqIntS.l0 k l0 l1 0) else (some false)
theorem laws_eqIntS.mono_l : ∀ k, (∀ y0 y1 y2, LeO (laws_eqIntS.l0 k y0 y1 y2) (laws_eqIntS.l0 (k + 1) y0 y1 y2))
  | 0 => fun _ _ _ r h => by simp [laws_eqIntS.l0] at h
  | k + 1 => by
    have ih0 := laws_eqIntS.mono_l k
    · intro y0 y1 y2
      unfold laws_eqIntS.l0
      repeat' first
      | (with_reducible exact ih0 _ _ _)
      | (with_reducible exact LeO.refl _)
      | (with_reducible exact LeO.none _)
      | (with_reducible refine LeO.ite ?_ ?_)
      | (with_reducible refine LeO.bind ?_ (fun _ => ?_))
      | exact ih0 _ _ _
      | exact LeO.none _
      | refine LeO.ite ?_ ?_
      | refine LeO.bind ?_ (fun _ => ?_)
theorem laws_eqIntS.mono : ∀ a0 a1 k, LeO (laws_eqIntS.f k a0 a1) (laws_eqIntS.f (k + 1) a0 a1) := by
  intro a0 a1 k
  have ih0 := laws_eqIntS.mono_l k
  unfold laws_eqIntS.f
  repeat' first
      | (with_reducible exact ih0 _ _ _)
      | (with_reducible exact LeO.refl _)
      | (with_reducible exact LeO.none _)
      | (with_reducible refine LeO.ite ?_ ?_)
      | (with_reducible refine LeO.bind ?_ (fun _ => ?_))
      | exact ih0 _ _ _
      | exact LeO.none _
      | refine LeO.ite ?_ ?_
      | refine LeO.bind ?_ (fun _ => ?_)
set_option maxHeartbeats 8000000 in
set_option maxRecDepth 100000 in
theorem laws_eqIntS.calls (k : Nat) (A0 : Option Addr) (c0 : Nat) (l0 : List Int) (A1 : Option Addr) (c1 : Nat) (l1 : List Int) (r : Bool) (w : World) (hr0 : Kd.C (Kd.int .i64) w A0 l0.length l0) (hc0 : l0.length ≤ c0) (hr1 : Kd.C (Kd.int .i64) w A1 l1.length l1) (hc1 : l1.length ≤ c1) (h : laws_eqIntS.f k l0 l1 = some r) :
    Calls Try.prog 45 #[.slice A0 l0.length c0, .slice A1 l1.length c1] w fun e w' => e = .returned (.bool r) ∧ Drawn0 w w' := by
  have HR0 := Aside0.mk hr0
  have HC0 := Aside0.mk hc0
  clear hr0 hc0
  have HR1 := Aside0.mk hr1
  have HC1 := Aside0.mk hc1
  clear hr1 hc1
  have H : (if (l0.length : Int) = (l1.length : Int) then (laws_eqIntS.l0 k l0 l1 0) else (some false)) = some r := h
  clear h
  by_cases c3 : (l0.length : Int) = (l1.length : Int)
  · rw [if_pos c3] at H
    have c3b0 : ((l0.length : Int) == (l1.length : Int)) = true := beq_iff_eq.mpr c3
    have c3b1 : ((l0.length : Int) != (l1.length : Int)) = false := bne_eq_false_iff_eq.mpr c3
    have c3b2 : (l0.length == l1.length) = true := by first | simpa using c3 | (simp at c3 ⊢; omega)
    clear c3
    have H' := Aside0.mk H
    clear H
    go_enter Try.func45, Try.ntmps45
    go_wp2
    repeat (go_quiet (fail); try go_wp2)
    go_loopg [5] k (fun kq v5 w' => ∃ (x5_1 : Int), v5 = .int .i64 x5_1 ∧ Aside0 (laws_eqIntS.l0 kq l0 l1 x5_1 = some r) ∧ Aside0 (kq ≤ k) ∧ Drawn0 w w')
    case atStart => exact ⟨(0), (by first | rfl | (simp; done) | (simp [*]; done) | (simp only [i64_w, i32_w]; done) | (simp [*, i64_w, i32_w]; done)), H', ⟨Nat.le_refl _⟩, by repeat (first | exact Drawn0.refl _ | apply Drawn0.step)⟩
    case round =>
      clear H'
      try clear c1
      try clear p2
      try clear c3
      try clear c3b0
      try clear c3b1
      try clear c3b2
      obtain ⟨x5_1, rfl, HA, HK1, ⟨m1, rfl⟩⟩ := hrel
      cases gk with
      | zero => exact absurd HA.out (by simp [laws_eqIntS.l0])
      | succ k1 =>
        have H := HA.out
        clear HA
        simp only [laws_eqIntS.l0] at H
        by_cases c4 : x5_1 < (l0.length : Int)
        · rw [if_pos c4] at H
          have c4b0 : decide (x5_1 < (l0.length : Int)) = true := decide_eq_true c4
          clear c4
          by_cases c5 : 0 ≤ x5_1
          · rw [if_pos c5] at H
            have c5b0 : decide (0 ≤ x5_1) = true := decide_eq_true c5
            clear c5
            by_cases c6 : x5_1 < (l1.length : Int)
            · rw [if_pos c6] at H
              have c6b0 : decide (x5_1 < (l1.length : Int)) = true := decide_eq_true c6
              clear c6
              by_cases c7 : (rd l0 x5_1) = (rd l1 x5_1)
              · rw [if_pos c7] at H
                have c7b0 : ((rd l0 x5_1) == (rd l1 x5_1)) = true := beq_iff_eq.mpr c7
                have c7b1 : ((rd l0 x5_1) != (rd l1 x5_1)) = false := bne_eq_false_iff_eq.mpr c7
                clear c7
                have H' := Aside0.mk H
                clear H
                have p101 : 0 ≤ (x5_1 : Int) := of_decide_eq_true (by first | (with_reducible assumption) | assumption)
                have q101 : x5_1 < (l0.length : Int) := of_decide_eq_true (by first | (with_reducible assumption) | assumption)
                obtain ⟨ad101, e101, hx101_0⟩ := Kd.at_int HR0.out x5_1 p101 q101
                cases e101
                replace p101 := eq_true p101
                replace q101 := eq_true q101
                have p102 : 0 ≤ (x5_1 : Int) := of_decide_eq_true (by first | (with_reducible assumption) | assumption)
                have q102 : x5_1 < (l1.length : Int) := of_decide_eq_true (by first | (with_reducible assumption) | assumption)
                obtain ⟨ad102, e102, hx102_0⟩ := Kd.at_int HR1.out x5_1 p102 q102
                cases e102
                replace p102 := eq_true p102
                replace q102 := eq_true q102
                go_wp2
                repeat (go_quiet (fail); try go_wp2)
                go_roundg k1
                case measure => have := HK1.out; omega
                case rel => exact ⟨(wrap64 (x5_1 + 1)), (by first | rfl | (simp; done) | (simp [*]; done) | (simp only [i64_w, i32_w]; done) | (simp [*, i64_w, i32_w]; done)), H', ⟨by have := HK1.out; omega⟩, by repeat (first | exact Drawn0.refl _ | apply Drawn0.step)⟩
              · rw [if_neg c7] at H
                have c7b0 : ((rd l0 x5_1) == (rd l1 x5_1)) = false := beq_eq_false_iff_ne.mpr c7
                have c7b1 : ((rd l0 x5_1) != (rd l1 x5_1)) = true := bne_iff_ne.mpr c7
                obtain rfl := Option.some.inj H
                have p101 : 0 ≤ (x5_1 : Int) := of_decide_eq_true (by first | (with_reducible assumption) | assumption)
                have q101 : x5_1 < (l0.length : Int) := of_decide_eq_true (by first | (with_reducible assumption) | assumption)
                obtain ⟨ad101, e101, hx101_0⟩ := Kd.at_int HR0.out x5_1 p101 q101
                cases e101
                replace p101 := eq_true p101
                replace q101 := eq_true q101
                have p102 : 0 ≤ (x5_1 : Int) := of_decide_eq_true (by first | (with_reducible assumption) | assumption)
                have q102 : x5_1 < (l1.length : Int) := of_decide_eq_true (by first | (with_reducible assumption) | assumption)
                obtain ⟨ad102, e102, hx102_0⟩ := Kd.at_int HR1.out x5_1 p102 q102
                cases e102
                replace p102 := eq_true p102
                replace q102 := eq_true q102
                go_wp2
                repeat (go_quiet (fail); try go_wp2)
                go_ret
                exact ⟨by first | rfl | (simp; done) | (simp [*]; done) | (simp only [i64_w, i32_w]; done) | (simp [*, i64_w, i32_w]; done), by repeat (first | exact Drawn0.refl _ | apply Drawn0.step)⟩
            · rw [if_neg c6] at H
              exact absurd H (by simp)
          · rw [if_neg c5] at H
            exact absurd H (by simp)
        · rw [if_neg c4] at H
          have c4b0 : decide (x5_1 < (l0.length : Int)) = false := decide_eq_false c4
          clear c4
          obtain rfl := Option.some.inj H
          go_wp2
          repeat (go_quiet (fail); try go_wp2)
          go_ret
          exact ⟨by first | rfl | (simp; done) | (simp [*]; done) | (simp only [i64_w, i32_w]; done) | (simp [*, i64_w, i32_w]; done), by repeat (first | exact Drawn0.refl _ | apply Drawn0.step)⟩
  · rw [if_neg c3] at H
    have c3b0 : ((l0.length : Int) == (l1.length : Int)) = false := beq_eq_false_iff_ne.mpr c3
    have c3b1 : ((l0.length : Int) != (l1.length : Int)) = true := bne_iff_ne.mpr c3
    have c3b2 : (l0.length == l1.length) = false := by first | simpa using c3 | (simp at c3 ⊢; omega)
    obtain rfl := Option.some.inj H
    go_enter Try.func45, Try.ntmps45
    go_wp2
    repeat (go_quiet (fail); try go_wp2)
    go_ret
    exact ⟨by first | rfl | (simp; done) | (simp [*]; done) | (simp only [i64_w, i32_w]; done) | (simp [*, i64_w, i32_w]; done), by repeat (first | exact Drawn0.refl _ | apply Drawn0.step)⟩



/-! ### laws_eqJob: function 88 -/
def laws_eqJob.f (a0_0 : Int) (a0_1 : Int) (a0_2 : Int) (a0_3 : Int) (a1_0 : Int) (a1_1 : Int) (a1_2 : Int) (a1_3 : Int) : Option (Bool) := if a0_0 = a1_0 then (if a0_1 = a1_1 then (if a0_2 = a1_2 then (if a0_3 = a1_3 then (some true) else (some false)) else (some false)) else (some false)) else (some false)
set_option maxHeartbeats 8000000 in
set_option maxRecDepth 100000 in
theorem laws_eqJob.calls (a0_0 : Int) (a0_1 : Int) (a0_2 : Int) (a0_3 : Int) (a1_0 : Int) (a1_1 : Int) (a1_2 : Int) (a1_3 : Int) (r : Bool) (w : World) (h : laws_eqJob.f a0_0 a0_1 a0_2 a0_3 a1_0 a1_1 a1_2 a1_3 = some r) :
    Calls Try.prog 88 #[.agg #[.int .i64 a0_0, .int .i64 a0_1, .int .i64 a0_2, .int .i64 a0_3], .agg #[.int .i64 a1_0, .int .i64 a1_1, .int .i64 a1_2, .int .i64 a1_3]] w fun e w' => e = .returned (.bool r) ∧ Below w.heap.size w w' := by
  have hu67 := Try.underlying67
  have HB := Aside0.mk (Below.refl w.heap.size w)
  have H : (if a0_0 = a1_0 then (if a0_1 = a1_1 then (if a0_2 = a1_2 then (if a0_3 = a1_3 then (some true) else (some false)) else (some false)) else (some false)) else (some false)) = some r := h
  clear h
  by_cases c3 : a0_0 = a1_0
  · rw [if_pos c3] at H
    have c3b0 : (a0_0 == a1_0) = true := beq_iff_eq.mpr c3
    have c3b1 : (a0_0 != a1_0) = false := bne_eq_false_iff_eq.mpr c3
    clear c3
    by_cases c4 : a0_1 = a1_1
    · rw [if_pos c4] at H
      have c4b0 : (a0_1 == a1_1) = true := beq_iff_eq.mpr c4
      have c4b1 : (a0_1 != a1_1) = false := bne_eq_false_iff_eq.mpr c4
      clear c4
      by_cases c5 : a0_2 = a1_2
      · rw [if_pos c5] at H
        have c5b0 : (a0_2 == a1_2) = true := beq_iff_eq.mpr c5
        have c5b1 : (a0_2 != a1_2) = false := bne_eq_false_iff_eq.mpr c5
        clear c5
        by_cases c6 : a0_3 = a1_3
        · rw [if_pos c6] at H
          have c6b0 : (a0_3 == a1_3) = true := beq_iff_eq.mpr c6
          have c6b1 : (a0_3 != a1_3) = false := bne_eq_false_iff_eq.mpr c6
          clear c6
          obtain rfl := Option.some.inj H
          go_enter Try.func88, Try.ntmps88
          go_wp2_with (first | ((with_reducible refine gate_dst (N := 2) rfl ?_); refine box_event ?hg (N := 2) ?hd (cs := #[.int .i64 a0_0, .int .i64 a0_1, .int .i64 a0_2, .int .i64 a0_3]) (t := 67) ?hr ?_; (case hd => rfl); (case hg => rfl); (case hr => first | (go_simp; done) | (go_simp; rfl)); intro gb101 hg w7 hbox hb; have n0_ := Aside0.mk (below_step (by repeat (first | (with_reducible first | exact HB.out | apply below_alloc | apply pw_below_drewN | apply below_drew1) | exact HB.out)) hb); have n1_ := Aside0.mk (hbox); have n2_ := Aside0.mk ((by rw [hg]; exact (below_size (by repeat (first | (with_reducible first | exact HB.out | apply below_alloc | apply pw_below_drewN | apply below_drew1) | exact HB.out))) : w.heap.size ≤ gb101)); have n3_ := Aside0.mk ((by rw [hg]; exact (below_size (by repeat (first | (with_reducible first | exact HB.out | apply below_alloc | apply pw_below_drewN | apply below_drew1) | exact HB.out))) : w.heap.size ≤ gb101)); clear HB; have HB := n0_; have BK101 := n1_; have GW101 := n2_; have GE101 := n3_; clear n0_ n1_ n2_ n3_; clear hb hbox hg) | ((with_reducible refine gate_dst (N := 3) rfl ?_); refine box_event ?hg (N := 3) ?hd (cs := #[.int .i64 a1_0, .int .i64 a1_1, .int .i64 a1_2, .int .i64 a1_3]) (t := 67) ?hr ?_; (case hd => rfl); (case hg => rfl); (case hr => first | (go_simp; done) | (go_simp; rfl)); intro gb102 hg w8 hbox hb; have n0_ := Aside0.mk (blk_below (g := gb101) (o := .cells #[.int .i64 a0_0, .int .i64 a0_1, .int .i64 a0_2, .int .i64 a0_3] 67 (0, 0)) (by (with_reducible repeat (first | refine blk_drewN ?_ _ | refine blk_drew ?_ | refine blk_alloc ?_ _)); exact BK101.out) hb); have n1_ := Aside0.mk (below_step (by repeat (first | (with_reducible first | exact HB.out | apply below_alloc | apply pw_below_drewN | apply below_drew1 | refine below_set ?_ GE101.out) | exact HB.out)) hb); have n2_ := Aside0.mk (hbox); have n3_ := Aside0.mk ((by rw [hg]; exact (below_size (by repeat (first | (with_reducible first | exact HB.out | apply below_alloc | apply pw_below_drewN | apply below_drew1 | refine below_set ?_ GE101.out) | exact HB.out))) : w.heap.size ≤ gb102)); have n4_ := Aside0.mk ((by rw [hg]; exact (below_size (by repeat (first | (with_reducible first | exact HB.out | apply below_alloc | apply pw_below_drewN | apply below_drew1 | refine below_set ?_ GE101.out) | exact HB.out))) : w.heap.size ≤ gb102)); have n5_ := Aside0.mk ((by rw [hg]; exact Nat.ne_of_lt (blk_lt (g := gb101) (o := .cells #[.int .i64 a0_0, .int .i64 a0_1, .int .i64 a0_2, .int .i64 a0_3] 67 (0, 0)) (by (with_reducible repeat (first | refine blk_drewN ?_ _ | refine blk_drew ?_ | refine blk_alloc ?_ _)); exact BK101.out)) : gb101 ≠ gb102)); have n6_ := Aside0.mk ((by rw [hg]; exact Nat.ne_of_gt (blk_lt (g := gb101) (o := .cells #[.int .i64 a0_0, .int .i64 a0_1, .int .i64 a0_2, .int .i64 a0_3] 67 (0, 0)) (by (with_reducible repeat (first | refine blk_drewN ?_ _ | refine blk_drew ?_ | refine blk_alloc ?_ _)); exact BK101.out)) : gb102 ≠ gb101)); clear BK101; clear HB; have BK101 := n0_; have HB := n1_; have BK102 := n2_; have GW102 := n3_; have GE102 := n4_; have NB101_102 := n5_; have NB102_101 := n6_; clear n0_ n1_ n2_ n3_ n4_ n5_ n6_; clear hb hbox hg; have hnb9 := NB101_102.out; have hnc9 := NB102_101.out; have hcz10_0 : w8.cell? ⟨gb101, 0, none⟩ = some (.int .i64 a0_0) := (blk_cell BK101.out 0).trans rfl; have hcz10_1 : w8.cell? ⟨gb101, 1, none⟩ = some (.int .i64 a0_1) := (blk_cell BK101.out 1).trans rfl; have hcz10_2 : w8.cell? ⟨gb101, 2, none⟩ = some (.int .i64 a0_2) := (blk_cell BK101.out 2).trans rfl; have hcz10_3 : w8.cell? ⟨gb101, 3, none⟩ = some (.int .i64 a0_3) := (blk_cell BK101.out 3).trans rfl; have hfz10_0 := blk_frozen BK101.out 0; have hfz10_1 := blk_frozen BK101.out 1; have hfz10_2 := blk_frozen BK101.out 2; have hfz10_3 := blk_frozen BK101.out 3; have hcz11_0 : w8.cell? ⟨gb102, 0, none⟩ = some (.int .i64 a1_0) := (blk_cell BK102.out 0).trans rfl; have hcz11_1 : w8.cell? ⟨gb102, 1, none⟩ = some (.int .i64 a1_1) := (blk_cell BK102.out 1).trans rfl; have hcz11_2 : w8.cell? ⟨gb102, 2, none⟩ = some (.int .i64 a1_2) := (blk_cell BK102.out 2).trans rfl; have hcz11_3 : w8.cell? ⟨gb102, 3, none⟩ = some (.int .i64 a1_3) := (blk_cell BK102.out 3).trans rfl; have hfz11_0 := blk_frozen BK102.out 0; have hfz11_1 := blk_frozen BK102.out 1; have hfz11_2 := blk_frozen BK102.out 2; have hfz11_3 := blk_frozen BK102.out 3))
          go_ret
          exact ⟨by first | rfl | (simp [errW_none, errW_some] <;> rfl) | (simp [*, errW_none, errW_some] <;> rfl), by repeat (first | (with_reducible first | exact HB.out | apply below_alloc | apply pw_below_drewN | apply below_drew1 | refine below_set ?_ GE101.out | refine below_set ?_ GE102.out) | exact HB.out)⟩
        · rw [if_neg c6] at H
          have c6b0 : (a0_3 == a1_3) = false := beq_eq_false_iff_ne.mpr c6
          have c6b1 : (a0_3 != a1_3) = true := bne_iff_ne.mpr c6
          obtain rfl := Option.some.inj H
          go_enter Try.func88, Try.ntmps88
          go_wp2_with (first | ((with_reducible refine gate_dst (N := 2) rfl ?_); refine box_event ?hg (N := 2) ?hd (cs := #[.int .i64 a0_0, .int .i64 a0_1, .int .i64 a0_2, .int .i64 a0_3]) (t := 67) ?hr ?_; (case hd => rfl); (case hg => rfl); (case hr => first | (go_simp; done) | (go_simp; rfl)); intro gb101 hg w12 hbox hb; have n0_ := Aside0.mk (below_step (by repeat (first | (with_reducible first | exact HB.out | apply below_alloc | apply pw_below_drewN | apply below_drew1) | exact HB.out)) hb); have n1_ := Aside0.mk (hbox); have n2_ := Aside0.mk ((by rw [hg]; exact (below_size (by repeat (first | (with_reducible first | exact HB.out | apply below_alloc | apply pw_below_drewN | apply below_drew1) | exact HB.out))) : w.heap.size ≤ gb101)); have n3_ := Aside0.mk ((by rw [hg]; exact (below_size (by repeat (first | (with_reducible first | exact HB.out | apply below_alloc | apply pw_below_drewN | apply below_drew1) | exact HB.out))) : w.heap.size ≤ gb101)); clear HB; have HB := n0_; have BK101 := n1_; have GW101 := n2_; have GE101 := n3_; clear n0_ n1_ n2_ n3_; clear hb hbox hg) | ((with_reducible refine gate_dst (N := 3) rfl ?_); refine box_event ?hg (N := 3) ?hd (cs := #[.int .i64 a1_0, .int .i64 a1_1, .int .i64 a1_2, .int .i64 a1_3]) (t := 67) ?hr ?_; (case hd => rfl); (case hg => rfl); (case hr => first | (go_simp; done) | (go_simp; rfl)); intro gb102 hg w13 hbox hb; have n0_ := Aside0.mk (blk_below (g := gb101) (o := .cells #[.int .i64 a0_0, .int .i64 a0_1, .int .i64 a0_2, .int .i64 a0_3] 67 (0, 0)) (by (with_reducible repeat (first | refine blk_drewN ?_ _ | refine blk_drew ?_ | refine blk_alloc ?_ _)); exact BK101.out) hb); have n1_ := Aside0.mk (below_step (by repeat (first | (with_reducible first | exact HB.out | apply below_alloc | apply pw_below_drewN | apply below_drew1 | refine below_set ?_ GE101.out) | exact HB.out)) hb); have n2_ := Aside0.mk (hbox); have n3_ := Aside0.mk ((by rw [hg]; exact (below_size (by repeat (first | (with_reducible first | exact HB.out | apply below_alloc | apply pw_below_drewN | apply below_drew1 | refine below_set ?_ GE101.out) | exact HB.out))) : w.heap.size ≤ gb102)); have n4_ := Aside0.mk ((by rw [hg]; exact (below_size (by repeat (first | (with_reducible first | exact HB.out | apply below_alloc | apply pw_below_drewN | apply below_drew1 | refine below_set ?_ GE101.out) | exact HB.out))) : w.heap.size ≤ gb102)); have n5_ := Aside0.mk ((by rw [hg]; exact Nat.ne_of_lt (blk_lt (g := gb101) (o := .cells #[.int .i64 a0_0, .int .i64 a0_1, .int .i64 a0_2, .int .i64 a0_3] 67 (0, 0)) (by (with_reducible repeat (first | refine blk_drewN ?_ _ | refine blk_drew ?_ | refine blk_alloc ?_ _)); exact BK101.out)) : gb101 ≠ gb102)); have n6_ := Aside0.mk ((by rw [hg]; exact Nat.ne_of_gt (blk_lt (g := gb101) (o := .cells #[.int .i64 a0_0, .int .i64 a0_1, .int .i64 a0_2, .int .i64 a0_3] 67 (0, 0)) (by (with_reducible repeat (first | refine blk_drewN ?_ _ | refine blk_drew ?_ | refine blk_alloc ?_ _)); exact BK101.out)) : gb102 ≠ gb101)); clear BK101; clear HB; have BK101 := n0_; have HB := n1_; have BK102 := n2_; have GW102 := n3_; have GE102 := n4_; have NB101_102 := n5_; have NB102_101 := n6_; clear n0_ n1_ n2_ n3_ n4_ n5_ n6_; clear hb hbox hg; have hnb14 := NB101_102.out; have hnc14 := NB102_101.out; have hcz15_0 : w13.cell? ⟨gb101, 0, none⟩ = some (.int .i64 a0_0) := (blk_cell BK101.out 0).trans rfl; have hcz15_1 : w13.cell? ⟨gb101, 1, none⟩ = some (.int .i64 a0_1) := (blk_cell BK101.out 1).trans rfl; have hcz15_2 : w13.cell? ⟨gb101, 2, none⟩ = some (.int .i64 a0_2) := (blk_cell BK101.out 2).trans rfl; have hcz15_3 : w13.cell? ⟨gb101, 3, none⟩ = some (.int .i64 a0_3) := (blk_cell BK101.out 3).trans rfl; have hfz15_0 := blk_frozen BK101.out 0; have hfz15_1 := blk_frozen BK101.out 1; have hfz15_2 := blk_frozen BK101.out 2; have hfz15_3 := blk_frozen BK101.out 3; have hcz16_0 : w13.cell? ⟨gb102, 0, none⟩ = some (.int .i64 a1_0) := (blk_cell BK102.out 0).trans rfl; have hcz16_1 : w13.cell? ⟨gb102, 1, none⟩ = some (.int .i64 a1_1) := (blk_cell BK102.out 1).trans rfl; have hcz16_2 : w13.cell? ⟨gb102, 2, none⟩ = some (.int .i64 a1_2) := (blk_cell BK102.out 2).trans rfl; have hcz16_3 : w13.cell? ⟨gb102, 3, none⟩ = some (.int .i64 a1_3) := (blk_cell BK102.out 3).trans rfl; have hfz16_0 := blk_frozen BK102.out 0; have hfz16_1 := blk_frozen BK102.out 1; have hfz16_2 := blk_frozen BK102.out 2; have hfz16_3 := blk_frozen BK102.out 3))
          go_ret
          exact ⟨by first | rfl | (simp [errW_none, errW_some] <;> rfl) | (simp [*, errW_none, errW_some] <;> rfl), by repeat (first | (with_reducible first | exact HB.out | apply below_alloc | apply pw_below_drewN | apply below_drew1 | refine below_set ?_ GE101.out | refine below_set ?_ GE102.out) | exact HB.out)⟩
      · rw [if_neg c5] at H
        have c5b0 : (a0_2 == a1_2) = false := beq_eq_false_iff_ne.mpr c5
        have c5b1 : (a0_2 != a1_2) = true := bne_iff_ne.mpr c5
        obtain rfl := Option.some.inj H
        go_enter Try.func88, Try.ntmps88
        go_wp2_with (first | ((with_reducible refine gate_dst (N := 2) rfl ?_); refine box_event ?hg (N := 2) ?hd (cs := #[.int .i64 a0_0, .int .i64 a0_1, .int .i64 a0_2, .int .i64 a0_3]) (t := 67) ?hr ?_; (case hd => rfl); (case hg => rfl); (case hr => first | (go_simp; done) | (go_simp; rfl)); intro gb101 hg w17 hbox hb; have n0_ := Aside0.mk (below_step (by repeat (first | (with_reducible first | exact HB.out | apply below_alloc | apply pw_below_drewN | apply below_drew1) | exact HB.out)) hb); have n1_ := Aside0.mk (hbox); have n2_ := Aside0.mk ((by rw [hg]; exact (below_size (by repeat (first | (with_reducible first | exact HB.out | apply below_alloc | apply pw_below_drewN | apply below_drew1) | exact HB.out))) : w.heap.size ≤ gb101)); have n3_ := Aside0.mk ((by rw [hg]; exact (below_size (by repeat (first | (with_reducible first | exact HB.out | apply below_alloc | apply pw_below_drewN | apply below_drew1) | exact HB.out))) : w.heap.size ≤ gb101)); clear HB; have HB := n0_; have BK101 := n1_; have GW101 := n2_; have GE101 := n3_; clear n0_ n1_ n2_ n3_; clear hb hbox hg) | ((with_reducible refine gate_dst (N := 3) rfl ?_); refine box_event ?hg (N := 3) ?hd (cs := #[.int .i64 a1_0, .int .i64 a1_1, .int .i64 a1_2, .int .i64 a1_3]) (t := 67) ?hr ?_; (case hd => rfl); (case hg => rfl); (case hr => first | (go_simp; done) | (go_simp; rfl)); intro gb102 hg w18 hbox hb; have n0_ := Aside0.mk (blk_below (g := gb101) (o := .cells #[.int .i64 a0_0, .int .i64 a0_1, .int .i64 a0_2, .int .i64 a0_3] 67 (0, 0)) (by (with_reducible repeat (first | refine blk_drewN ?_ _ | refine blk_drew ?_ | refine blk_alloc ?_ _)); exact BK101.out) hb); have n1_ := Aside0.mk (below_step (by repeat (first | (with_reducible first | exact HB.out | apply below_alloc | apply pw_below_drewN | apply below_drew1 | refine below_set ?_ GE101.out) | exact HB.out)) hb); have n2_ := Aside0.mk (hbox); have n3_ := Aside0.mk ((by rw [hg]; exact (below_size (by repeat (first | (with_reducible first | exact HB.out | apply below_alloc | apply pw_below_drewN | apply below_drew1 | refine below_set ?_ GE101.out) | exact HB.out))) : w.heap.size ≤ gb102)); have n4_ := Aside0.mk ((by rw [hg]; exact (below_size (by repeat (first | (with_reducible first | exact HB.out | apply below_alloc | apply pw_below_drewN | apply below_drew1 | refine below_set ?_ GE101.out) | exact HB.out))) : w.heap.size ≤ gb102)); have n5_ := Aside0.mk ((by rw [hg]; exact Nat.ne_of_lt (blk_lt (g := gb101) (o := .cells #[.int .i64 a0_0, .int .i64 a0_1, .int .i64 a0_2, .int .i64 a0_3] 67 (0, 0)) (by (with_reducible repeat (first | refine blk_drewN ?_ _ | refine blk_drew ?_ | refine blk_alloc ?_ _)); exact BK101.out)) : gb101 ≠ gb102)); have n6_ := Aside0.mk ((by rw [hg]; exact Nat.ne_of_gt (blk_lt (g := gb101) (o := .cells #[.int .i64 a0_0, .int .i64 a0_1, .int .i64 a0_2, .int .i64 a0_3] 67 (0, 0)) (by (with_reducible repeat (first | refine blk_drewN ?_ _ | refine blk_drew ?_ | refine blk_alloc ?_ _)); exact BK101.out)) : gb102 ≠ gb101)); clear BK101; clear HB; have BK101 := n0_; have HB := n1_; have BK102 := n2_; have GW102 := n3_; have GE102 := n4_; have NB101_102 := n5_; have NB102_101 := n6_; clear n0_ n1_ n2_ n3_ n4_ n5_ n6_; clear hb hbox hg; have hnb19 := NB101_102.out; have hnc19 := NB102_101.out; have hcz20_0 : w18.cell? ⟨gb101, 0, none⟩ = some (.int .i64 a0_0) := (blk_cell BK101.out 0).trans rfl; have hcz20_1 : w18.cell? ⟨gb101, 1, none⟩ = some (.int .i64 a0_1) := (blk_cell BK101.out 1).trans rfl; have hcz20_2 : w18.cell? ⟨gb101, 2, none⟩ = some (.int .i64 a0_2) := (blk_cell BK101.out 2).trans rfl; have hcz20_3 : w18.cell? ⟨gb101, 3, none⟩ = some (.int .i64 a0_3) := (blk_cell BK101.out 3).trans rfl; have hfz20_0 := blk_frozen BK101.out 0; have hfz20_1 := blk_frozen BK101.out 1; have hfz20_2 := blk_frozen BK101.out 2; have hfz20_3 := blk_frozen BK101.out 3; have hcz21_0 : w18.cell? ⟨gb102, 0, none⟩ = some (.int .i64 a1_0) := (blk_cell BK102.out 0).trans rfl; have hcz21_1 : w18.cell? ⟨gb102, 1, none⟩ = some (.int .i64 a1_1) := (blk_cell BK102.out 1).trans rfl; have hcz21_2 : w18.cell? ⟨gb102, 2, none⟩ = some (.int .i64 a1_2) := (blk_cell BK102.out 2).trans rfl; have hcz21_3 : w18.cell? ⟨gb102, 3, none⟩ = some (.int .i64 a1_3) := (blk_cell BK102.out 3).trans rfl; have hfz21_0 := blk_frozen BK102.out 0; have hfz21_1 := blk_frozen BK102.out 1; have hfz21_2 := blk_frozen BK102.out 2; have hfz21_3 := blk_frozen BK102.out 3))
        go_ret
        exact ⟨by first | rfl | (simp [errW_none, errW_some] <;> rfl) | (simp [*, errW_none, errW_some] <;> rfl), by repeat (first | (with_reducible first | exact HB.out | apply below_alloc | apply pw_below_drewN | apply below_drew1 | refine below_set ?_ GE101.out | refine below_set ?_ GE102.out) | exact HB.out)⟩
    · rw [if_neg c4] at H
      have c4b0 : (a0_1 == a1_1) = false := beq_eq_false_iff_ne.mpr c4
      have c4b1 : (a0_1 != a1_1) = true := bne_iff_ne.mpr c4
      obtain rfl := Option.some.inj H
      go_enter Try.func88, Try.ntmps88
      go_wp2_with (first | ((with_reducible refine gate_dst (N := 2) rfl ?_); refine box_event ?hg (N := 2) ?hd (cs := #[.int .i64 a0_0, .int .i64 a0_1, .int .i64 a0_2, .int .i64 a0_3]) (t := 67) ?hr ?_; (case hd => rfl); (case hg => rfl); (case hr => first | (go_simp; done) | (go_simp; rfl)); intro gb101 hg w22 hbox hb; have n0_ := Aside0.mk (below_step (by repeat (first | (with_reducible first | exact HB.out | apply below_alloc | apply pw_below_drewN | apply below_drew1) | exact HB.out)) hb); have n1_ := Aside0.mk (hbox); have n2_ := Aside0.mk ((by rw [hg]; exact (below_size (by repeat (first | (with_reducible first | exact HB.out | apply below_alloc | apply pw_below_drewN | apply below_drew1) | exact HB.out))) : w.heap.size ≤ gb101)); have n3_ := Aside0.mk ((by rw [hg]; exact (below_size (by repeat (first | (with_reducible first | exact HB.out | apply below_alloc | apply pw_below_drewN | apply below_drew1) | exact HB.out))) : w.heap.size ≤ gb101)); clear HB; have HB := n0_; have BK101 := n1_; have GW101 := n2_; have GE101 := n3_; clear n0_ n1_ n2_ n3_; clear hb hbox hg) | ((with_reducible refine gate_dst (N := 3) rfl ?_); refine box_event ?hg (N := 3) ?hd (cs := #[.int .i64 a1_0, .int .i64 a1_1, .int .i64 a1_2, .int .i64 a1_3]) (t := 67) ?hr ?_; (case hd => rfl); (case hg => rfl); (case hr => first | (go_simp; done) | (go_simp; rfl)); intro gb102 hg w23 hbox hb; have n0_ := Aside0.mk (blk_below (g := gb101) (o := .cells #[.int .i64 a0_0, .int .i64 a0_1, .int .i64 a0_2, .int .i64 a0_3] 67 (0, 0)) (by (with_reducible repeat (first | refine blk_drewN ?_ _ | refine blk_drew ?_ | refine blk_alloc ?_ _)); exact BK101.out) hb); have n1_ := Aside0.mk (below_step (by repeat (first | (with_reducible first | exact HB.out | apply below_alloc | apply pw_below_drewN | apply below_drew1 | refine below_set ?_ GE101.out) | exact HB.out)) hb); have n2_ := Aside0.mk (hbox); have n3_ := Aside0.mk ((by rw [hg]; exact (below_size (by repeat (first | (with_reducible first | exact HB.out | apply below_alloc | apply pw_below_drewN | apply below_drew1 | refine below_set ?_ GE101.out) | exact HB.out))) : w.heap.size ≤ gb102)); have n4_ := Aside0.mk ((by rw [hg]; exact (below_size (by repeat (first | (with_reducible first | exact HB.out | apply below_alloc | apply pw_below_drewN | apply below_drew1 | refine below_set ?_ GE101.out) | exact HB.out))) : w.heap.size ≤ gb102)); have n5_ := Aside0.mk ((by rw [hg]; exact Nat.ne_of_lt (blk_lt (g := gb101) (o := .cells #[.int .i64 a0_0, .int .i64 a0_1, .int .i64 a0_2, .int .i64 a0_3] 67 (0, 0)) (by (with_reducible repeat (first | refine blk_drewN ?_ _ | refine blk_drew ?_ | refine blk_alloc ?_ _)); exact BK101.out)) : gb101 ≠ gb102)); have n6_ := Aside0.mk ((by rw [hg]; exact Nat.ne_of_gt (blk_lt (g := gb101) (o := .cells #[.int .i64 a0_0, .int .i64 a0_1, .int .i64 a0_2, .int .i64 a0_3] 67 (0, 0)) (by (with_reducible repeat (first | refine blk_drewN ?_ _ | refine blk_drew ?_ | refine blk_alloc ?_ _)); exact BK101.out)) : gb102 ≠ gb101)); clear BK101; clear HB; have BK101 := n0_; have HB := n1_; have BK102 := n2_; have GW102 := n3_; have GE102 := n4_; have NB101_102 := n5_; have NB102_101 := n6_; clear n0_ n1_ n2_ n3_ n4_ n5_ n6_; clear hb hbox hg; have hnb24 := NB101_102.out; have hnc24 := NB102_101.out; have hcz25_0 : w23.cell? ⟨gb101, 0, none⟩ = some (.int .i64 a0_0) := (blk_cell BK101.out 0).trans rfl; have hcz25_1 : w23.cell? ⟨gb101, 1, none⟩ = some (.int .i64 a0_1) := (blk_cell BK101.out 1).trans rfl; have hcz25_2 : w23.cell? ⟨gb101, 2, none⟩ = some (.int .i64 a0_2) := (blk_cell BK101.out 2).trans rfl; have hcz25_3 : w23.cell? ⟨gb101, 3, none⟩ = some (.int .i64 a0_3) := (blk_cell BK101.out 3).trans rfl; have hfz25_0 := blk_frozen BK101.out 0; have hfz25_1 := blk_frozen BK101.out 1; have hfz25_2 := blk_frozen BK101.out 2; have hfz25_3 := blk_frozen BK101.out 3; have hcz26_0 : w23.cell? ⟨gb102, 0, none⟩ = some (.int .i64 a1_0) := (blk_cell BK102.out 0).trans rfl; have hcz26_1 : w23.cell? ⟨gb102, 1, none⟩ = some (.int .i64 a1_1) := (blk_cell BK102.out 1).trans rfl; have hcz26_2 : w23.cell? ⟨gb102, 2, none⟩ = some (.int .i64 a1_2) := (blk_cell BK102.out 2).trans rfl; have hcz26_3 : w23.cell? ⟨gb102, 3, none⟩ = some (.int .i64 a1_3) := (blk_cell BK102.out 3).trans rfl; have hfz26_0 := blk_frozen BK102.out 0; have hfz26_1 := blk_frozen BK102.out 1; have hfz26_2 := blk_frozen BK102.out 2; have hfz26_3 := blk_frozen BK102.out 3))
      go_ret
      exact ⟨by first | rfl | (simp [errW_none, errW_some] <;> rfl) | (simp [*, errW_none, errW_some] <;> rfl), by repeat (first | (with_reducible first | exact HB.out | apply below_alloc | apply pw_below_drewN | apply below_drew1 | refine below_set ?_ GE101.out | refine below_set ?_ GE102.out) | exact HB.out)⟩
  · rw [if_neg c3] at H
    have c3b0 : (a0_0 == a1_0) = false := beq_eq_false_iff_ne.mpr c3
    have c3b1 : (a0_0 != a1_0) = true := bne_iff_ne.mpr c3
    obtain rfl := Option.some.inj H
    go_enter Try.func88, Try.ntmps88
    go_wp2_with (first | ((with_reducible refine gate_dst (N := 2) rfl ?_); refine box_event ?hg (N := 2) ?hd (cs := #[.int .i64 a0_0, .int .i64 a0_1, .int .i64 a0_2, .int .i64 a0_3]) (t := 67) ?hr ?_; (case hd => rfl); (case hg => rfl); (case hr => first | (go_simp; done) | (go_simp; rfl)); intro gb101 hg w27 hbox hb; have n0_ := Aside0.mk (below_step (by repeat (first | (with_reducible first | exact HB.out | apply below_alloc | apply pw_below_drewN | apply below_drew1) | exact HB.out)) hb); have n1_ := Aside0.mk (hbox); have n2_ := Aside0.mk ((by rw [hg]; exact (below_size (by repeat (first | (with_reducible first | exact HB.out | apply below_alloc | apply pw_below_drewN | apply below_drew1) | exact HB.out))) : w.heap.size ≤ gb101)); have n3_ := Aside0.mk ((by rw [hg]; exact (below_size (by repeat (first | (with_reducible first | exact HB.out | apply below_alloc | apply pw_below_drewN | apply below_drew1) | exact HB.out))) : w.heap.size ≤ gb101)); clear HB; have HB := n0_; have BK101 := n1_; have GW101 := n2_; have GE101 := n3_; clear n0_ n1_ n2_ n3_; clear hb hbox hg) | ((with_reducible refine gate_dst (N := 3) rfl ?_); refine box_event ?hg (N := 3) ?hd (cs := #[.int .i64 a1_0, .int .i64 a1_1, .int .i64 a1_2, .int .i64 a1_3]) (t := 67) ?hr ?_; (case hd => rfl); (case hg => rfl); (case hr => first | (go_simp; done) | (go_simp; rfl)); intro gb102 hg w28 hbox hb; have n0_ := Aside0.mk (blk_below (g := gb101) (o := .cells #[.int .i64 a0_0, .int .i64 a0_1, .int .i64 a0_2, .int .i64 a0_3] 67 (0, 0)) (by (with_reducible repeat (first | refine blk_drewN ?_ _ | refine blk_drew ?_ | refine blk_alloc ?_ _)); exact BK101.out) hb); have n1_ := Aside0.mk (below_step (by repeat (first | (with_reducible first | exact HB.out | apply below_alloc | apply pw_below_drewN | apply below_drew1 | refine below_set ?_ GE101.out) | exact HB.out)) hb); have n2_ := Aside0.mk (hbox); have n3_ := Aside0.mk ((by rw [hg]; exact (below_size (by repeat (first | (with_reducible first | exact HB.out | apply below_alloc | apply pw_below_drewN | apply below_drew1 | refine below_set ?_ GE101.out) | exact HB.out))) : w.heap.size ≤ gb102)); have n4_ := Aside0.mk ((by rw [hg]; exact (below_size (by repeat (first | (with_reducible first | exact HB.out | apply below_alloc | apply pw_below_drewN | apply below_drew1 | refine below_set ?_ GE101.out) | exact HB.out))) : w.heap.size ≤ gb102)); have n5_ := Aside0.mk ((by rw [hg]; exact Nat.ne_of_lt (blk_lt (g := gb101) (o := .cells #[.int .i64 a0_0, .int .i64 a0_1, .int .i64 a0_2, .int .i64 a0_3] 67 (0, 0)) (by (with_reducible repeat (first | refine blk_drewN ?_ _ | refine blk_drew ?_ | refine blk_alloc ?_ _)); exact BK101.out)) : gb101 ≠ gb102)); have n6_ := Aside0.mk ((by rw [hg]; exact Nat.ne_of_gt (blk_lt (g := gb101) (o := .cells #[.int .i64 a0_0, .int .i64 a0_1, .int .i64 a0_2, .int .i64 a0_3] 67 (0, 0)) (by (with_reducible repeat (first | refine blk_drewN ?_ _ | refine blk_drew ?_ | refine blk_alloc ?_ _)); exact BK101.out)) : gb102 ≠ gb101)); clear BK101; clear HB; have BK101 := n0_; have HB := n1_; have BK102 := n2_; have GW102 := n3_; have GE102 := n4_; have NB101_102 := n5_; have NB102_101 := n6_; clear n0_ n1_ n2_ n3_ n4_ n5_ n6_; clear hb hbox hg; have hnb29 := NB101_102.out; have hnc29 := NB102_101.out; have hcz30_0 : w28.cell? ⟨gb101, 0, none⟩ = some (.int .i64 a0_0) := (blk_cell BK101.out 0).trans rfl; have hcz30_1 : w28.cell? ⟨gb101, 1, none⟩ = some (.int .i64 a0_1) := (blk_cell BK101.out 1).trans rfl; have hcz30_2 : w28.cell? ⟨gb101, 2, none⟩ = some (.int .i64 a0_2) := (blk_cell BK101.out 2).trans rfl; have hcz30_3 : w28.cell? ⟨gb101, 3, none⟩ = some (.int .i64 a0_3) := (blk_cell BK101.out 3).trans rfl; have hfz30_0 := blk_frozen BK101.out 0; have hfz30_1 := blk_frozen BK101.out 1; have hfz30_2 := blk_frozen BK101.out 2; have hfz30_3 := blk_frozen BK101.out 3; have hcz31_0 : w28.cell? ⟨gb102, 0, none⟩ = some (.int .i64 a1_0) := (blk_cell BK102.out 0).trans rfl; have hcz31_1 : w28.cell? ⟨gb102, 1, none⟩ = some (.int .i64 a1_1) := (blk_cell BK102.out 1).trans rfl; have hcz31_2 : w28.cell? ⟨gb102, 2, none⟩ = some (.int .i64 a1_2) := (blk_cell BK102.out 2).trans rfl; have hcz31_3 : w28.cell? ⟨gb102, 3, none⟩ = some (.int .i64 a1_3) := (blk_cell BK102.out 3).trans rfl; have hfz31_0 := blk_frozen BK102.out 0; have hfz31_1 := blk_frozen BK102.out 1; have hfz31_2 := blk_frozen BK102.out 2; have hfz31_3 := blk_frozen BK102.out 3))
    go_ret
    exact ⟨by first | rfl | (simp [errW_none, errW_some] <;> rfl) | (simp [*, errW_none, errW_some] <;> rfl), by repeat (first | (with_reducible first | exact HB.out | apply below_alloc | apply pw_below_drewN | apply below_drew1 | refine below_set ?_ GE101.out | refine below_set ?_ GE102.out) | exact HB.out)⟩

end Go.Proofs.Ytonifhkplniblaa.Print
