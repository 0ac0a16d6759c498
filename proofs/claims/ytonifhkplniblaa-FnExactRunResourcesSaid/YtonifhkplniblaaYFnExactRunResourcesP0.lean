/- Functions of the translation as plain Lean functions, and their contracts. No condition. -/
import Derived.Test.YtonifhkplniblaaYFnExactRunResourcesPB
import Derived.Deep.DeepMust
import Derived.Lib.Hide
import Derived.Test.YtonifhkplniblaaYFnExactRunResourcesWalk
import Derived.BigQuiet
import Derived.Deep.QuietTactic
import Derived.Lib.LazyBuf
import Derived.Maps.OwnSet
import Derived.Laws.MathBits
import Derived.Test.YtonifhkplniblaaYFnExactRunResourcesCopy
namespace Go.Proofs.Ytonifhkplniblaa.Print
open Go.RowKit Go.Proofs.YtonifhkplniblaaW.PrintWords Go.Proofs.YtonifhkplniblaaW.PrintLast Go.Proofs.YtonifhkplniblaaW.PrintMore
attribute [local go_sem] max2_int min2_int max_two min_two max_three min_three max_four min_four   -- for this text's walks alone
set_option linter.unusedVariables false
set_option linter.unusedSimpArgs false

/-! ### impl_in: function 105 -/
def impl_in.f (a0 : Int) (a1 : Int) (a2 : Int) : Option (Bool) := if a0 ≥ a1 then (some (decide (a0 ≤ a2))) else (some false)
set_option maxHeartbeats 8000000 in
set_option maxRecDepth 100000 in
theorem impl_in.calls (a0 : Int) (a1 : Int) (a2 : Int) (r : Bool) (w : World) (h : impl_in.f a0 a1 a2 = some r) :
    Calls Try.prog 105 #[.int .i64 a0, .int .i64 a1, .int .i64 a2] w fun e w' => e = .returned (.bool r) ∧ Drawn0 w w' := by
  have H : (if a0 ≥ a1 then (some (decide (a0 ≤ a2))) else (some false)) = some r := h
  clear h
  by_cases c4 : a0 ≥ a1
  · rw [if_pos c4] at H
    have c4b0 : decide (a1 ≤ a0) = true := decide_eq_true c4
    clear c4
    obtain rfl := Option.some.inj H
    go_enter Try.func105, Try.ntmps105
    go_wp2
    go_ret
    exact ⟨by first | rfl | (simp; done) | (simp [*]; done) | (simp only [i64_w, i32_w]; done) | (simp [*, i64_w, i32_w]; done), by repeat (first | exact Drawn0.refl _ | apply Drawn0.step)⟩
  · rw [if_neg c4] at H
    have c4b0 : decide (a1 ≤ a0) = false := decide_eq_false c4
    clear c4
    obtain rfl := Option.some.inj H
    go_enter Try.func105, Try.ntmps105
    go_wp2
    go_ret
    exact ⟨by first | rfl | (simp; done) | (simp [*]; done) | (simp only [i64_w, i32_w]; done) | (simp [*, i64_w, i32_w]; done), by repeat (first | exact Drawn0.refl _ | apply Drawn0.step)⟩



/-! ### impl_release: function 101 -/
def impl_release.f (a0_0 : Int) (a0_1 : Int) (a0_2 : Int) (a0_3 : Int) : Option (Int) := some a0_1
set_option maxHeartbeats 8000000 in
set_option maxRecDepth 100000 in
theorem impl_release.calls (a0_0 : Int) (a0_1 : Int) (a0_2 : Int) (a0_3 : Int) (r : Int) (w : World) (h : impl_release.f a0_0 a0_1 a0_2 a0_3 = some r) :
    Calls Try.prog 101 #[.agg #[.int .i64 a0_0, .int .i64 a0_1, .int .i64 a0_2, .int .i64 a0_3]] w fun e w' => e = .returned (.int .i64 r) ∧ Below w.heap.size w w' := by
  have hu67 := Try.underlying67
  have HB := Aside0.mk (Below.refl w.heap.size w)
  have H : (some a0_1) = some r := h
  clear h
  obtain rfl := Option.some.inj H
  go_enter Try.func101, Try.ntmps101
  go_wp2_with (first | ((with_reducible refine gate_dst (N := 1) rfl ?_); refine box_event ?hg (N := 1) ?hd (cs := #[.int .i64 a0_0, .int .i64 a0_1, .int .i64 a0_2, .int .i64 a0_3]) (t := 67) ?hr ?_; (case hd => rfl); (case hg => rfl); (case hr => first | (go_simp; done) | (go_simp; rfl)); intro gb101 hg w2 hbox hb; have n0_ := Aside0.mk (below_step (by repeat (first | (with_reducible first | exact HB.out | apply below_alloc | apply pw_below_drewN | apply below_drew1) | exact HB.out)) hb); have n1_ := Aside0.mk (hbox); have n2_ := Aside0.mk ((by rw [hg]; exact (below_size (by repeat (first | (with_reducible first | exact HB.out | apply below_alloc | apply pw_below_drewN | apply below_drew1) | exact HB.out))) : w.heap.size ≤ gb101)); have n3_ := Aside0.mk ((by rw [hg]; exact (below_size (by repeat (first | (with_reducible first | exact HB.out | apply below_alloc | apply pw_below_drewN | apply below_drew1) | exact HB.out))) : w.heap.size ≤ gb101)); clear HB; have HB := n0_; have BK101 := n1_; have GW101 := n2_; have GE101 := n3_; clear n0_ n1_ n2_ n3_; clear hb hbox hg; have hcz3_0 : w2.cell? ⟨gb101, 0, none⟩ = some (.int .i64 a0_0) := (blk_cell BK101.out 0).trans rfl; have hcz3_1 : w2.cell? ⟨gb101, 1, none⟩ = some (.int .i64 a0_1) := (blk_cell BK101.out 1).trans rfl; have hcz3_2 : w2.cell? ⟨gb101, 2, none⟩ = some (.int .i64 a0_2) := (blk_cell BK101.out 2).trans rfl; have hcz3_3 : w2.cell? ⟨gb101, 3, none⟩ = some (.int .i64 a0_3) := (blk_cell BK101.out 3).trans rfl; have hfz3_0 := blk_frozen BK101.out 0; have hfz3_1 := blk_frozen BK101.out 1; have hfz3_2 := blk_frozen BK101.out 2; have hfz3_3 := blk_frozen BK101.out 3))
  go_ret
  exact ⟨by first | rfl | (simp [errW_none, errW_some] <;> rfl) | (simp [*, errW_none, errW_some] <;> rfl), by repeat (first | (with_reducible first | exact HB.out | apply below_alloc | apply pw_below_drewN | apply below_drew1 | refine below_set ?_ GE101.out) | exact HB.out)⟩



/-! ### impl_TaskValid: function 153 -/
def impl_TaskValid.f (a0_0 : Int) (a0_1 : Int) (a0_2 : Int) : Option (Bool) := (impl_in.f a0_0 1 8).bind fun t102 => (if t102 = true then ((impl_in.f a0_1 a0_0 a0_2).bind fun t103 => (if t103 = true then (some (decide (a0_2 ≤ 12))) else (some false))) else (some false))
set_option maxHeartbeats 8000000 in
set_option maxRecDepth 100000 in
theorem impl_TaskValid.calls (a0_0 : Int) (a0_1 : Int) (a0_2 : Int) (r : Bool) (w : World) (h : impl_TaskValid.f a0_0 a0_1 a0_2 = some r) :
    Calls Try.prog 153 #[.agg #[.int .i64 a0_0, .int .i64 a0_1, .int .i64 a0_2]] w fun e w' => e = .returned (.bool r) ∧ Below w.heap.size w w' := by
  have hu62 := Try.underlying62
  have HB := Aside0.mk (Below.refl w.heap.size w)
  have H : ((impl_in.f a0_0 1 8).bind fun t102 => (if t102 = true then ((impl_in.f a0_1 a0_0 a0_2).bind fun t103 => (if t103 = true then (some (decide (a0_2 ≤ 12))) else (some false))) else (some false))) = some r := h
  clear h
  replace H := Option.bind_eq_some_iff.mp H
  obtain ⟨t102, A20, H⟩ := H
  replace H : (if t102 = true then ((impl_in.f a0_1 a0_0 a0_2).bind fun t103 => (if t103 = true then (some (decide (a0_2 ≤ 12))) else (some false))) else (some false)) = some r := H
  have A2 := Aside0.mk A20
  clear A20
  by_cases c3 : t102 = true
  · subst c3
    have H1 : ((impl_in.f a0_1 a0_0 a0_2).bind fun t103 => (if t103 = true then (some (decide (a0_2 ≤ 12))) else (some false))) = some r := by rw [if_pos rfl] at H; exact H
    clear H
    have H := H1
    clear H1
    replace H := Option.bind_eq_some_iff.mp H
    obtain ⟨t103, A40, H⟩ := H
    replace H : (if t103 = true then (some (decide (a0_2 ≤ 12))) else (some false)) = some r := H
    have A4 := Aside0.mk A40
    clear A40
    by_cases c5 : t103 = true
    · subst c5
      have H1 : (some (decide (a0_2 ≤ 12))) = some r := by rw [if_pos rfl] at H; exact H
      clear H
      have H := H1
      clear H1
      obtain rfl := Option.some.inj H
      go_enter Try.func153, Try.ntmps153
      go_wp2_with (first | ((with_reducible refine gate_dst (N := 1) rfl ?_); refine box_event ?hg (N := 1) ?hd (cs := #[.int .i64 a0_0, .int .i64 a0_1, .int .i64 a0_2]) (t := 62) ?hr ?_; (case hd => rfl); (case hg => rfl); (case hr => first | (go_simp; done) | (go_simp; rfl)); intro gb101 hg w6 hbox hb; have n0_ := Aside0.mk (below_step (by repeat (first | (with_reducible first | exact HB.out | apply below_alloc | apply pw_below_drewN | apply below_drew1) | exact HB.out)) hb); have n1_ := Aside0.mk (hbox); have n2_ := Aside0.mk ((by rw [hg]; exact (below_size (by repeat (first | (with_reducible first | exact HB.out | apply below_alloc | apply pw_below_drewN | apply below_drew1) | exact HB.out))) : w.heap.size ≤ gb101)); have n3_ := Aside0.mk ((by rw [hg]; exact (below_size (by repeat (first | (with_reducible first | exact HB.out | apply below_alloc | apply pw_below_drewN | apply below_drew1) | exact HB.out))) : w.heap.size ≤ gb101)); clear HB; have HB := n0_; have BK101 := n1_; have GW101 := n2_; have GE101 := n3_; clear n0_ n1_ n2_ n3_; clear hb hbox hg; have hcz7_0 : w6.cell? ⟨gb101, 0, none⟩ = some (.int .i64 a0_0) := (blk_cell BK101.out 0).trans rfl; have hcz7_1 : w6.cell? ⟨gb101, 1, none⟩ = some (.int .i64 a0_1) := (blk_cell BK101.out 1).trans rfl; have hcz7_2 : w6.cell? ⟨gb101, 2, none⟩ = some (.int .i64 a0_2) := (blk_cell BK101.out 2).trans rfl; have hfz7_0 := blk_frozen BK101.out 0; have hfz7_1 := blk_frozen BK101.out 1; have hfz7_2 := blk_frozen BK101.out 2) | ((with_reducible refine gate_callee (f := 105) rfl ?_); refine goesL_ (some 5) rfl rfl Try.func105 (by kernel_rfl) rfl #[.int .i64 a0_0, .int .i64 1, .int .i64 8] rfl (by (try simp only [List.map_toArray, List.map_cons, List.map_nil]); first | done | rfl | (simp only [List.length_drop, List.length_take]; rfl)) ?_; (with_reducible refine (impl_in.calls a0_0 1 8 true _ A2.out).mono ?_); rintro e w' ⟨rfl, ⟨nd, rfl⟩⟩; refine ⟨_, rfl, ?_⟩) | (go_at_call 105; (with_reducible refine (impl_in.calls a0_1 a0_0 a0_2 true _ A4.out).mono ?_); rintro e w' ⟨rfl, ⟨nd, rfl⟩⟩))
      go_ret
      exact ⟨by first | rfl | (simp [errW_none, errW_some] <;> rfl) | (simp [*, errW_none, errW_some] <;> rfl), by repeat (first | (with_reducible first | exact HB.out | apply below_alloc | apply pw_below_drewN | apply below_drew1 | refine below_set ?_ GE101.out) | exact HB.out)⟩
    · replace c5 := Bool.eq_false_iff.mpr c5
      subst c5
      have H1 : (some false) = some r := by rw [if_neg (show ¬ (false = true) by decide)] at H; exact H
      clear H
      have H := H1
      clear H1
      obtain rfl := Option.some.inj H
      go_enter Try.func153, Try.ntmps153
      go_wp2_with (first | ((with_reducible refine gate_dst (N := 1) rfl ?_); refine box_event ?hg (N := 1) ?hd (cs := #[.int .i64 a0_0, .int .i64 a0_1, .int .i64 a0_2]) (t := 62) ?hr ?_; (case hd => rfl); (case hg => rfl); (case hr => first | (go_simp; done) | (go_simp; rfl)); intro gb101 hg w8 hbox hb; have n0_ := Aside0.mk (below_step (by repeat (first | (with_reducible first | exact HB.out | apply below_alloc | apply pw_below_drewN | apply below_drew1) | exact HB.out)) hb); have n1_ := Aside0.mk (hbox); have n2_ := Aside0.mk ((by rw [hg]; exact (below_size (by repeat (first | (with_reducible first | exact HB.out | apply below_alloc | apply pw_below_drewN | apply below_drew1) | exact HB.out))) : w.heap.size ≤ gb101)); have n3_ := Aside0.mk ((by rw [hg]; exact (below_size (by repeat (first | (with_reducible first | exact HB.out | apply below_alloc | apply pw_below_drewN | apply below_drew1) | exact HB.out))) : w.heap.size ≤ gb101)); clear HB; have HB := n0_; have BK101 := n1_; have GW101 := n2_; have GE101 := n3_; clear n0_ n1_ n2_ n3_; clear hb hbox hg; have hcz9_0 : w8.cell? ⟨gb101, 0, none⟩ = some (.int .i64 a0_0) := (blk_cell BK101.out 0).trans rfl; have hcz9_1 : w8.cell? ⟨gb101, 1, none⟩ = some (.int .i64 a0_1) := (blk_cell BK101.out 1).trans rfl; have hcz9_2 : w8.cell? ⟨gb101, 2, none⟩ = some (.int .i64 a0_2) := (blk_cell BK101.out 2).trans rfl; have hfz9_0 := blk_frozen BK101.out 0; have hfz9_1 := blk_frozen BK101.out 1; have hfz9_2 := blk_frozen BK101.out 2) | ((with_reducible refine gate_callee (f := 105) rfl ?_); refine goesL_ (some 5) rfl rfl Try.func105 (by kernel_rfl) rfl #[.int .i64 a0_0, .int .i64 1, .int .i64 8] rfl (by (try simp only [List.map_toArray, List.map_cons, List.map_nil]); first | done | rfl | (simp only [List.length_drop, List.length_take]; rfl)) ?_; (with_reducible refine (impl_in.calls a0_0 1 8 true _ A2.out).mono ?_); rintro e w' ⟨rfl, ⟨nd, rfl⟩⟩; refine ⟨_, rfl, ?_⟩) | (go_at_call 105; (with_reducible refine (impl_in.calls a0_1 a0_0 a0_2 false _ A4.out).mono ?_); rintro e w' ⟨rfl, ⟨nd, rfl⟩⟩))
      go_ret
      exact ⟨by first | rfl | (simp [errW_none, errW_some] <;> rfl) | (simp [*, errW_none, errW_some] <;> rfl), by repeat (first | (with_reducible first | exact HB.out | apply below_alloc | apply pw_below_drewN | apply below_drew1 | refine below_set ?_ GE101.out) | exact HB.out)⟩
  · replace c3 := Bool.eq_false_iff.mpr c3
    subst c3
    have H1 : (some false) = some r := by rw [if_neg (show ¬ (false = true) by decide)] at H; exact H
    clear H
    have H := H1
    clear H1
    obtain rfl := Option.some.inj H
    go_enter Try.func153, Try.ntmps153
    go_wp2_with (first | ((with_reducible refine gate_dst (N := 1) rfl ?_); refine box_event ?hg (N := 1) ?hd (cs := #[.int .i64 a0_0, .int .i64 a0_1, .int .i64 a0_2]) (t := 62) ?hr ?_; (case hd => rfl); (case hg => rfl); (case hr => first | (go_simp; done) | (go_simp; rfl)); intro gb101 hg w10 hbox hb; have n0_ := Aside0.mk (below_step (by repeat (first | (with_reducible first | exact HB.out | apply below_alloc | apply pw_below_drewN | apply below_drew1) | exact HB.out)) hb); have n1_ := Aside0.mk (hbox); have n2_ := Aside0.mk ((by rw [hg]; exact (below_size (by repeat (first | (with_reducible first | exact HB.out | apply below_alloc | apply pw_below_drewN | apply below_drew1) | exact HB.out))) : w.heap.size ≤ gb101)); have n3_ := Aside0.mk ((by rw [hg]; exact (below_size (by repeat (first | (with_reducible first | exact HB.out | apply below_alloc | apply pw_below_drewN | apply below_drew1) | exact HB.out))) : w.heap.size ≤ gb101)); clear HB; have HB := n0_; have BK101 := n1_; have GW101 := n2_; have GE101 := n3_; clear n0_ n1_ n2_ n3_; clear hb hbox hg; have hcz11_0 : w10.cell? ⟨gb101, 0, none⟩ = some (.int .i64 a0_0) := (blk_cell BK101.out 0).trans rfl; have hcz11_1 : w10.cell? ⟨gb101, 1, none⟩ = some (.int .i64 a0_1) := (blk_cell BK101.out 1).trans rfl; have hcz11_2 : w10.cell? ⟨gb101, 2, none⟩ = some (.int .i64 a0_2) := (blk_cell BK101.out 2).trans rfl; have hfz11_0 := blk_frozen BK101.out 0; have hfz11_1 := blk_frozen BK101.out 1; have hfz11_2 := blk_frozen BK101.out 2) | ((with_reducible refine gate_callee (f := 105) rfl ?_); refine goesL_ (some 5) rfl rfl Try.func105 (by kernel_rfl) rfl #[.int .i64 a0_0, .int .i64 1, .int .i64 8] rfl (by (try simp only [List.map_toArray, List.map_cons, List.map_nil]); first | done | rfl | (simp only [List.length_drop, List.length_take]; rfl)) ?_; (with_reducible refine (impl_in.calls a0_0 1 8 false _ A2.out).mono ?_); rintro e w' ⟨rfl, ⟨nd, rfl⟩⟩; refine ⟨_, rfl, ?_⟩))
    go_ret
    exact ⟨by first | rfl | (simp [errW_none, errW_some] <;> rfl) | (simp [*, errW_none, errW_some] <;> rfl), by repeat (first | (with_reducible first | exact HB.out | apply below_alloc | apply pw_below_drewN | apply below_drew1 | refine below_set ?_ GE101.out) | exact HB.out)⟩



/-! ### impl_SetValid_1: function 152 -/
def impl_SetValid_1.f (a0_0 : Int) (a0_1 : Int) (a0_2 : Int) : Option (Bool) := (impl_TaskValid.f a0_0 a0_1 a0_2).bind fun t102 => (some (!t102))
set_option maxHeartbeats 8000000 in
set_option maxRecDepth 100000 in
theorem impl_SetValid_1.calls (a0_0 : Int) (a0_1 : Int) (a0_2 : Int) (r : Bool) (w : World) (h : impl_SetValid_1.f a0_0 a0_1 a0_2 = some r) :
    Calls Try.prog 152 #[.agg #[.int .i64 a0_0, .int .i64 a0_1, .int .i64 a0_2]] w fun e w' => e = .returned (.bool r) ∧ Below w.heap.size w w' := by
  have hu62 := Try.underlying62
  have HB := Aside0.mk (Below.refl w.heap.size w)
  have H : ((impl_TaskValid.f a0_0 a0_1 a0_2).bind fun t102 => (some (!t102))) = some r := h
  clear h
  replace H := Option.bind_eq_some_iff.mp H
  obtain ⟨t102, A20, H⟩ := H
  replace H : (some (!t102)) = some r := H
  have A2 := Aside0.mk A20
  clear A20
  obtain rfl := Option.some.inj H
  go_enter Try.func152, Try.ntmps152
  go_wp2_with (first | ((with_reducible refine gate_dst (N := 1) rfl ?_); refine box_event ?hg (N := 1) ?hd (cs := #[.int .i64 a0_0, .int .i64 a0_1, .int .i64 a0_2]) (t := 62) ?hr ?_; (case hd => rfl); (case hg => rfl); (case hr => first | (go_simp; done) | (go_simp; rfl)); intro gb101 hg w3 hbox hb; have n0_ := Aside0.mk (below_step (by repeat (first | (with_reducible first | exact HB.out | apply below_alloc | apply pw_below_drewN | apply below_drew1) | exact HB.out)) hb); have n1_ := Aside0.mk (hbox); have n2_ := Aside0.mk ((by rw [hg]; exact (below_size (by repeat (first | (with_reducible first | exact HB.out | apply below_alloc | apply pw_below_drewN | apply below_drew1) | exact HB.out))) : w.heap.size ≤ gb101)); have n3_ := Aside0.mk ((by rw [hg]; exact (below_size (by repeat (first | (with_reducible first | exact HB.out | apply below_alloc | apply pw_below_drewN | apply below_drew1) | exact HB.out))) : w.heap.size ≤ gb101)); clear HB; have HB := n0_; have BK101 := n1_; have GW101 := n2_; have GE101 := n3_; clear n0_ n1_ n2_ n3_; clear hb hbox hg; have hcz4_0 : w3.cell? ⟨gb101, 0, none⟩ = some (.int .i64 a0_0) := (blk_cell BK101.out 0).trans rfl; have hcz4_1 : w3.cell? ⟨gb101, 1, none⟩ = some (.int .i64 a0_1) := (blk_cell BK101.out 1).trans rfl; have hcz4_2 : w3.cell? ⟨gb101, 2, none⟩ = some (.int .i64 a0_2) := (blk_cell BK101.out 2).trans rfl; have hfz4_0 := blk_frozen BK101.out 0; have hfz4_1 := blk_frozen BK101.out 1; have hfz4_2 := blk_frozen BK101.out 2) | ((with_reducible refine gate_callee (f := 153) rfl ?_); refine goesL_ (some 4) rfl rfl Try.func153 (by kernel_rfl) rfl #[.agg #[.int .i64 a0_0, .int .i64 a0_1, .int .i64 a0_2]] rfl (by (try simp only [List.map_toArray, List.map_cons, List.map_nil]); first | done | rfl | (simp only [List.length_drop, List.length_take]; rfl)) ?_; (with_reducible refine (impl_TaskValid.calls a0_0 a0_1 a0_2 t102 _ A2.out).mono ?_); rintro e w5 ⟨rfl, hb⟩; refine ⟨_, rfl, ?_⟩; have n0_ := Aside0.mk (blk_below (g := gb101) (o := .cells #[.int .i64 a0_0, .int .i64 a0_1, .int .i64 a0_2] 62 (0, 0)) (by (with_reducible repeat (first | refine blk_drewN ?_ _ | refine blk_drew ?_ | refine blk_alloc ?_ _)); exact BK101.out) hb); have n1_ := Aside0.mk (below_step (by repeat (first | (with_reducible first | exact HB.out | apply below_alloc | apply pw_below_drewN | apply below_drew1 | refine below_set ?_ GE101.out) | exact HB.out)) hb); clear BK101; clear HB; have BK101 := n0_; have HB := n1_; clear n0_ n1_; (try clear hb); (try clear hb2); (try clear hk); (try clear hi)))
  go_ret
  exact ⟨by first | rfl | (simp [errW_none, errW_some] <;> rfl) | (simp [*, errW_none, errW_some] <;> rfl), by repeat (first | (with_reducible first | exact HB.out | apply below_alloc | apply pw_below_drewN | apply below_drew1 | refine below_set ?_ GE101.out) | exact HB.out)⟩



/-! ### impl_SetValid: function 97 (given) -/
open Go.Proofs.Ytonifhkplniblaa.Walk
def okTask (x : S62) : Bool := decide (1 ≤ x.f0 ∧ x.f0 ≤ 8 ∧ x.f0 ≤ x.f1 ∧ x.f1 ≤ x.f2 ∧ x.f2 ≤ 12)
theorem impl_in_f (a b c : Int) : impl_in.f a b c = some (decide (b ≤ a ∧ a ≤ c)) := by
  unfold impl_in.f
  by_cases h : a ≥ b
  · have h' : b ≤ a := h
    simp [h, h']
  · have h' : ¬ b ≤ a := h
    simp [h, h']
theorem impl_TaskValid_f (x : S62) : impl_TaskValid.f x.f0 x.f1 x.f2 = some (okTask x) := by
  unfold impl_TaskValid.f okTask
  simp only [impl_in_f, Option.bind_some, decide_eq_true_eq]
  split
  · split
    · congr 1; rw [Bool.eq_iff_iff]; simp only [decide_eq_true_eq, Bool.false_eq_true, false_iff]; omega
    · congr 1; rw [Bool.eq_iff_iff]; simp only [decide_eq_true_eq, Bool.false_eq_true, false_iff]; omega
  · congr 1; rw [Bool.eq_iff_iff]; simp only [decide_eq_true_eq, Bool.false_eq_true, false_iff]; omega

set_option maxHeartbeats 1000000 in
set_option maxRecDepth 100000 in
theorem IndexFunc_Task (p : S62 → Bool) (f : FuncId) (cap : Array Value) (w : World) (hcl : ∀ (x : S62) (W : World), Below w.heap.size w W → Calls Try.prog f (#[.agg #[.int .i64 x.f0, .int .i64 x.f1, .int .i64 x.f2]] ++ cap) W fun e w' => e = .returned (.bool (p x)) ∧ Below W.heap.size W w')
    {fn : Func} (hf : Try.prog.funcs[f]? = some fn) (hname : (fn.name == "runtime.NumGoroutine") = false) (hb : fn.body.isSome = true)
    (A0 : Option Addr) (c0 : Nat) (l0 : List (S62)) (hr0 : Kd.C k62 w A0 l0.length l0) (hc0 : l0.length ≤ c0) :
    Calls Try.prog 169 #[.slice A0 l0.length c0, .func (.func f) #[] cap] w fun e w' => e = .returned (.int .i64 (idxOf p l0)) ∧ Below w.heap.size w w' := by
  have hu := Try.underlying62
  have HR := Aside0.mk hr0
  have HC := Aside0.mk hc0
  have HCL := Aside0.mk hcl
  have HF := Aside0.mk hf
  have HB := Aside0.mk (Below.refl w.heap.size w)
  have hmx : l0.length ≤ 9223372036854775807 := hr0.2.1
  clear hr0 hc0 hcl hf
  go_enter Try.func169, Try.ntmps169
  go_wp2
  go_loopw [8] (fun v8 w' => ∃ j : Nat, v8 = .int .i64 j ∧ Aside0 (j ≤ l0.length ∧ ∀ i, i < j → p (l0.getD i z62) = false) ∧ Aside0 (Below w.heap.size w w')) (fun v8 _ => l0.length - (intOf v8).toNat)
  case atStart => exact ⟨0, rfl, ⟨by omega, fun i hi => absurd hi (by omega)⟩, HB⟩
  case round =>
    clear HB
    obtain ⟨j, rfl, ⟨HJ⟩, HB⟩ := hrel
    by_cases hlt : j < l0.length
    · have b1 : decide ((j : Int) < (l0.length : Int)) = true := decide_eq_true (by omega)
      obtain ⟨ad, e1, hx0, hx1, hx2⟩ := at_T62 HR.out (j : Int) (by omega) (by omega)
      cases e1
      replace hx0 := (HB.out.cell (World.block_lt_of_cell? w _ hx0)).trans hx0
      replace hx1 := (HB.out.cell (World.block_lt_of_cell? w _ hx1)).trans hx1
      replace hx2 := (HB.out.cell (World.block_lt_of_cell? w _ hx2)).trans hx2
      simp only [Int.toNat_natCast] at hx0 hx1 hx2
      have hrd : rd_T62 l0 (j : Int) = l0.getD j z62 := rfl
      rw [hrd] at hx0 hx1 hx2
      clear hrd
      obtain ⟨x, hx⟩ : ∃ x, x = l0.getD j z62 := ⟨_, rfl⟩
      rw [← hx] at hx0 hx1 hx2
      have q0 : 0 ≤ (j : Int) := by omega
      have q1 : (j : Int) < (l0.length : Int) := by omega
      have HX := Aside0.mk hx
      have HJA := Aside0.mk HJ
      clear HJ hx
      obtain ⟨b, hpb⟩ : ∃ b, b = p x := ⟨_, rfl⟩
      have HP := Aside0.mk hpb
      clear hpb
      cases b with
      | true =>
        go_wp2_with (with_reducible refine gate_value (n := 11) rfl ?_; go_must (refine goesF_ (some 16) rfl rfl rfl rfl HF.out hname hb (#[.agg #[.int .i64 x.f0, .int .i64 x.f1, .int .i64 x.f2]] ++ cap) (by simp [Act.eval]) ?_; refine (HCL.out x _ HB.out).mono ?_; rw [← HP.out]; rintro e w2 ⟨rfl, hb2⟩; refine ⟨_, rfl, ?_⟩; have n0_ := Aside0.mk (below_step HB.out hb2); clear hb2 HB; have HB := n0_; clear n0_))
        go_ret
        exact ⟨by rw [idxOf_at z62 hlt HJA.out.2 (by rw [← HX.out]; exact HP.out.symm)]; rfl, HB.out⟩
      | false =>
        go_wp2_with (with_reducible refine gate_value (n := 11) rfl ?_; go_must (refine goesF_ (some 16) rfl rfl rfl rfl HF.out hname hb (#[.agg #[.int .i64 x.f0, .int .i64 x.f1, .int .i64 x.f2]] ++ cap) (by simp [Act.eval]) ?_; refine (HCL.out x _ HB.out).mono ?_; rw [← HP.out]; rintro e w2 ⟨rfl, hb2⟩; refine ⟨_, rfl, ?_⟩; have n0_ := Aside0.mk (below_step HB.out hb2); clear hb2 HB; have HB := n0_; clear n0_))
        go_roundw
        case rel =>
          refine ⟨j + 1, by go_num, ⟨by omega, fun i hi => ?_⟩, HB⟩
          by_cases hij : i = j
          · rw [hij, ← HX.out]; exact HP.out.symm
          · exact HJA.out.2 i (by omega)
        case measure => simp [intOf]; omega
    · have b1 : decide ((j : Int) < (l0.length : Int)) = false := decide_eq_false (by omega)
      have HJA := Aside0.mk HJ
      clear HJ
      go_wp2
      go_ret
      exact ⟨by rw [idxOf_none z62 (fun i hi => HJA.out.2 i (by omega))]; rfl, HB.out⟩

set_option maxHeartbeats 1000000 in
set_option maxRecDepth 100000 in
theorem ContainsFunc_Task (p : S62 → Bool) (f : FuncId) (cap : Array Value) (w : World) (hcl : ∀ (x : S62) (W : World), Below w.heap.size w W → Calls Try.prog f (#[.agg #[.int .i64 x.f0, .int .i64 x.f1, .int .i64 x.f2]] ++ cap) W fun e w' => e = .returned (.bool (p x)) ∧ Below W.heap.size W w')
    {fn : Func} (hf : Try.prog.funcs[f]? = some fn) (hname : (fn.name == "runtime.NumGoroutine") = false) (hb : fn.body.isSome = true)
    (A0 : Option Addr) (c0 : Nat) (l0 : List (S62)) (hr0 : Kd.C k62 w A0 l0.length l0) (hc0 : l0.length ≤ c0) :
    Calls Try.prog 151 #[.slice A0 l0.length c0, .func (.func f) #[] cap] w fun e w' => e = .returned (.bool (l0.any p)) ∧ Below w.heap.size w w' := by
  have H := Lib.hid (IndexFunc_Task p f cap w hcl hf hname hb A0 c0 l0 hr0 hc0)
  clear hr0 hc0 hcl hf
  go_enter Try.func151, Try.ntmps151
  go_wp2_with (go_at_call 169; refine H.out.mono ?_; rintro e w2 ⟨rfl, hb2⟩)
  go_ret
  exact ⟨by rw [← idxOf_neg]; rfl, hb2⟩
def impl_SetValid.f (l0 : List (S62)) : Option Bool := some (decide (l0.length ≤ 5) && l0.all okTask)
set_option maxHeartbeats 1000000 in
set_option maxRecDepth 100000 in
theorem impl_SetValid.calls (A0 : Option Addr) (c0 : Nat) (l0 : List (S62)) (r : Bool) (w : World) (hr0 : Kd.C k62 w A0 l0.length l0) (hc0 : l0.length ≤ c0) (h : impl_SetValid.f l0 = some r) :
    Calls Try.prog 97 #[.slice A0 l0.length c0] w fun e w' => e = .returned (.bool r) ∧ Below w.heap.size w w' := by
  obtain rfl := Option.some.inj h
  clear h
  have hcl : ∀ (x : S62) (W : World), Calls Try.prog 152 #[.agg #[.int .i64 x.f0, .int .i64 x.f1, .int .i64 x.f2]] W fun e w' => e = .returned (.bool (!okTask x)) ∧ Below W.heap.size W w' :=
    fun x W => impl_SetValid_1.calls x.f0 x.f1 x.f2 _ W (by unfold impl_SetValid_1.f; rw [impl_TaskValid_f]; rfl)
  have H := Lib.hid (ContainsFunc_Task (fun x => !okTask x) 152 #[] w (fun x W _ => hcl x W) Try.func152 (by kernel_rfl) rfl A0 c0 l0 hr0 hc0)
  clear hcl hr0 hc0
  have hany : l0.any (fun x => !okTask x) = !l0.all okTask := by rw [List.all_eq_not_any_not, Bool.not_not]
  by_cases hl : l0.length ≤ 5
  · have b1 : decide ((l0.length : Int) ≤ 5) = true := decide_eq_true (by omega)
    have HA := Lib.hid hany
    clear hany
    go_enter Try.func97, Try.ntmps97
    go_wp2_with (go_at_call 151; refine H.out.mono ?_; rintro e w2 ⟨rfl, hb2⟩)
    go_ret
    exact ⟨by rw [HA.out]; simp [hl], hb2⟩
  · have b1 : decide ((l0.length : Int) ≤ 5) = false := decide_eq_false (by omega)
    clear hany
    go_enter Try.func97, Try.ntmps97
    go_wp2
    go_ret
    exact ⟨by simp [hl], Below.refl _ _⟩



/-! ### impl_JobsLegal: function 35 (given) -/
open Go.Proofs.Ytonifhkplniblaa.Walk
/-- The set that a closure has captured. -/
def Sees (W : World) (g : Nat) (A : Option Addr) (s : List (S62)) (c : Nat) : Prop := W.cell? ⟨g, 0, none⟩ = some (.slice A s.length c) ∧ Kd.C k62 W A s.length s ∧ g < W.heap.size
theorem Sees.below {W W' : World} {g : Nat} {A : Option Addr} {s : List (S62)} {c : Nat} (h : Sees W g A s c) (hb : Below W.heap.size W W') : Sees W' g A s c := by
  obtain ⟨h1, h2, h3⟩ := h
  exact ⟨(hb.cell (World.block_lt_of_cell? W _ h1)).trans h1, Kd.C_below h2 hb, Nat.lt_of_lt_of_le h3 hb.size⟩
set_option maxHeartbeats 1000000 in
theorem JobsLegal_1 (g : Nat) (A : Option Addr) (s : List (S62)) (c : Nat) (t : Int) (h0 : 0 ≤ t) (h1 : t < s.length) (W : World) (h : Sees W g A s c) :
    Calls Try.prog 99 #[.int .i64 t, .pointer (some ⟨g, 0, none⟩)] W fun e w' => e = .returned (.int .i64 (rd_T62 s t).f0) ∧ Drawn0 W w' := by
  obtain ⟨hg, hr, _⟩ := h
  obtain ⟨ad, e1, hx0, hx1, hx2⟩ := at_T62 hr t h0 h1
  cases e1
  have hu := Try.underlying62
  clear hr
  go_enter Try.func99, Try.ntmps99
  go_wp2
  go_ret
  exact ⟨rfl, Drawn0.refl _⟩
set_option maxHeartbeats 1000000 in
theorem JobsLegal_2 (g : Nat) (A : Option Addr) (s : List (S62)) (c : Nat) (t : Int) (h0 : 0 ≤ t) (h1 : t < s.length) (W : World) (h : Sees W g A s c) :
    Calls Try.prog 102 #[.int .i64 t, .pointer (some ⟨g, 0, none⟩)] W fun e w' => e = .returned (.int .i64 (rd_T62 s t).f2) ∧ Drawn0 W w' := by
  obtain ⟨hg, hr, _⟩ := h
  obtain ⟨ad, e1, hx0, hx1, hx2⟩ := at_T62 hr t h0 h1
  cases e1
  have hu := Try.underlying62
  clear hr
  go_enter Try.func102, Try.ntmps102
  go_wp2
  go_ret
  exact ⟨rfl, Drawn0.refl _⟩
set_option maxHeartbeats 1000000 in
theorem JobsLegal_3 (g : Nat) (A : Option Addr) (s : List (S62)) (c : Nat) (x : S67) (h0 : 0 ≤ x.f0) (h1 : x.f0 < s.length) (W : World) (h : Sees W g A s c) :
    Calls Try.prog 104 #[.agg #[.int .i64 x.f0, .int .i64 x.f1, .int .i64 x.f2, .int .i64 x.f3], .pointer (some ⟨g, 0, none⟩)] W fun e w' => e = .returned (.bool (!decide (x.f2 = wrap64 (x.f1 + (rd_T62 s x.f0).f1)))) ∧ Below W.heap.size W w' := by
  obtain ⟨hg, hr, hlt⟩ := h
  obtain ⟨ad, e1, hx0, hx1, hx2⟩ := at_T62 hr x.f0 h0 h1
  cases e1
  have hu := Try.underlying62
  have huJ := Try.underlying67
  clear hr
  obtain ⟨xa, xb, xc, xd⟩ := x
  simp only at h0 h1 hx0 hx1 hx2 ⊢
  obtain ⟨y, hy⟩ : ∃ y, y = (rd_T62 s xa) := ⟨_, rfl⟩
  rw [← hy] at hx0 hx1 hx2 ⊢
  obtain ⟨ya, yb, yc⟩ := y
  simp only at hx0 hx1 hx2 ⊢
  clear hy
  have hB : Below W.heap.size W (W.alloc (.cells #[.int .i64 xa, .int .i64 xb, .int .i64 xc, .int .i64 xd] 67)) := below_alloc (Below.refl _ _) _
  have kg := (hB.cell (World.block_lt_of_cell? _ _ hg)).trans hg
  have k1 := (hB.cell (World.block_lt_of_cell? _ _ hx1)).trans hx1
  go_enter Try.func104, Try.ntmps104
  go_wp2_with fail
  go_quiet (fail)
  go_wp2
  go_ret
  exact ⟨by simp [bne, i64_w] <;> rfl, pw_below_drewN hB _⟩

theorem Sees.drewN {W : World} {g : Nat} {A : Option Addr} {s : List (S62)} {c : Nat} (h : Sees W g A s c) (n : Nat) : Sees (W.drewN n) g A s c := h.below (pw_below_drewN (Below.refl _ _) n)
theorem inq (a b c : Int) (r : Bool) (hr : decide (b ≤ a ∧ a ≤ c) = r) (W : World) : Calls Try.prog 105 #[.int .i64 a, .int .i64 b, .int .i64 c] W fun e w' => e = .returned (.bool r) ∧ ∃ m, w' = W.drewN m := by
  refine (impl_in.calls a b c r W (by rw [impl_in_f, hr])).mono ?_
  rintro e w' ⟨rfl, hd⟩
  exact ⟨rfl, hd.out⟩
def jobIn (s : List (S62)) (j : S67) : Bool := decide (0 ≤ j.f0 ∧ j.f0 ≤ (s.length : Int) - 1) && (decide (0 ≤ j.f1 ∧ j.f1 ≤ 119) && decide (1 ≤ j.f3 ∧ j.f3 ≤ (rd_T62 s j.f0).f0))
def jobBad (p j : S67) : Bool := decide (p.f1 > j.f1) || (decide (p.f1 = j.f1) && decide (p.f0 ≥ j.f0))
def ordAt (s : List (S62)) (l : List (S67)) (i : Nat) : Bool := jobIn s (l.getD i z67) && !(decide (0 < i) && jobBad (l.getD (i - 1) z67) (l.getD i z67))
def ordB (s : List (S62)) (l : List (S67)) : Bool := (List.range l.length).all (ordAt s l) && decide (l.length ≤ 60)
theorem all_no {P : Nat → Bool} {n j : Nat} (hj : j < n) (h : P j = false) : (List.range n).all P = false := by
  rw [Bool.eq_false_iff]; intro h1; rw [List.all_eq_true] at h1; have := h1 j (List.mem_range.2 hj); rw [h] at this; cases this
theorem all_yes {P : Nat → Bool} {n : Nat} (h : ∀ i, i < n → P i = true) : (List.range n).all P = true := by
  rw [List.all_eq_true]; intro i hi; exact h i (List.mem_range.1 hi)
theorem upto_step {P : Nat → Bool} {j : Nat} (h : ∀ i, i < j → P i = true) (hj : P j = true) : ∀ i, i < j + 1 → P i = true := by
  intro i hi
  rcases Nat.lt_or_ge i j with h1 | h1
  · exact h i h1
  · obtain rfl : i = j := by omega
    exact hj
set_option maxHeartbeats 4000000 in
set_option maxRecDepth 100000 in
theorem ordered_calls (g : Nat) (A : Option Addr) (s : List (S62)) (c : Nat) (A0 : Option Addr) (c0 : Nat) (l0 : List (S67)) (w : World) (hs : Sees w g A s c) (hr0 : Kd.C k67 w A0 l0.length l0) (hc0 : l0.length ≤ c0) :
    Calls Try.prog 98 #[.slice A0 l0.length c0, .int .i64 (s.length : Int), .func (.func 99) #[] #[.pointer (some ⟨g, 0, none⟩)]] w fun e w' => e = .returned (.bool (ordB s l0)) ∧ Below w.heap.size w w' := by
  have hu := Try.underlying67
  have HR0 := Aside0.mk hr0
  have HS := Aside0.mk hs
  have HB := Aside0.mk (Below.refl w.heap.size w)
  have hmx : l0.length ≤ 9223372036854775807 := hr0.2.1
  have hsx : s.length ≤ 9223372036854775807 := hs.2.1.2.1
  clear hr0 hc0 hs
  go_enter Try.func98, Try.ntmps98
  go_wp2
  go_loopw [11] (fun v11 w' => ∃ j : Nat, v11 = .int .i64 j ∧ Aside0 (j ≤ l0.length ∧ ∀ i, i < j → ordAt s l0 i = true) ∧ Aside0 (Below w.heap.size w w')) (fun v11 _ => l0.length - (intOf v11).toNat)
  case atStart => exact ⟨0, rfl, ⟨Nat.zero_le _, fun i hi => absurd hi (by omega)⟩, HB⟩
  case round =>
    clear HB
    obtain ⟨j, rfl, ⟨HJ⟩, HB⟩ := hrel
    by_cases hlt : j < l0.length
    · have b1 : decide ((j : Int) < (l0.length : Int)) = true := decide_eq_true (by omega)
      obtain ⟨ad0, e0, hy0, hy1, hy2, hy3⟩ := at_T67 HR0.out (j : Int) (by omega) (by omega)
      cases e0
      replace hy0 := (HB.out.cell (World.block_lt_of_cell? w _ hy0)).trans hy0
      replace hy1 := (HB.out.cell (World.block_lt_of_cell? w _ hy1)).trans hy1
      replace hy2 := (HB.out.cell (World.block_lt_of_cell? w _ hy2)).trans hy2
      replace hy3 := (HB.out.cell (World.block_lt_of_cell? w _ hy3)).trans hy3
      simp only [Int.toNat_natCast] at hy0 hy1 hy2 hy3
      have hrd : rd_T67 l0 (j : Int) = l0.getD j z67 := rfl
      rw [hrd] at hy0 hy1 hy2 hy3
      have q0 : 0 ≤ (j : Int) := by omega
      have q1 : (j : Int) < (l0.length : Int) := by omega
      obtain ⟨y, hy⟩ : ∃ y, y = l0.getD j z67 := ⟨_, rfl⟩
      rw [← hy] at hy0 hy1 hy2 hy3
      have HY := Lib.hid hy
      have HLT := Lib.hid hlt
      have HJJ := Lib.hid HJ
      clear hrd hy HJ
      obtain ⟨ya, yb, yc, yd⟩ := y
      have SW := Lib.hid ((HS.out.below HB.out).below (below_alloc (Below.refl _ _) (.cells #[.int .i64 ya, .int .i64 yb, .int .i64 yc, .int .i64 yd] 67)))
      have H1 := Lib.hid hlt
      by_cases a1 : 0 ≤ ya ∧ ya ≤ (s.length : Int) - 1
      · have Q1 := Lib.hid (fun W => inq ya 0 ((s.length : Int) - 1) true (decide_eq_true a1) W)
        by_cases a2 : 0 ≤ yb ∧ yb ≤ 119
        · have Q2 := Lib.hid (fun W => inq yb 0 119 true (decide_eq_true a2) W)
          obtain ⟨m, hm⟩ : ∃ m, m = (rd_T62 s ya).f0 := ⟨_, rfl⟩
          have QM : Hid (∀ W : World, Sees W g A s c → Calls Try.prog 99 #[.int .i64 ya, .pointer (some ⟨g, 0, none⟩)] W fun e w' => e = .returned (.int .i64 m) ∧ ∃ k, w' = W.drewN k) := Lib.hid (fun W hW => by
            rw [hm]
            exact (JobsLegal_1 g A s c ya a1.1 (by omega) W hW).mono (by rintro e w' ⟨rfl, hd⟩; exact ⟨rfl, hd.out⟩))
          by_cases a3 : 1 ≤ yd ∧ yd ≤ m
          · have Q3 := Lib.hid (fun W => inq yd 1 m true (decide_eq_true a3) W)
            have hji : jobIn s (l0.getD j z67) = true := by rw [← HY.out]; simp only [jobIn]; rw [← hm]; simp [a1, a2, a3]
            have HJI := Lib.hid hji
            by_cases h0 : 0 < j
            · have h0b : decide ((j : Int) > 0) = true := decide_eq_true (by omega)
              obtain ⟨p, hp⟩ : ∃ p, p = (j : Int) - 1 := ⟨_, rfl⟩
              obtain ⟨ad1, e1, hz0, hz1, hz2, hz3⟩ := at_T67 HR0.out p (by omega) (by omega)
              cases e1
              have hrd : rd_T67 l0 p = l0.getD (j - 1) z67 := by unfold rd_T67; congr 1; omega
              rw [hrd] at hz0 hz1 hz2 hz3
              have hB2 := below_step HB.out (below_alloc (Below.refl wr.heap.size wr) (.cells #[.int .i64 ya, .int .i64 yb, .int .i64 yc, .int .i64 yd] 67))
              replace hz0 := (hB2.cell (World.block_lt_of_cell? w _ hz0)).trans hz0
              replace hz1 := (hB2.cell (World.block_lt_of_cell? w _ hz1)).trans hz1
              obtain ⟨x, hx⟩ : ∃ x, x = l0.getD (j - 1) z67 := ⟨_, rfl⟩
              rw [← hx] at hz0 hz1
              have HX := Lib.hid hx
              clear hz2 hz3 hrd hx hB2 hm hji a1 a2 a3
              have hw1 : IntKind.i64.wrap ((j : Int) - 1) = p := by rw [i64_w]; unfold wrap64; omega
              have q2 : 0 ≤ p := by omega
              have q3 : p < (l0.length : Int) := by omega
              clear hp
              obtain ⟨xa, xb, xc, xd⟩ := x
              simp only at hz0 hz1
              by_cases d1 : xb > yb
              · have d1b : decide (xb > yb) = true := decide_eq_true d1
                have HO : Hid (ordAt s l0 j = false) := Lib.hid (by rw [ordAt, HJI.out, ← HY.out, ← HX.out]; simp [h0, jobBad, d1])
                go_wp2_with fail
                ((go_quiet (first | (go_at_call 105; with_reducible first | exact Calls.quiet_of (Q1.out _) | exact Calls.quiet_of (Q2.out _) | exact Calls.quiet_of (Q3.out _) | (rw [i64_w]; first | exact Calls.quiet_of (Q1.out _) | exact Calls.quiet_of (Q2.out _) | exact Calls.quiet_of (Q3.out _))) | (go_at_call 99; exact Calls.quiet_of (QM.out _ (SW.out.drewN _))))))
                go_wp2_with fail
                ((go_quiet (first | (go_at_call 105; with_reducible first | exact Calls.quiet_of (Q1.out _) | exact Calls.quiet_of (Q2.out _) | exact Calls.quiet_of (Q3.out _) | (rw [i64_w]; first | exact Calls.quiet_of (Q1.out _) | exact Calls.quiet_of (Q2.out _) | exact Calls.quiet_of (Q3.out _))) | (go_at_call 99; exact Calls.quiet_of (QM.out _ (SW.out.drewN _))))))
                go_wp2
                ((go_ret; refine ⟨by rw [show ordB s l0 = false by unfold ordB; rw [all_no HLT.out HO.out]; rfl]; rfl, by ((repeat (first | (with_reducible first | exact HB.out | apply below_alloc | apply pw_below_drewN | apply below_drew1) | exact HB.out)))⟩))
              · have d1b : decide (xb > yb) = false := decide_eq_false d1
                by_cases d2 : xb = yb
                · have d2b : (xb == yb) = true := by rw [beq_iff_eq]; exact d2
                  by_cases d3 : xa ≥ ya
                  · have d3b : decide (xa ≥ ya) = true := decide_eq_true d3
                    have HO : Hid (ordAt s l0 j = false) := Lib.hid (by rw [ordAt, HJI.out, ← HY.out, ← HX.out]; simp [h0, jobBad, d2, d3])
                    go_wp2_with fail
                    ((go_quiet (first | (go_at_call 105; with_reducible first | exact Calls.quiet_of (Q1.out _) | exact Calls.quiet_of (Q2.out _) | exact Calls.quiet_of (Q3.out _) | (rw [i64_w]; first | exact Calls.quiet_of (Q1.out _) | exact Calls.quiet_of (Q2.out _) | exact Calls.quiet_of (Q3.out _))) | (go_at_call 99; exact Calls.quiet_of (QM.out _ (SW.out.drewN _))))))
                    go_wp2_with fail
                    ((go_quiet (first | (go_at_call 105; with_reducible first | exact Calls.quiet_of (Q1.out _) | exact Calls.quiet_of (Q2.out _) | exact Calls.quiet_of (Q3.out _) | (rw [i64_w]; first | exact Calls.quiet_of (Q1.out _) | exact Calls.quiet_of (Q2.out _) | exact Calls.quiet_of (Q3.out _))) | (go_at_call 99; exact Calls.quiet_of (QM.out _ (SW.out.drewN _))))))
                    go_wp2
                    ((go_ret; refine ⟨by rw [show ordB s l0 = false by unfold ordB; rw [all_no HLT.out HO.out]; rfl]; rfl, by ((repeat (first | (with_reducible first | exact HB.out | apply below_alloc | apply pw_below_drewN | apply below_drew1) | exact HB.out)))⟩))
                  · have d3b : decide (xa ≥ ya) = false := decide_eq_false d3
                    have HO : Hid (ordAt s l0 j = true) := Lib.hid (by rw [ordAt, HJI.out, ← HY.out, ← HX.out]; simp [h0, jobBad, d1, d2, d3])
                    go_wp2_with fail
                    ((go_quiet (first | (go_at_call 105; with_reducible first | exact Calls.quiet_of (Q1.out _) | exact Calls.quiet_of (Q2.out _) | exact Calls.quiet_of (Q3.out _) | (rw [i64_w]; first | exact Calls.quiet_of (Q1.out _) | exact Calls.quiet_of (Q2.out _) | exact Calls.quiet_of (Q3.out _))) | (go_at_call 99; exact Calls.quiet_of (QM.out _ (SW.out.drewN _))))))
                    go_wp2_with fail
                    ((go_quiet (first | (go_at_call 105; with_reducible first | exact Calls.quiet_of (Q1.out _) | exact Calls.quiet_of (Q2.out _) | exact Calls.quiet_of (Q3.out _) | (rw [i64_w]; first | exact Calls.quiet_of (Q1.out _) | exact Calls.quiet_of (Q2.out _) | exact Calls.quiet_of (Q3.out _))) | (go_at_call 99; exact Calls.quiet_of (QM.out _ (SW.out.drewN _))))))
                    go_wp2
                    ((go_roundw; (case rel => exact ⟨j + 1, by go_num, ⟨by omega, upto_step HJJ.out.2 HO.out⟩, ⟨by ((repeat (first | (with_reducible first | exact HB.out | apply below_alloc | apply pw_below_drewN | apply below_drew1) | exact HB.out)))⟩⟩); (case measure => simp [intOf]; omega)))
                · have d2b : (xb == yb) = false := by rw [beq_eq_false_iff_ne]; exact d2
                  have HO : Hid (ordAt s l0 j = true) := Lib.hid (by rw [ordAt, HJI.out, ← HY.out, ← HX.out]; simp [h0, jobBad, d1, d2])
                  go_wp2_with fail
                  ((go_quiet (first | (go_at_call 105; with_reducible first | exact Calls.quiet_of (Q1.out _) | exact Calls.quiet_of (Q2.out _) | exact Calls.quiet_of (Q3.out _) | (rw [i64_w]; first | exact Calls.quiet_of (Q1.out _) | exact Calls.quiet_of (Q2.out _) | exact Calls.quiet_of (Q3.out _))) | (go_at_call 99; exact Calls.quiet_of (QM.out _ (SW.out.drewN _))))))
                  go_wp2_with fail
                  ((go_quiet (first | (go_at_call 105; with_reducible first | exact Calls.quiet_of (Q1.out _) | exact Calls.quiet_of (Q2.out _) | exact Calls.quiet_of (Q3.out _) | (rw [i64_w]; first | exact Calls.quiet_of (Q1.out _) | exact Calls.quiet_of (Q2.out _) | exact Calls.quiet_of (Q3.out _))) | (go_at_call 99; exact Calls.quiet_of (QM.out _ (SW.out.drewN _))))))
                  go_wp2
                  ((go_roundw; (case rel => exact ⟨j + 1, by go_num, ⟨by omega, upto_step HJJ.out.2 HO.out⟩, ⟨by ((repeat (first | (with_reducible first | exact HB.out | apply below_alloc | apply pw_below_drewN | apply below_drew1) | exact HB.out)))⟩⟩); (case measure => simp [intOf]; omega)))
            · have h0b : decide ((j : Int) > 0) = false := decide_eq_false (by omega)
              have HO : Hid (ordAt s l0 j = true) := Lib.hid (by rw [ordAt, HJI.out]; simp [h0])
              clear hm hji a1 a2 a3
              go_wp2_with fail
              ((go_quiet (first | (go_at_call 105; with_reducible first | exact Calls.quiet_of (Q1.out _) | exact Calls.quiet_of (Q2.out _) | exact Calls.quiet_of (Q3.out _) | (rw [i64_w]; first | exact Calls.quiet_of (Q1.out _) | exact Calls.quiet_of (Q2.out _) | exact Calls.quiet_of (Q3.out _))) | (go_at_call 99; exact Calls.quiet_of (QM.out _ (SW.out.drewN _))))))
              go_wp2_with fail
              ((go_quiet (first | (go_at_call 105; with_reducible first | exact Calls.quiet_of (Q1.out _) | exact Calls.quiet_of (Q2.out _) | exact Calls.quiet_of (Q3.out _) | (rw [i64_w]; first | exact Calls.quiet_of (Q1.out _) | exact Calls.quiet_of (Q2.out _) | exact Calls.quiet_of (Q3.out _))) | (go_at_call 99; exact Calls.quiet_of (QM.out _ (SW.out.drewN _))))))
              go_wp2
              ((go_roundw; (case rel => exact ⟨j + 1, by go_num, ⟨by omega, upto_step HJJ.out.2 HO.out⟩, ⟨by ((repeat (first | (with_reducible first | exact HB.out | apply below_alloc | apply pw_below_drewN | apply below_drew1) | exact HB.out)))⟩⟩); (case measure => simp [intOf]; omega)))
          · have Q3 := Lib.hid (fun W => inq yd 1 m false (decide_eq_false a3) W)
            have HO : Hid (ordAt s l0 j = false) := Lib.hid (by rw [ordAt, ← HY.out]; simp only [jobIn]; rw [← hm]; simp [a3])
            clear hm a1 a2 a3
            go_wp2_with fail
            ((go_quiet (first | (go_at_call 105; with_reducible first | exact Calls.quiet_of (Q1.out _) | exact Calls.quiet_of (Q2.out _) | exact Calls.quiet_of (Q3.out _) | (rw [i64_w]; first | exact Calls.quiet_of (Q1.out _) | exact Calls.quiet_of (Q2.out _) | exact Calls.quiet_of (Q3.out _))) | (go_at_call 99; exact Calls.quiet_of (QM.out _ (SW.out.drewN _))))))
            go_wp2
            ((go_ret; refine ⟨by rw [show ordB s l0 = false by unfold ordB; rw [all_no HLT.out HO.out]; rfl]; rfl, by ((repeat (first | (with_reducible first | exact HB.out | apply below_alloc | apply pw_below_drewN | apply below_drew1) | exact HB.out)))⟩))
        · have Q2 := Lib.hid (fun W => inq yb 0 119 false (decide_eq_false a2) W)
          have HO : Hid (ordAt s l0 j = false) := Lib.hid (by rw [ordAt, ← HY.out]; simp [jobIn, a2])
          clear a1 a2
          go_wp2_with fail
          ((go_quiet (first | (go_at_call 105; with_reducible first | exact Calls.quiet_of (Q1.out _) | exact Calls.quiet_of (Q2.out _) | exact Calls.quiet_of (Q3.out _) | (rw [i64_w]; first | exact Calls.quiet_of (Q1.out _) | exact Calls.quiet_of (Q2.out _) | exact Calls.quiet_of (Q3.out _))) | (go_at_call 99; exact Calls.quiet_of (QM.out _ (SW.out.drewN _))))))
          go_wp2
          ((go_ret; refine ⟨by rw [show ordB s l0 = false by unfold ordB; rw [all_no HLT.out HO.out]; rfl]; rfl, by ((repeat (first | (with_reducible first | exact HB.out | apply below_alloc | apply pw_below_drewN | apply below_drew1) | exact HB.out)))⟩))
      · have Q1 := Lib.hid (fun W => inq ya 0 ((s.length : Int) - 1) false (decide_eq_false a1) W)
        have HO : Hid (ordAt s l0 j = false) := Lib.hid (by rw [ordAt, ← HY.out]; simp [jobIn, a1])
        clear a1
        go_wp2_with fail
        ((go_quiet (first | (go_at_call 105; with_reducible first | exact Calls.quiet_of (Q1.out _) | exact Calls.quiet_of (Q2.out _) | exact Calls.quiet_of (Q3.out _) | (rw [i64_w]; first | exact Calls.quiet_of (Q1.out _) | exact Calls.quiet_of (Q2.out _) | exact Calls.quiet_of (Q3.out _))) | (go_at_call 99; exact Calls.quiet_of (QM.out _ (SW.out.drewN _))))))
        go_wp2
        ((go_ret; refine ⟨by rw [show ordB s l0 = false by unfold ordB; rw [all_no HLT.out HO.out]; rfl]; rfl, by ((repeat (first | (with_reducible first | exact HB.out | apply below_alloc | apply pw_below_drewN | apply below_drew1) | exact HB.out)))⟩))
    · have b1 : decide ((j : Int) < (l0.length : Int)) = false := decide_eq_false (by omega)
      have HJA := Aside0.mk HJ
      have hje : j = l0.length := by omega
      subst hje
      clear HJ
      by_cases d1 : l0.length ≤ 60
      · have d1b : decide ((l0.length : Int) ≤ 60) = true := decide_eq_true (by omega)
        go_wp2
        go_ret
        exact ⟨by unfold ordB; rw [all_yes HJA.out.2, decide_eq_true d1]; rfl, HB.out⟩
      · have d1b : decide ((l0.length : Int) ≤ 60) = false := decide_eq_false (by omega)
        go_wp2
        go_ret
        exact ⟨by unfold ordB; rw [all_yes HJA.out.2, decide_eq_false d1]; rfl, HB.out⟩

open Go.Proofs.Ytonifhkplniblaa.Walk Go.Maps
theorem key3 : Keyed Try.prog 3 := int_keyed Try.underlying3
theorem zero3 (w : World) : (zeroValue 3).run Try.prog w = .ok (.int .i64 0) w := by kernel_rfl
theorem wf_small {t : Int} (h0 : 0 ≤ t) (h1 : t ≤ 9223372036854775807) : (Lit.int .i64 t).wf = true := by simp [Lit.wf, IntKind.min, IntKind.max, IntKind.signed, IntKind.bits]; omega
/-- When the last of the first jobs of a task came. -/
def lastT (l : List (S67)) : Nat → Int → Option Int
  | 0, _ => none
  | i + 1, t => if (l.getD i z67).f0 = t then some (l.getD i z67).f1 else lastT l i t
def spcAt (s : List (S62)) (l : List (S67)) (i : Nat) : Bool :=
  match lastT l i (l.getD i z67).f0 with
  | none => true
  | some b => !decide ((l.getD i z67).f1 - b < (rd_T62 s (l.getD i z67).f0).f2)
theorem lastT_in {l : List (S67)} {n : Nat} (hin : ∀ i, i < n → 0 ≤ (l.getD i z67).f1 ∧ (l.getD i z67).f1 ≤ 119) : ∀ i, i ≤ n → ∀ t b, lastT l i t = some b → 0 ≤ b ∧ b ≤ 119
  | 0, _, _, _, h => by cases h
  | i + 1, hi, t, b, h => by
    unfold lastT at h
    split at h
    · injection h with h; rw [← h]; exact hin i (by omega)
    · exact lastT_in hin i (by omega) t b h
/-- What the map holds behind the first jobs. -/
def MapSays (l : List (S67)) (j : Nat) (D : DataW Unit) : Prop := ∀ t, 0 ≤ t → t ≤ 9223372036854775807 → match lastT l j t with
  | none => has D (.int .i64 t) = false
  | some b => has D (.int .i64 t) = true ∧ D.atKey (.int .i64 t) (.lit (.int .i64 0)) = .lit (.int .i64 b)
theorem MapSays.zero (l : List (S67)) : MapSays l 0 (.map []) := fun t _ _ => rfl
theorem MapSays.put {l : List (S67)} {j : Nat} {D : DataW Unit} (h : MapSays l j D) (hD : IsMap D) {y : S67} (hy : y = l.getD j z67) : MapSays l (j + 1) (D.put (.int .i64 y.f0) (.lit (.int .i64 y.f1))) := by
  intro t h0 h1
  unfold lastT
  rw [← hy]
  by_cases e : y.f0 = t
  · rw [if_pos e]
    simp only
    rw [e]
    exact ⟨has_put_same hD (by trivial) _, atKey_put_same hD (by trivial) _ _⟩
  · rw [if_neg e]
    have hne : (Lit.int .i64 t) ≠ (Lit.int .i64 y.f0) := by intro h2; injection h2 with _ h3; exact e h3.symm
    have := h t h0 h1
    split
    · rename_i h2
      rw [h2] at this
      rw [has_put_other hne]
      exact this
    · rename_i b h2
      rw [h2] at this
      rw [has_put_other hne, atKey_put_other hne]
      exact this
theorem ownsMap_below {w w' : World} {P : Program} {k : TypeId} {R : Value → Option (DataW Unit × List MemPlace)} {b n : Nat} {D : DataW Unit} (h : w.ownsMap P k R b n D) (hb : Below w.heap.size w w') : w'.ownsMap P k R b n D := by
  have hlt := h.lt
  obtain ⟨es, clock, h1, h2⟩ := h
  exact ⟨es, clock, (hb.block b hlt).trans h1, h2⟩
theorem look_known {P : Program} (w : World) {ops : Array Oper} {rest : List Oper} {o : Oper} {a : Act} {Q : Exit → Act → World → Prop} (hg : o.guard = none) (m x : Operand) (t : TypeId) (hop : o.op = Op.lookup t m x true)
    (k e : TypeId) (K : Keyed P k) (ht : P.underlying t = some (.map k e)) (he : P.underlying e = some (.int .i64)) (hz : (zeroValue e).run P w = .ok (.int .i64 0) w) (b n : Nat) (D : DataW Unit)
    (hm : a.eval m = .map (some b)) (hown : w.ownsMap P k (plainElem P e) b n D) (key : Value) (kl : Lit) (hx : a.eval x = key) (hkey : keyOf P k key = some kl) {c : Int} {r : Bool}
    (hat : D.atKey kl (.lit (.int .i64 0)) = .lit (.int .i64 c)) (hh : has D kl = r) (hK : wpList P ops Q rest (a.put o.dst (.tuple #[.int .i64 c, .bool r])) w) :
    wpList P ops Q (o :: rest) a w :=
  wpList_lookup_own_ok_int w hg m x t hop k e .i64 K ht he hz b n D hm hown key kl hx hkey (fun c' h1 _ => by
    rw [hat] at h1
    injection h1 with h1
    injection h1 with _ h1
    subst h1
    rw [hh]
    exact hK)
set_option maxHeartbeats 4000000 in
set_option maxRecDepth 100000 in
theorem spaced_calls (g : Nat) (A : Option Addr) (s : List (S62)) (c : Nat) (A0 : Option Addr) (c0 : Nat) (l0 : List (S67)) (w : World) (hs : Sees w g A s c) (hr0 : Kd.C k67 w A0 l0.length l0) (hc0 : l0.length ≤ c0)
    (hin : ∀ i, i < l0.length → 0 ≤ (l0.getD i z67).f0 ∧ (l0.getD i z67).f0 < s.length) (hrl : ∀ i, i < l0.length → 0 ≤ (l0.getD i z67).f1 ∧ (l0.getD i z67).f1 ≤ 119) (hlen : l0.length ≤ 60) :
    Calls Try.prog 100 #[.slice A0 l0.length c0, .func (.func 101) #[] #[], .func (.func 102) #[] #[.pointer (some ⟨g, 0, none⟩)]] w fun e w' => e = .returned (.bool ((List.range l0.length).all (spcAt s l0))) ∧ Below w.heap.size w w' := by
  have hu := Try.underlying67
  have hmm := @run_makeMap Try.prog
  have HR0 := Aside0.mk hr0
  have HS := Aside0.mk hs
  have HIN := Aside0.mk hin
  have HRL := Aside0.mk hrl
  have HB := Aside0.mk (Below.refl w.heap.size w)
  have hsx : s.length ≤ 9223372036854775807 := hs.2.1.2.1
  clear hr0 hc0 hs hin hrl
  go_enter Try.func100, Try.ntmps100
  go_wp2
  go_loopw [16] (fun v16 w' => ∃ j : Nat, v16 = .int .i64 j ∧ Aside0 (j ≤ l0.length ∧ ∀ i, i < j → spcAt s l0 i = true) ∧ (∃ D, w'.ownsMap Try.prog 3 (plainElem Try.prog 3) w.heap.size j D ∧ MapSays l0 j D) ∧ Aside0 (Below w.heap.size w w')) (fun v16 _ => l0.length - (intOf v16).toNat)
  case atStart => exact ⟨0, rfl, ⟨Nat.zero_le _, fun i hi => absurd hi (by omega)⟩, ⟨_, World.ownsMap_made _ _ _ _, MapSays.zero l0⟩, ⟨by ((repeat (first | (with_reducible first | exact HB.out | apply below_alloc | apply pw_below_drewN | apply below_drew1) | exact HB.out)))⟩⟩
  case round =>
    clear HB
    obtain ⟨j, rfl, ⟨HJ⟩, ⟨D, hown, hms⟩, HB⟩ := hrel
    by_cases hlt : j < l0.length
    · have b1 : decide ((j : Int) < (l0.length : Int)) = true := decide_eq_true (by omega)
      obtain ⟨ad0, e0, hy0, hy1, hy2, hy3⟩ := at_T67 HR0.out (j : Int) (by omega) (by omega)
      cases e0
      replace hy0 := (HB.out.cell (World.block_lt_of_cell? w _ hy0)).trans hy0
      replace hy1 := (HB.out.cell (World.block_lt_of_cell? w _ hy1)).trans hy1
      replace hy2 := (HB.out.cell (World.block_lt_of_cell? w _ hy2)).trans hy2
      replace hy3 := (HB.out.cell (World.block_lt_of_cell? w _ hy3)).trans hy3
      simp only [Int.toNat_natCast] at hy0 hy1 hy2 hy3
      have hrd : rd_T67 l0 (j : Int) = l0.getD j z67 := rfl
      rw [hrd] at hy0 hy1 hy2 hy3
      have q0 : 0 ≤ (j : Int) := by omega
      have q1 : (j : Int) < (l0.length : Int) := by omega
      have hi := HIN.out j hlt
      have hr := HRL.out j hlt
      have hl := lastT_in HRL.out j (by omega) (l0.getD j z67).f0
      obtain ⟨y, hy⟩ : ∃ y, y = l0.getD j z67 := ⟨_, rfl⟩
      have hsa : spcAt s l0 j = match lastT l0 j y.f0 with | none => true | some b => !decide (y.f1 - b < (rd_T62 s y.f0).f2) := by rw [hy]; rfl
      rw [← hy] at hy0 hy1 hy2 hy3 hi hr hl
      have HY := Lib.hid hy
      have HJJ := Lib.hid HJ
      have HM := Lib.hid hms
      have HO0 := Lib.hid hown.isMap
      have HO := Aside0.mk hown
      have hsay := hms y.f0 hi.1 (by omega)
      clear hrd hy HJ hown hms
      obtain ⟨ya, yb, yc, yd⟩ := y
      simp only at hi hr hl hsa hsay
      obtain ⟨hi1, hi2⟩ := hi
      obtain ⟨hr1, hr2⟩ := hr
      have HKEY : Hid (keyOf Try.prog 3 (.int .i64 ya) = some (.int .i64 ya)) := Lib.hid (keyOf_int_mk Try.underlying3 (wf_small hi1 (by omega)))
      have HWF : Hid ((Lit.int .i64 yb).wf = true) := Lib.hid (wf_small hr1 (by omega))
      have HREL := Lib.hid (fun W => impl_release.calls ya yb yc yd yb W rfl)
      have hk0 : (wr.alloc (.cells #[.int .i64 ya, .int .i64 yb, .int .i64 yc, .int .i64 yd] 67)).cell? ⟨wr.heap.size, 0, none⟩ = some (.int .i64 ya) := by rw [World.cell?_alloc_at _ _ _ _ rfl]; rfl
      cases hlt2 : lastT l0 j ya with
      | none =>
        rw [hlt2] at hsa hsay
        have HOK := Lib.hid hsa
        have HAT := Lib.hid (atKey_of_not_has hsay (.lit (.int .i64 0)))
        have HHAS := Lib.hid hsay
        clear hsa hsay hl hlt2
        go_wp2_with (first | ((go_at_call 101; refine (HREL.out _).mono ?_; rintro e w2 ⟨rfl, hb2⟩; have n0_ := Aside0.mk (below_step (below_alloc HB.out _) hb2); have n1_ := Aside0.mk (ownsMap_below (HO.out.alloc _) hb2); have k0 := (hb2.cell (World.block_lt_of_cell? _ _ hk0)).trans hk0; clear HB HO hk0 hb2; have HB := n0_; have HO := n1_; clear n0_ n1_)) | (at_lookup; refine look_known _ rfl _ _ 181 rfl 3 3 key3 Try.underlying181 Try.underlying3 (zero3 _) w.heap.size j D rfl HO.out _ _ rfl HKEY.out HAT.out HHAS.out ?_) | ((at_mapUpdate; refine wpList_mapUpdate_own _ rfl _ _ _ 181 rfl 3 3 key3 Try.underlying181 _ w.heap.size j _ rfl HO.out (by unfold maxLen; omega) _ _ _ rfl rfl HKEY.out _ [] (plainElem_int Try.underlying3 HWF.out) ?_; intro w9 hown1 hgrow1; have n0_ := Aside0.mk (HB.out.grown hgrow1 HB.out.size (fun k hk => by cases hk; exact Nat.le_refl _)); have n1_ := Aside0.mk hown1; clear HB HO hown1 hgrow1 k0; have HB := n0_; have HO := n1_; clear n0_ n1_)))
        ((go_roundw; (case rel => exact ⟨j + 1, by go_num, ⟨by omega, upto_step HJJ.out.2 HOK.out⟩, ⟨_, HO.out, HM.out.put HO0.out HY.out⟩, ⟨by ((repeat (first | (with_reducible first | exact HB.out | apply below_alloc | apply pw_below_drewN | apply below_drew1) | exact HB.out)))⟩⟩); (case measure => simp [intOf]; omega)))
      | some b =>
        rw [hlt2] at hsa hsay
        have hb := hl b hlt2
        obtain ⟨hb1, hb2⟩ := hb
        have HAT := Lib.hid hsay.2
        have HHAS := Lib.hid hsay.1
        obtain ⟨m, hm⟩ : ∃ m, m = (rd_T62 s ya).f2 := ⟨_, rfl⟩
        simp only at hsa
        rw [← hm] at hsa
        have QM : Hid (∀ W : World, Sees W g A s c → Calls Try.prog 102 #[.int .i64 ya, .pointer (some ⟨g, 0, none⟩)] W fun e w' => e = .returned (.int .i64 m) ∧ ∃ k, w' = W.drewN k) := Lib.hid (fun W hW => by
          rw [hm]
          exact (JobsLegal_2 g A s c ya hi1 hi2 W hW).mono (by rintro e w' ⟨rfl, hd⟩; exact ⟨rfl, hd.out⟩))
        clear hsay hl hlt2 hm
        by_cases hbad : yb - b < m
        · have hbb : decide (yb - b < m) = true := decide_eq_true hbad
          rw [hbb] at hsa
          have HOK := Lib.hid hsa
          clear hsa hbad
          go_wp2_with (first | ((go_at_call 101; refine (HREL.out _).mono ?_; rintro e w2 ⟨rfl, hb2⟩; have n0_ := Aside0.mk (below_step (below_alloc HB.out _) hb2); have n1_ := Aside0.mk (ownsMap_below (HO.out.alloc _) hb2); have k0 := (hb2.cell (World.block_lt_of_cell? _ _ hk0)).trans hk0; clear HB HO hk0 hb2; have HB := n0_; have HO := n1_; clear n0_ n1_)) | (at_lookup; refine look_known _ rfl _ _ 181 rfl 3 3 key3 Try.underlying181 Try.underlying3 (zero3 _) w.heap.size j D rfl HO.out _ _ rfl HKEY.out HAT.out HHAS.out ?_) | (go_at_call 102; refine (QM.out _ (HS.out.below HB.out)).mono ?_; rintro e w3 ⟨rfl, m3, rfl⟩; have n0_ := Aside0.mk (pw_below_drewN HB.out m3); have n1_ := Aside0.mk (ownsMap_below HO.out (pw_below_drewN (Below.refl _ _) m3)); clear HB HO; have HB := n0_; have HO := n1_; clear n0_ n1_) | ((at_mapUpdate; refine wpList_mapUpdate_own _ rfl _ _ _ 181 rfl 3 3 key3 Try.underlying181 _ w.heap.size j _ rfl HO.out (by unfold maxLen; omega) _ _ _ rfl rfl HKEY.out _ [] (plainElem_int Try.underlying3 HWF.out) ?_; intro w9 hown1 hgrow1; have n0_ := Aside0.mk (HB.out.grown hgrow1 HB.out.size (fun k hk => by cases hk; exact Nat.le_refl _)); have n1_ := Aside0.mk hown1; clear HB HO hown1 hgrow1 k0; have HB := n0_; have HO := n1_; clear n0_ n1_)))
          go_ret
          exact ⟨by rw [all_no hlt HOK.out]; rfl, by ((repeat (first | (with_reducible first | exact HB.out | apply below_alloc | apply pw_below_drewN | apply below_drew1) | exact HB.out)))⟩
        · have hbb : decide (yb - b < m) = false := decide_eq_false hbad
          rw [hbb] at hsa
          have HOK := Lib.hid hsa
          clear hsa hbad
          go_wp2_with (first | ((go_at_call 101; refine (HREL.out _).mono ?_; rintro e w2 ⟨rfl, hb2⟩; have n0_ := Aside0.mk (below_step (below_alloc HB.out _) hb2); have n1_ := Aside0.mk (ownsMap_below (HO.out.alloc _) hb2); have k0 := (hb2.cell (World.block_lt_of_cell? _ _ hk0)).trans hk0; clear HB HO hk0 hb2; have HB := n0_; have HO := n1_; clear n0_ n1_)) | (at_lookup; refine look_known _ rfl _ _ 181 rfl 3 3 key3 Try.underlying181 Try.underlying3 (zero3 _) w.heap.size j D rfl HO.out _ _ rfl HKEY.out HAT.out HHAS.out ?_) | (go_at_call 102; refine (QM.out _ (HS.out.below HB.out)).mono ?_; rintro e w3 ⟨rfl, m3, rfl⟩; have n0_ := Aside0.mk (pw_below_drewN HB.out m3); have n1_ := Aside0.mk (ownsMap_below HO.out (pw_below_drewN (Below.refl _ _) m3)); clear HB HO; have HB := n0_; have HO := n1_; clear n0_ n1_) | ((at_mapUpdate; refine wpList_mapUpdate_own _ rfl _ _ _ 181 rfl 3 3 key3 Try.underlying181 _ w.heap.size j _ rfl HO.out (by unfold maxLen; omega) _ _ _ rfl rfl HKEY.out _ [] (plainElem_int Try.underlying3 HWF.out) ?_; intro w9 hown1 hgrow1; have n0_ := Aside0.mk (HB.out.grown hgrow1 HB.out.size (fun k hk => by cases hk; exact Nat.le_refl _)); have n1_ := Aside0.mk hown1; clear HB HO hown1 hgrow1 k0; have HB := n0_; have HO := n1_; clear n0_ n1_)))
          ((go_roundw; (case rel => exact ⟨j + 1, by go_num, ⟨by omega, upto_step HJJ.out.2 HOK.out⟩, ⟨_, HO.out, HM.out.put HO0.out HY.out⟩, ⟨by ((repeat (first | (with_reducible first | exact HB.out | apply below_alloc | apply pw_below_drewN | apply below_drew1) | exact HB.out)))⟩⟩); (case measure => simp [intOf]; omega)))
    · have b1 : decide ((j : Int) < (l0.length : Int)) = false := decide_eq_false (by omega)
      have HJA := Aside0.mk HJ
      have hje : j = l0.length := by omega
      subst hje
      clear HJ
      go_wp2
      go_ret
      exact ⟨by rw [all_yes HJA.out.2]; rfl, HB.out⟩

open Go.Proofs.Ytonifhkplniblaa.Walk Go.Maps
theorem getD_mem_Job {l : List (S67)} {j : Nat} (h : j < l.length) : l.getD j z67 ∈ l := by
  rw [List.getD_eq_getElem?_getD, List.getElem?_eq_getElem h]
  exact List.getElem_mem h

set_option maxHeartbeats 1000000 in
set_option maxRecDepth 100000 in
theorem IndexFunc_Job (p : S67 → Bool) (f : FuncId) (cap : Array Value) (w : World) (l0 : List (S67)) (hcl : ∀ (x : S67) (W : World), x ∈ l0 → Below w.heap.size w W → Calls Try.prog f (#[.agg #[.int .i64 x.f0, .int .i64 x.f1, .int .i64 x.f2, .int .i64 x.f3]] ++ cap) W fun e w' => e = .returned (.bool (p x)) ∧ Below W.heap.size W w')
    {fn : Func} (hf : Try.prog.funcs[f]? = some fn) (hname : (fn.name == "runtime.NumGoroutine") = false) (hb : fn.body.isSome = true)
    (A0 : Option Addr) (c0 : Nat) (hr0 : Kd.C k67 w A0 l0.length l0) (hc0 : l0.length ≤ c0) :
    Calls Try.prog 154 #[.slice A0 l0.length c0, .func (.func f) #[] cap] w fun e w' => e = .returned (.int .i64 (idxOf p l0)) ∧ Below w.heap.size w w' := by
  have hu := Try.underlying67
  have HR := Aside0.mk hr0
  have HC := Aside0.mk hc0
  have HCL := Aside0.mk hcl
  have HF := Aside0.mk hf
  have HB := Aside0.mk (Below.refl w.heap.size w)
  have hmx : l0.length ≤ 9223372036854775807 := hr0.2.1
  clear hr0 hc0 hcl hf
  go_enter Try.func154, Try.ntmps154
  go_wp2
  go_loopw [8] (fun v8 w' => ∃ j : Nat, v8 = .int .i64 j ∧ Aside0 (j ≤ l0.length ∧ ∀ i, i < j → p (l0.getD i z67) = false) ∧ Aside0 (Below w.heap.size w w')) (fun v8 _ => l0.length - (intOf v8).toNat)
  case atStart => exact ⟨0, rfl, ⟨by omega, fun i hi => absurd hi (by omega)⟩, HB⟩
  case round =>
    clear HB
    obtain ⟨j, rfl, ⟨HJ⟩, HB⟩ := hrel
    by_cases hlt : j < l0.length
    · have b1 : decide ((j : Int) < (l0.length : Int)) = true := decide_eq_true (by omega)
      obtain ⟨ad, e1, hx0, hx1, hx2, hx3⟩ := at_T67 HR.out (j : Int) (by omega) (by omega)
      cases e1
      replace hx0 := (HB.out.cell (World.block_lt_of_cell? w _ hx0)).trans hx0
      replace hx1 := (HB.out.cell (World.block_lt_of_cell? w _ hx1)).trans hx1
      replace hx2 := (HB.out.cell (World.block_lt_of_cell? w _ hx2)).trans hx2
      replace hx3 := (HB.out.cell (World.block_lt_of_cell? w _ hx3)).trans hx3
      simp only [Int.toNat_natCast] at hx0 hx1 hx2 hx3
      have hrd : rd_T67 l0 (j : Int) = l0.getD j z67 := rfl
      rw [hrd] at hx0 hx1 hx2 hx3
      clear hrd
      obtain ⟨x, hx⟩ : ∃ x, x = l0.getD j z67 := ⟨_, rfl⟩
      rw [← hx] at hx0 hx1 hx2 hx3
      have q0 : 0 ≤ (j : Int) := by omega
      have q1 : (j : Int) < (l0.length : Int) := by omega
      have HX := Aside0.mk hx
      have HJA := Aside0.mk HJ
      clear HJ hx
      obtain ⟨b, hpb⟩ : ∃ b, b = p x := ⟨_, rfl⟩
      have HP := Aside0.mk hpb
      clear hpb
      cases b with
      | true =>
        go_wp2_with (with_reducible refine gate_value (n := 11) rfl ?_; go_must (refine goesF_ (some 16) rfl rfl rfl rfl HF.out hname hb (#[.agg #[.int .i64 x.f0, .int .i64 x.f1, .int .i64 x.f2, .int .i64 x.f3]] ++ cap) (by simp [Act.eval]) ?_; refine (HCL.out x _ (by rw [HX.out]; exact getD_mem_Job hlt) HB.out).mono ?_; rw [← HP.out]; rintro e w2 ⟨rfl, hb2⟩; refine ⟨_, rfl, ?_⟩; have n0_ := Aside0.mk (below_step HB.out hb2); clear hb2 HB; have HB := n0_; clear n0_))
        go_ret
        exact ⟨by rw [idxOf_at z67 hlt HJA.out.2 (by rw [← HX.out]; exact HP.out.symm)]; rfl, HB.out⟩
      | false =>
        go_wp2_with (with_reducible refine gate_value (n := 11) rfl ?_; go_must (refine goesF_ (some 16) rfl rfl rfl rfl HF.out hname hb (#[.agg #[.int .i64 x.f0, .int .i64 x.f1, .int .i64 x.f2, .int .i64 x.f3]] ++ cap) (by simp [Act.eval]) ?_; refine (HCL.out x _ (by rw [HX.out]; exact getD_mem_Job hlt) HB.out).mono ?_; rw [← HP.out]; rintro e w2 ⟨rfl, hb2⟩; refine ⟨_, rfl, ?_⟩; have n0_ := Aside0.mk (below_step HB.out hb2); clear hb2 HB; have HB := n0_; clear n0_))
        go_roundw
        case rel =>
          refine ⟨j + 1, by go_num, ⟨by omega, fun i hi => ?_⟩, HB⟩
          by_cases hij : i = j
          · rw [hij, ← HX.out]; exact HP.out.symm
          · exact HJA.out.2 i (by omega)
        case measure => simp [intOf]; omega
    · have b1 : decide ((j : Int) < (l0.length : Int)) = false := decide_eq_false (by omega)
      have HJA := Aside0.mk HJ
      clear HJ
      go_wp2
      go_ret
      exact ⟨by rw [idxOf_none z67 (fun i hi => HJA.out.2 i (by omega))]; rfl, HB.out⟩

set_option maxHeartbeats 1000000 in
set_option maxRecDepth 100000 in
theorem ContainsFunc_Job (p : S67 → Bool) (f : FuncId) (cap : Array Value) (w : World) (l0 : List (S67)) (hcl : ∀ (x : S67) (W : World), x ∈ l0 → Below w.heap.size w W → Calls Try.prog f (#[.agg #[.int .i64 x.f0, .int .i64 x.f1, .int .i64 x.f2, .int .i64 x.f3]] ++ cap) W fun e w' => e = .returned (.bool (p x)) ∧ Below W.heap.size W w')
    {fn : Func} (hf : Try.prog.funcs[f]? = some fn) (hname : (fn.name == "runtime.NumGoroutine") = false) (hb : fn.body.isSome = true)
    (A0 : Option Addr) (c0 : Nat) (hr0 : Kd.C k67 w A0 l0.length l0) (hc0 : l0.length ≤ c0) :
    Calls Try.prog 103 #[.slice A0 l0.length c0, .func (.func f) #[] cap] w fun e w' => e = .returned (.bool (l0.any p)) ∧ Below w.heap.size w w' := by
  have H := Lib.hid (IndexFunc_Job p f cap w l0 hcl hf hname hb A0 c0 hr0 hc0)
  clear hr0 hc0 hcl hf
  go_enter Try.func103, Try.ntmps103
  go_wp2_with (go_at_call 154; refine H.out.mono ?_; rintro e w2 ⟨rfl, hb2⟩)
  go_ret
  exact ⟨by rw [← idxOf_neg]; rfl, hb2⟩
def dlOk (s : List (S62)) (x : S67) : Bool := decide (x.f2 = wrap64 (x.f1 + (rd_T62 s x.f0).f1))
/-- The jobs are a legal pattern of a valid set. -/
def legalB (s : List (S62)) (l : List (S67)) : Bool := ordB s l && ((List.range l.length).all (spcAt s l) && l.all (dlOk s))
theorem ordB_in {s : List (S62)} {l : List (S67)} (h : ordB s l = true) : l.length ≤ 60 ∧ ∀ i, i < l.length → jobIn s (l.getD i z67) = true := by
  unfold ordB at h
  rw [Bool.and_eq_true, List.all_eq_true] at h
  refine ⟨of_decide_eq_true h.2, fun i hi => ?_⟩
  have := h.1 i (List.mem_range.2 hi)
  unfold ordAt at this
  rw [Bool.and_eq_true] at this
  exact this.1
theorem jobIn_f0 {s : List (S62)} {j : S67} (h : jobIn s j = true) : 0 ≤ j.f0 ∧ j.f0 < s.length := by
  unfold jobIn at h; rw [Bool.and_eq_true] at h; have := of_decide_eq_true h.1; omega
theorem jobIn_f1 {s : List (S62)} {j : S67} (h : jobIn s j = true) : 0 ≤ j.f1 ∧ j.f1 ≤ 119 := by
  unfold jobIn at h; rw [Bool.and_eq_true, Bool.and_eq_true] at h; exact of_decide_eq_true h.2.1
def impl_JobsLegal.f (l0 : List (S62)) (l1 : List (S67)) : Option Bool := (impl_SetValid.f l0).bind fun b => some (b && legalB l0 l1)
set_option maxHeartbeats 2000000 in
set_option maxRecDepth 100000 in
theorem impl_JobsLegal.calls (A0 : Option Addr) (c0 : Nat) (l0 : List (S62)) (A1 : Option Addr) (c1 : Nat) (l1 : List (S67)) (r : Bool) (w : World) (hr0 : Kd.C k62 w A0 l0.length l0) (hc0 : l0.length ≤ c0) (hr1 : Kd.C k67 w A1 l1.length l1) (hc1 : l1.length ≤ c1) (h : impl_JobsLegal.f l0 l1 = some r) :
    Calls Try.prog 35 #[.slice A0 l0.length c0, .slice A1 l1.length c1] w fun e w' => e = .returned (.bool r) ∧ Below w.heap.size w w' := by
  unfold impl_JobsLegal.f at h
  obtain ⟨b, hb⟩ : ∃ b, impl_SetValid.f l0 = some b := by
    cases hs : impl_SetValid.f l0 with
    | none => rw [hs] at h; cases h
    | some b => exact ⟨b, rfl⟩
  rw [hb, Option.bind_some] at h
  obtain rfl := Option.some.inj h
  clear h
  have hB0 : Below w.heap.size w (w.alloc (.cells #[.slice A0 l0.length c0] 37)) := below_alloc (Below.refl _ _) _
  have HS := Lib.hid (impl_SetValid.calls A0 c0 l0 b (w.alloc (.cells #[.slice A0 l0.length c0] 37)) (Kd.C_below hr0 hB0) hc0 hb)
  have hcell : (w.alloc (.cells #[.slice A0 l0.length c0] 37)).cell? ⟨w.heap.size, 0, none⟩ = some (.slice A0 l0.length c0) := by
    rw [World.cell?_alloc_at _ _ _ _ rfl]; rfl
  have hse : Sees (w.alloc (.cells #[.slice A0 l0.length c0] 37)) w.heap.size A0 l0 c0 := ⟨hcell, Kd.C_below hr0 hB0, by simp⟩
  have HSE := Aside0.mk hse
  have HR1 := Aside0.mk (Kd.C_below hr1 hB0)
  have HC1 := Lib.hid hc1
  have HB := Aside0.mk hB0
  have hmf : ∀ (fn : Fn) (first cap : Array Value) (w : World), (Instr.makeFunc fn first cap).run Try.prog w = .ok (.func fn first cap) w := fun _ _ _ _ => rfl
  have hsx : l0.length ≤ 9223372036854775807 := hr0.2.1
  clear hr0 hc0 hr1 hc1 hb hse hB0
  cases b with
  | false =>
    go_enter Try.func35, Try.ntmps35
    go_wp2_with (go_at_call 97; refine HS.out.mono ?_; rintro e w2 ⟨rfl, hbx⟩; ((have n0_ := Aside0.mk (below_step HB.out hbx); have n1_ := Aside0.mk (HSE.out.below hbx); have n2_ := Aside0.mk (Kd.C_below HR1.out hbx); clear HB HSE HR1 hbx; have HB := n0_; have HSE := n1_; have HR1 := n2_; clear n0_ n1_ n2_)))
    go_ret
    exact ⟨by simp, HB.out⟩
  | true =>
    have HORD := Lib.hid (fun (W : World) (hs : Sees W w.heap.size A0 l0 c0) (hr : Kd.C k67 W A1 l1.length l1) => ordered_calls w.heap.size A0 l0 c0 A1 c1 l1 W hs hr HC1.out)
    cases ho : ordB l0 l1 with
    | false =>
      have HO := Lib.hid ho
      clear ho
      go_enter Try.func35, Try.ntmps35
      go_wp2_with (first | (go_at_call 97; refine HS.out.mono ?_; rintro e w2 ⟨rfl, hbx⟩; have hcx := (hbx.cell (World.block_lt_of_cell? _ _ hcell)).trans hcell; ((have n0_ := Aside0.mk (below_step HB.out hbx); have n1_ := Aside0.mk (HSE.out.below hbx); have n2_ := Aside0.mk (Kd.C_below HR1.out hbx); clear HB HSE HR1 hbx; have HB := n0_; have HSE := n1_; have HR1 := n2_; clear n0_ n1_ n2_))) | (go_at_call 98; refine (HORD.out _ HSE.out HR1.out).mono ?_; rw [HO.out]; rintro e w3 ⟨rfl, hbx⟩; ((have n0_ := Aside0.mk (below_step HB.out hbx); have n1_ := Aside0.mk (HSE.out.below hbx); have n2_ := Aside0.mk (Kd.C_below HR1.out hbx); clear HB HSE HR1 hbx; have HB := n0_; have HSE := n1_; have HR1 := n2_; clear n0_ n1_ n2_))))
      go_ret
      exact ⟨by unfold legalB; rw [HO.out]; rfl, HB.out⟩
    | true =>
      have HO := Lib.hid ho
      have hin := ordB_in ho
      have HSP := Lib.hid (fun (W : World) (hs : Sees W w.heap.size A0 l0 c0) (hr : Kd.C k67 W A1 l1.length l1) => spaced_calls w.heap.size A0 l0 c0 A1 c1 l1 W hs hr HC1.out (fun i hi => jobIn_f0 (hin.2 i hi)) (fun i hi => jobIn_f1 (hin.2 i hi)) hin.1)
      cases hp : (List.range l1.length).all (spcAt l0 l1) with
      | false =>
        have HP := Lib.hid hp
        clear ho hin hp
        go_enter Try.func35, Try.ntmps35
        go_wp2_with (first | (go_at_call 97; refine HS.out.mono ?_; rintro e w2 ⟨rfl, hbx⟩; have hcx := (hbx.cell (World.block_lt_of_cell? _ _ hcell)).trans hcell; ((have n0_ := Aside0.mk (below_step HB.out hbx); have n1_ := Aside0.mk (HSE.out.below hbx); have n2_ := Aside0.mk (Kd.C_below HR1.out hbx); clear HB HSE HR1 hbx; have HB := n0_; have HSE := n1_; have HR1 := n2_; clear n0_ n1_ n2_))) | (go_at_call 98; refine (HORD.out _ HSE.out HR1.out).mono ?_; rw [HO.out]; rintro e w3 ⟨rfl, hbx⟩; ((have n0_ := Aside0.mk (below_step HB.out hbx); have n1_ := Aside0.mk (HSE.out.below hbx); have n2_ := Aside0.mk (Kd.C_below HR1.out hbx); clear HB HSE HR1 hbx; have HB := n0_; have HSE := n1_; have HR1 := n2_; clear n0_ n1_ n2_))) | (go_at_call 100; refine (HSP.out _ HSE.out HR1.out).mono ?_; rw [HP.out]; rintro e w4 ⟨rfl, hbx⟩; ((have n0_ := Aside0.mk (below_step HB.out hbx); have n1_ := Aside0.mk (HSE.out.below hbx); have n2_ := Aside0.mk (Kd.C_below HR1.out hbx); clear HB HSE HR1 hbx; have HB := n0_; have HSE := n1_; have HR1 := n2_; clear n0_ n1_ n2_))))
        go_ret
        exact ⟨by unfold legalB; rw [HO.out, HP.out]; rfl, HB.out⟩
      | true =>
        have HP := Lib.hid hp
        have HCF := Lib.hid (fun (W : World) (hs : Sees W w.heap.size A0 l0 c0) (hr : Kd.C k67 W A1 l1.length l1) => ContainsFunc_Job (fun x => !dlOk l0 x) 104 #[.pointer (some ⟨w.heap.size, 0, none⟩)] W l1
          (fun x W' hx hW => by
            obtain ⟨i, hi, rfl⟩ := List.getElem_of_mem hx
            have hj := jobIn_f0 (hin.2 i hi)
            have hg : l1.getD i z67 = l1[i] := by simp [List.getD_eq_getElem?_getD, hi]
            rw [hg] at hj
            exact JobsLegal_3 w.heap.size A0 l0 c0 l1[i] hj.1 hj.2 W' (hs.below hW)) Try.func104 (by kernel_rfl) rfl A1 c1 hr HC1.out)
        have hany : l1.any (fun x => !dlOk l0 x) = !l1.all (dlOk l0) := by rw [List.all_eq_not_any_not, Bool.not_not]
        have HA := Lib.hid hany
        clear ho hin hp hany
        go_enter Try.func35, Try.ntmps35
        go_wp2_with (first | (go_at_call 97; refine HS.out.mono ?_; rintro e w2 ⟨rfl, hbx⟩; have hcx := (hbx.cell (World.block_lt_of_cell? _ _ hcell)).trans hcell; ((have n0_ := Aside0.mk (below_step HB.out hbx); have n1_ := Aside0.mk (HSE.out.below hbx); have n2_ := Aside0.mk (Kd.C_below HR1.out hbx); clear HB HSE HR1 hbx; have HB := n0_; have HSE := n1_; have HR1 := n2_; clear n0_ n1_ n2_))) | (go_at_call 98; refine (HORD.out _ HSE.out HR1.out).mono ?_; rw [HO.out]; rintro e w3 ⟨rfl, hbx⟩; ((have n0_ := Aside0.mk (below_step HB.out hbx); have n1_ := Aside0.mk (HSE.out.below hbx); have n2_ := Aside0.mk (Kd.C_below HR1.out hbx); clear HB HSE HR1 hbx; have HB := n0_; have HSE := n1_; have HR1 := n2_; clear n0_ n1_ n2_))) | (go_at_call 100; refine (HSP.out _ HSE.out HR1.out).mono ?_; rw [HP.out]; rintro e w4 ⟨rfl, hbx⟩; ((have n0_ := Aside0.mk (below_step HB.out hbx); have n1_ := Aside0.mk (HSE.out.below hbx); have n2_ := Aside0.mk (Kd.C_below HR1.out hbx); clear HB HSE HR1 hbx; have HB := n0_; have HSE := n1_; have HR1 := n2_; clear n0_ n1_ n2_))) | (go_at_call 103; refine (HCF.out _ HSE.out HR1.out).mono ?_; rw [HA.out]; rintro e w5 ⟨rfl, hbx⟩; ((have n0_ := Aside0.mk (below_step HB.out hbx); have n1_ := Aside0.mk (HSE.out.below hbx); have n2_ := Aside0.mk (Kd.C_below HR1.out hbx); clear HB HSE HR1 hbx; have HB := n0_; have HSE := n1_; have HR1 := n2_; clear n0_ n1_ n2_))))
        go_ret
        exact ⟨by unfold legalB; rw [HO.out, HP.out]; simp, HB.out⟩

end Go.Proofs.Ytonifhkplniblaa.Print

namespace Go.Proofs.Ytonifhkplniblaa.Print
open Go.RowKit Go.Proofs.YtonifhkplniblaaW.PrintWords Go.Proofs.YtonifhkplniblaaW.PrintLast Go.Proofs.YtonifhkplniblaaW.PrintMore
attribute [local go_sem] max2_int min2_int max_two min_two max_three min_three max_four min_four   -- for this text's walks alone
set_option linter.unusedVariables false
set_option linter.unusedSimpArgs false

/-! ### impl_ceilings: function 108 -/
mutual
def impl_ceilings.l0 : Nat → List (S62) → List (S64) → List Int → Int → Int → Option (List Int)
  | 0, _, _, _, _, _ => none
  | k + 1, x0, x1, x5, x11, x12 => if x12 < x11 then (if 0 ≤ x12 then (if x12 < (x5.length : Int) then (impl_ceilings.l0 k x0 x1 (x5.set (x12 : Int).toNat 13) x11 (wrap64 (x12 + 1))) else (none)) else (none)) else (impl_ceilings.l1 k x0 x5 x1 (x1.length : Int) 0)
def impl_ceilings.l1 : Nat → List (S62) → List Int → List (S64) → Int → Int → Option (List Int)
  | 0, _, _, _, _, _ => none
  | k + 1, x0, x5, x19, x20, x21 => if x21 < x20 then (if 0 ≤ x21 then (if x21 < (x19.length : Int) then (if ((rd_T64 x19 x21).f1) > 0 then (if 0 ≤ ((rd_T64 x19 x21).f2) then (if ((rd_T64 x19 x21).f2) < (x5.length : Int) then (if x21 < (x0.length : Int) then (impl_ceilings.l1 k x0 (x5.set (((rd_T64 x19 x21).f2) : Int).toNat (mn (rd x5 ((rd_T64 x19 x21).f2)) ((rd_T62 x0 x21).f1))) x19 x20 (wrap64 (x21 + 1))) else (none)) else (none)) else (none)) else (impl_ceilings.l1 k x0 x5 x19 x20 (wrap64 (x21 + 1)))) else (none)) else (none)) else (some x5)
end
def impl_ceilings.f (k : Nat) (l0 : List (S62)) (l1 : List (S64)) : Option (List Int) := if 3 ≤ 35184372088832 then ((some (List.replicate 3 0 : List Int)).bind fun y101 => (impl_ceilings.l0 k l0 l1 y101 (y101.length : Int) 0)) else (none)
theorem impl_ceilings.mono_l : ∀ k, (∀ y0 y1 y2 y3 y4, LeO (impl_ceilings.l0 k y0 y1 y2 y3 y4) (impl_ceilings.l0 (k + 1) y0 y1 y2 y3 y4)) ∧ (∀ y0 y1 y2 y3 y4, LeO (impl_ceilings.l1 k y0 y1 y2 y3 y4) (impl_ceilings.l1 (k + 1) y0 y1 y2 y3 y4))
  | 0 => ⟨fun _ _ _ _ _ r h => by simp [impl_ceilings.l0] at h, fun _ _ _ _ _ r h => by simp [impl_ceilings.l1] at h⟩
  | k + 1 => by
    obtain ⟨ih0, ih1⟩ := impl_ceilings.mono_l k
    refine ⟨?_, ?_⟩
    · intro y0 y1 y2 y3 y4
      unfold impl_ceilings.l0
      repeat' first
      | (with_reducible exact ih0 _ _ _ _ _)
      | (with_reducible exact ih1 _ _ _ _ _)
      | (with_reducible exact LeO.refl _)
      | (with_reducible exact LeO.none _)
      | (with_reducible refine LeO.ite ?_ ?_)
      | (with_reducible refine LeO.bind ?_ (fun _ => ?_))
      | exact ih0 _ _ _ _ _
      | exact ih1 _ _ _ _ _
      | exact LeO.none _
      | refine LeO.ite ?_ ?_
      | refine LeO.bind ?_ (fun _ => ?_)
    · intro y0 y1 y2 y3 y4
      unfold impl_ceilings.l1
      repeat' first
      | (with_reducible exact ih0 _ _ _ _ _)
      | (with_reducible exact ih1 _ _ _ _ _)
      | (with_reducible exact LeO.refl _)
      | (with_reducible exact LeO.none _)
      | (with_reducible refine LeO.ite ?_ ?_)
      | (with_reducible refine LeO.bind ?_ (fun _ => ?_))
      | exact ih0 _ _ _ _ _
      | exact ih1 _ _ _ _ _
      | exact LeO.none _
      | refine LeO.ite ?_ ?_
      | refine LeO.bind ?_ (fun _ => ?_)
theorem impl_ceilings.mono : ∀ a0 a1 k, LeO (impl_ceilings.f k a0 a1) (impl_ceilings.f (k + 1) a0 a1) := by
  intro a0 a1 k
  obtain ⟨ih0, ih1⟩ := impl_ceilings.mono_l k
  unfold impl_ceilings.f
  repeat' first
      | (with_reducible exact ih0 _ _ _ _ _)
      | (with_reducible exact ih1 _ _ _ _ _)
      | (with_reducible exact LeO.refl _)
      | (with_reducible exact LeO.none _)
      | (with_reducible refine LeO.ite ?_ ?_)
      | (with_reducible refine LeO.bind ?_ (fun _ => ?_))
      | exact ih0 _ _ _ _ _
      | exact ih1 _ _ _ _ _
      | exact LeO.none _
      | refine LeO.ite ?_ ?_
      | refine LeO.bind ?_ (fun _ => ?_)
def impl_ceilings.T11 : Bool × List (List Nat × List Nat) := (true, [([], []), ([], []), ([1], [1]), ([], []), ([], []), ([4], [4]), ([3, 5], [3, 5]), ([6], [6]), ([], []), ([], []), ([8, 9], [8, 9]), ([10], [10]), ([11], [11]), ([7, 12], [7, 12]), ([0, 2, 0, 1, 2, 3, 4, 5, 6, 7, 8, 9, 10, 11, 12, 13], [0, 2]), ([14, 13, 0, 1, 2, 3, 4, 5, 6, 7, 8, 9, 10, 11, 12, 13], [13, 14])])
def impl_ceilings.B11 : List Nat := [0, 0, 2, 0, 0, 16, 56, 120, 0, 0, 768, 1792, 3840, 8184, 16383, 32767]
theorem impl_ceilings.tab11 : rtab .any (opsOf Try.f108 11) = impl_ceilings.T11 := by kernel_rfl
theorem impl_ceilings.bits11 : waitsOk impl_ceilings.T11.2 impl_ceilings.B11 = true := by kernel_rfl
set_option maxHeartbeats 8000000 in
set_option maxRecDepth 100000 in
theorem impl_ceilings.calls (k : Nat) (A0 : Option Addr) (c0 : Nat) (l0 : List (S62)) (A1 : Option Addr) (c1 : Nat) (l1 : List (S64)) (r : List Int) (w : World) (hr0 : Kd.C k62 w A0 l0.length l0) (hc0 : l0.length ≤ c0) (hr1 : Kd.C k64 w A1 l1.length l1) (hc1 : l1.length ≤ c1) (h : impl_ceilings.f k l0 l1 = some r) :
    Calls Try.prog 108 #[.slice A0 l0.length c0, .slice A1 l1.length c1] w fun e w' => ∃ v0_ : Value, e = .returned (v0_) ∧ Kd.R (Kd.int .i64) 3 w' w.heap.size (fun _ => True) v0_ r ∧ Below w.heap.size w w' := by
  have hu64 := Try.underlying64
  have HR0 := Aside0.mk hr0
  have HC0 := Aside0.mk hc0
  clear hr0 hc0
  have HR1 := Aside0.mk hr1
  have HC1 := Aside0.mk hc1
  clear hr1 hc1
  have HB := Aside0.mk (Below.refl w.heap.size w)
  have H : (if 3 ≤ 35184372088832 then ((some (List.replicate 3 0 : List Int)).bind fun y101 => (impl_ceilings.l0 k l0 l1 y101 (y101.length : Int) 0)) else (none)) = some r := h
  clear h
  by_cases c3 : 3 ≤ 35184372088832
  · rw [if_pos c3] at H
    have c3b0 := eq_true c3
    have c3b1 : decide (3 ≤ 35184372088832) = true := decide_eq_true c3
    clear c3
    obtain ⟨y101, hy101⟩ : ∃ y_ : List Int, y_ = (List.replicate 3 0) := ⟨_, rfl⟩
    replace H : (impl_ceilings.l0 k l0 l1 y101 (y101.length : Int) 0) = some r := by first | (rw [hy101]; with_reducible exact H) | (have H2_ := (Option.bind_some _ _).symm.trans H; rw [hy101]; with_reducible exact H2_) | (have H2_ := (Option.bind_some _ _).symm.trans H; with_reducible exact H2_) | with_reducible exact H | (rw [hy101]; exact H) | exact H
    have Ny101 := Aside0.mk hy101
    clear hy101
    have H' := Aside0.mk H
    clear H
    go_enter Try.func108, Try.ntmps108
    go_wp2_with (first | ((with_reducible refine gate_dst (N := 9) rfl ?_); refine Kd.R_make (Kd.int .i64) _ 3 rfl (N := 9) rfl 30 _ _ rfl 3 rfl rfl Try.underlying30 (.int .i64 0) 8 info3 rfl (by decide) (by omega) 0 (ok := fun _ => True) (okp := fun _ => True) rfl (fun _ hk => hk) trivial (by omega) (by omega) (Below.refl _ _) (Nat.le_refl _) ?_; intro v102 w4 ho5 hb hg_ hnew_; clear hg_ hnew_; (first | rw [← Ny101.out] at ho5 | (simp only [Int.reduceToNat] at ho5; rw [← Ny101.out] at ho5)); have n0_ := Aside0.mk (Kd.R_lower ho5 (below_size (by repeat (first | (with_reducible first | exact HB.out | apply below_alloc | apply pw_below_drewN | apply below_drew1) | exact HB.out)))); have n1_ := Aside0.mk (below_step (by repeat (first | (with_reducible first | exact HB.out | apply below_alloc | apply pw_below_drewN | apply below_drew1) | exact HB.out)) hb); clear HB; have HO103 := n0_; have HB := n1_; clear n0_ n1_; clear hb ho5; obtain ⟨Ao6, co6, eo6⟩ := Kd.R_slice HO103.out; subst eo6))
    go_loopg [12] k (fun kq v12 w' => ∃ (x5_1 : List Int) (x12_1 : Int), v12 = .int .i64 x12_1 ∧ Aside0 (impl_ceilings.l0 kq l0 l1 x5_1 (y101.length : Int) x12_1 = some r) ∧ Aside0 (kq ≤ k) ∧ Aside0 (Kd.R (Kd.int .i64) 3 w' w.heap.size (fun _ => True) (.slice Ao6 y101.length co6) x5_1) ∧ Aside0 (Below w.heap.size w w'))
    case atStart => exact ⟨(y101), (0), (by first | rfl | (simp; done) | (simp [*]; done) | (simp only [i64_w, i32_w]; done) | (simp [*, i64_w, i32_w]; done)), H', ⟨Nat.le_refl _⟩, ⟨by (with_reducible repeat (first | apply Kd.R_alloc | apply Kd.R_drewN | apply Kd.R_drew)); exact HO103.out⟩, ⟨by repeat (first | (with_reducible first | exact HB.out | apply below_alloc | apply pw_below_drewN | apply below_drew1) | exact HB.out)⟩⟩
    case round =>
      clear H'
      try clear c1
      try clear p2
      try clear c3
      try clear c3b0
      try clear c3b1
      obtain ⟨x5_1, x12_1, rfl, HA, HK1, HO_5, HB⟩ := hrel
      have hl5_1 := (Kd.R_reads' HO_5.out).1
      rw [hl5_1] at HO_5
      (try simp only [hl5_1])
      cases gk with
      | zero => exact absurd HA.out (by simp [impl_ceilings.l0])
      | succ k1 =>
        have H := HA.out
        clear HA
        simp only [impl_ceilings.l0] at H
        by_cases c7 : x12_1 < (y101.length : Int)
        · rw [if_pos c7] at H
          have c7b0 : decide (x12_1 < (y101.length : Int)) = true := decide_eq_true c7
          (try (have c7r0 := c7b0; simp only [hl5_1] at c7r0))
          clear c7
          by_cases c8 : 0 ≤ x12_1
          · rw [if_pos c8] at H
            have c8b0 : decide (0 ≤ x12_1) = true := decide_eq_true c8
            (try (have c8r0 := c8b0; simp only [hl5_1] at c8r0))
            clear c8
            by_cases c9 : x12_1 < (x5_1.length : Int)
            · rw [if_pos c9] at H
              have c9b0 : decide (x12_1 < (x5_1.length : Int)) = true := decide_eq_true c9
              (try (have c9r0 := c9b0; simp only [hl5_1] at c9r0))
              clear c9
              obtain ⟨y104, hy104⟩ : ∃ y_ : List Int, y_ = (x5_1.set (x12_1 : Int).toNat 13) := ⟨_, rfl⟩
              replace H : (impl_ceilings.l0 k1 l0 l1 y104 (y101.length : Int) (wrap64 (x12_1 + 1))) = some r := by first | (rw [hy104]; with_reducible exact H) | (have H2_ := (Option.bind_some _ _).symm.trans H; rw [hy104]; with_reducible exact H2_) | (have H2_ := (Option.bind_some _ _).symm.trans H; with_reducible exact H2_) | with_reducible exact H | (rw [hy104]; exact H) | exact H
              have Ny104 := Aside0.mk hy104
              clear hy104
              have H' := Aside0.mk H
              clear H
              have p10 : 0 ≤ (x12_1 : Int) := of_decide_eq_true (by first | (with_reducible assumption) | assumption)
              have q10 : (x12_1 : Int) < ((x5_1.length : Int) : Int) := of_decide_eq_true (by first | (with_reducible assumption) | assumption)
              obtain ⟨go10, co10, eo10, gb10, gl10, cl10, HG10⟩ := Kd.R_form HO_5.out (by omega)
              (first | cases eo10 | (injection eo10 with ea_ en_ ec_; (first | subst ea_ | (injection ea_ with ea_; subst ea_)); subst ec_; clear en_))
              have GB10 := Aside0.mk gb10
              have GG10 := Aside0.mk HG10
              clear gb10 gl10 HG10
              obtain ⟨hx10_0, hf10_0⟩ := Kd.R_celln 0 HO_5.out (x12_1 : Int) p10 q10
              replace p10 := eq_true p10
              replace q10 := eq_true q10
              have HP11 := Kd.R_putg HO_5.out (x12_1 : Int) 13
              go_wp2_with (first | ((with_reducible refine gate_store (t := 3) (p := 17) rfl ?_); refine store_event (t := 3) (p := 17) (v := ?vo_w12) (w1 := (wr.setCell ⟨go10, (x12_1 : Int).toNat, none⟩ (.int .i64 13))) ?hg ?ho ?hn ?hr ?_; (case ho => rfl); (case hg => rfl); (case hn => rfl); (case hr => first | (go_simp; done) | (go_simp; rfl)); intro w12 hw; have hg : wr.grownBy w12 (some go10) := (by rw [hw]; exact HP11.2); have hp_ : Kd.R (Kd.int .i64) 3 w12 w.heap.size (fun _ => True) (.slice (some ⟨go10, 0, none⟩) x5_1.length co6) y104 := (by rw [hw, Ny104.out]; exact HP11.1); clear HP11; have n0_ := Aside0.mk (hp_); have n1_ := Aside0.mk ((by rw [hw]; exact below_set (HB.out) GB10.out : Below w.heap.size w w12)); clear HO_5; clear HB; have HO_5 := n0_; have HB := n1_; clear n0_ n1_; clear hg hw hp_))
              (try simp only [← hl5_1])
              go_roundg k1
              case measure => have := HK1.out; omega
              case rel => exact ⟨(y104), (wrap64 (x12_1 + 1)), (by first | rfl | (simp; done) | (simp [*]; done) | (simp only [i64_w, i32_w]; done) | (simp [*, i64_w, i32_w]; done)), H', ⟨by have := HK1.out; omega⟩, ⟨by (try simp only [hl5_1]); (with_reducible repeat (first | apply Kd.R_alloc | apply Kd.R_drewN | apply Kd.R_drew)); exact HO_5.out⟩, ⟨by repeat (first | (with_reducible first | exact HB.out | apply below_alloc | apply pw_below_drewN | apply below_drew1) | exact HB.out)⟩⟩
            · rw [if_neg c9] at H
              exact absurd H (by simp)
          · rw [if_neg c8] at H
            exact absurd H (by simp)
        · rw [if_neg c7] at H
          have c7b0 : decide (x12_1 < (y101.length : Int)) = false := decide_eq_false c7
          (try (have c7r0 := c7b0; simp only [hl5_1] at c7r0))
          clear c7
          have H' := Aside0.mk H
          clear H
          go_wp2
          go_loopg [21] k1 (fun kq v21 w' => ∃ (x5_2 : List Int) (x21_2 : Int), v21 = .int .i64 x21_2 ∧ Aside0 (impl_ceilings.l1 kq l0 x5_2 l1 (l1.length : Int) x21_2 = some r) ∧ Aside0 (kq ≤ k1) ∧ Aside0 (Kd.R (Kd.int .i64) 3 w' w.heap.size (fun _ => True) (.slice Ao6 x5_1.length co6) x5_2) ∧ Aside0 (Below w.heap.size w w'))
          case atStart => exact ⟨(x5_1), (0), (by first | rfl | (simp; done) | (simp [*]; done) | (simp only [i64_w, i32_w]; done) | (simp [*, i64_w, i32_w]; done)), H', ⟨Nat.le_refl _⟩, ⟨by (try simp only [hl5_1]); (with_reducible repeat (first | apply Kd.R_alloc | apply Kd.R_drewN | apply Kd.R_drew)); exact HO_5.out⟩, ⟨by repeat (first | (with_reducible first | exact HB.out | apply below_alloc | apply pw_below_drewN | apply below_drew1) | exact HB.out)⟩⟩
          case round =>
            clear H'
            try clear c1
            try clear p1
            try clear q1
            try clear hx1
            try clear p2
            try clear c3
            try clear c3b0
            try clear c3b1
            try clear p6
            try clear c7
            try clear c7b0
            try clear c8
            try clear c8b0
            try clear c9
            try clear c9b0
            try clear c10
            try clear p10
            try clear q10
            try clear hx10
            try clear hf10
            try clear hx10_0
            try clear p10
            try clear p2
            try clear q10
            obtain ⟨x5_2, x21_2, rfl, HA, HK2, HO_5, HB⟩ := hrel
            have hl5_2 := (Kd.R_reads' HO_5.out).1
            rw [hl5_2] at HO_5
            (try simp only [hl5_2])
            cases gk with
            | zero => exact absurd HA.out (by simp [impl_ceilings.l1])
            | succ k2 =>
              have H := HA.out
              clear HA
              simp only [impl_ceilings.l1] at H
              by_cases c13 : x21_2 < (l1.length : Int)
              · rw [if_pos c13] at H
                have c13b0 : decide (x21_2 < (l1.length : Int)) = true := decide_eq_true c13
                (try (have c13r0 := c13b0; simp only [hl5_1, hl5_2] at c13r0))
                clear c13
                by_cases c14 : 0 ≤ x21_2
                · rw [if_pos c14] at H
                  have c14b0 : decide (0 ≤ x21_2) = true := decide_eq_true c14
                  (try (have c14r0 := c14b0; simp only [hl5_1, hl5_2] at c14r0))
                  clear c14
                  by_cases c15 : x21_2 < (l1.length : Int)
                  · rw [if_pos c15] at H
                    have c15b0 : decide (x21_2 < (l1.length : Int)) = true := decide_eq_true c15
                    (try (have c15r0 := c15b0; simp only [hl5_1, hl5_2] at c15r0))
                    clear c15
                    by_cases c16 : ((rd_T64 l1 x21_2).f1) > 0
                    · rw [if_pos c16] at H
                      have c16b0 : decide (0 < ((rd_T64 l1 x21_2).f1)) = true := decide_eq_true c16
                      (try (have c16r0 := c16b0; simp only [hl5_1, hl5_2] at c16r0))
                      clear c16
                      by_cases c17 : 0 ≤ ((rd_T64 l1 x21_2).f2)
                      · rw [if_pos c17] at H
                        have c17b0 : decide (0 ≤ ((rd_T64 l1 x21_2).f2)) = true := decide_eq_true c17
                        (try (have c17r0 := c17b0; simp only [hl5_1, hl5_2] at c17r0))
                        clear c17
                        by_cases c18 : ((rd_T64 l1 x21_2).f2) < (x5_2.length : Int)
                        · rw [if_pos c18] at H
                          have c18b0 : decide (((rd_T64 l1 x21_2).f2) < (x5_2.length : Int)) = true := decide_eq_true c18
                          (try (have c18r0 := c18b0; simp only [hl5_1, hl5_2] at c18r0))
                          clear c18
                          by_cases c19 : x21_2 < (l0.length : Int)
                          · rw [if_pos c19] at H
                            have c19b0 : decide (x21_2 < (l0.length : Int)) = true := decide_eq_true c19
                            (try (have c19r0 := c19b0; simp only [hl5_1, hl5_2] at c19r0))
                            clear c19
                            obtain ⟨ji20, hji20⟩ : ∃ j_ : Int, (mn (rd x5_2 ((rd_T64 l1 x21_2).f2)) ((rd_T62 l0 x21_2).f1)) = j_ := ⟨_, rfl⟩
                            replace H : (impl_ceilings.l1 k2 l0 (x5_2.set (((rd_T64 l1 x21_2).f2) : Int).toNat (ji20)) l1 (l1.length : Int) (wrap64 (x21_2 + 1))) = some r := by first | (rw [hji20] at H; exact H) | (simp only [hji20] at H ⊢; exact H)
                            have hji20_ : (if ((rd_T62 l0 x21_2).f1) < (rd x5_2 ((rd_T64 l1 x21_2).f2)) then ((rd_T62 l0 x21_2).f1) else (rd x5_2 ((rd_T64 l1 x21_2).f2))) = ji20 := hji20
                            obtain ⟨y109, hy109⟩ : ∃ y_ : List Int, y_ = (x5_2.set (((rd_T64 l1 x21_2).f2) : Int).toNat (ji20)) := ⟨_, rfl⟩
                            replace H : (impl_ceilings.l1 k2 l0 y109 l1 (l1.length : Int) (wrap64 (x21_2 + 1))) = some r := by first | (rw [hy109]; with_reducible exact H) | (have H2_ := (Option.bind_some _ _).symm.trans H; rw [hy109]; with_reducible exact H2_) | (have H2_ := (Option.bind_some _ _).symm.trans H; with_reducible exact H2_) | with_reducible exact H | (rw [hy109]; exact H) | exact H
                            have Ny109 := Aside0.mk hy109
                            clear hy109
                            have H' := Aside0.mk H
                            clear H
                            have p105 : 0 ≤ (x21_2 : Int) := of_decide_eq_true (by first | (with_reducible assumption) | assumption)
                            have q105 : x21_2 < (l1.length : Int) := of_decide_eq_true (by first | (with_reducible assumption) | assumption)
                            obtain ⟨ad105, e105, hx105_0, hx105_1, hx105_2⟩ := at_T64 HR1.out x21_2 p105 q105
                            cases e105
                            replace hx105_0 := (HB.out.cell (World.block_lt_of_cell? w _ hx105_0)).trans hx105_0
                            replace hx105_1 := (HB.out.cell (World.block_lt_of_cell? w _ hx105_1)).trans hx105_1
                            replace hx105_2 := (HB.out.cell (World.block_lt_of_cell? w _ hx105_2)).trans hx105_2
                            replace p105 := eq_true p105
                            replace q105 := eq_true q105
                            try go_wp2_with (first | ((with_reducible refine gate_dst (N := 8) rfl ?_); refine box_event ?hg (N := 8) ?hd (cs := #[.int .i64 0, .int .i64 0, .int .i64 0]) (t := 64) ?hr ?_; (case hd => rfl); (case hg => rfl); (case hr => first | (go_simp; done) | (go_simp; rfl)); intro gb106 hg w22 hbox hb; have n0_ := Aside0.mk (Kd.R_below (by (with_reducible repeat (first | apply Kd.R_alloc | apply Kd.R_drewN | apply Kd.R_drew)); exact HO_5.out) hb); have n1_ := Aside0.mk (below_step (by repeat (first | (with_reducible first | exact HB.out | apply below_alloc | apply pw_below_drewN | apply below_drew1) | exact HB.out)) hb); have n2_ := Aside0.mk (hbox); have n3_ := Aside0.mk ((by rw [hg]; exact (below_size (by repeat (first | (with_reducible first | exact HB.out | apply below_alloc | apply pw_below_drewN | apply below_drew1) | exact HB.out))) : w.heap.size ≤ gb106)); have n4_ := Aside0.mk ((by rw [hg]; exact (below_size (by repeat (first | (with_reducible first | exact HB.out | apply below_alloc | apply pw_below_drewN | apply below_drew1) | exact HB.out))) : w.heap.size ≤ gb106)); clear HO_5; clear HB; have HO_5 := n0_; have HB := n1_; have BK106 := n2_; have GW106 := n3_; have GE106 := n4_; clear n0_ n1_ n2_ n3_ n4_; clear hb hbox hg; have hcz23_0 : w22.cell? ⟨gb106, 0, none⟩ = some (.int .i64 0) := (blk_cell BK106.out 0).trans rfl; have hcz23_1 : w22.cell? ⟨gb106, 1, none⟩ = some (.int .i64 0) := (blk_cell BK106.out 1).trans rfl; have hcz23_2 : w22.cell? ⟨gb106, 2, none⟩ = some (.int .i64 0) := (blk_cell BK106.out 2).trans rfl; have hfz23_0 := blk_frozen BK106.out 0; have hfz23_1 := blk_frozen BK106.out 1; have hfz23_2 := blk_frozen BK106.out 2))
                            have n0_ : Aside0 (Kd.R (Kd.int .i64) 3 (((w22.setCell ⟨gb106, 0, none⟩ (.int .i64 ((rd_T64 l1 x21_2).f0))).setCell ⟨gb106, 1, none⟩ (.int .i64 ((rd_T64 l1 x21_2).f1))).setCell ⟨gb106, 2, none⟩ (.int .i64 ((rd_T64 l1 x21_2).f2))) w.heap.size (fun _ => True) (.slice Ao6 x5_2.length co6) x5_2) := ⟨by (with_reducible repeat (first | apply Kd.R_alloc | apply Kd.R_drewN | apply Kd.R_drew)); exact Kd.R_mono (Kd.R_far (p := ⟨gb106, 2, none⟩) (Kd.R_far (p := ⟨gb106, 1, none⟩) (Kd.R_far (p := ⟨gb106, 0, none⟩) (Kd.R_types HO_5.out BK106.out (by decide)) (fun _ hk => hk.2) (.int .i64 ((rd_T64 l1 x21_2).f0))) (fun _ hk => hk.2) (.int .i64 ((rd_T64 l1 x21_2).f1))) (fun _ hk => hk.2) (.int .i64 ((rd_T64 l1 x21_2).f2))) (fun _ hk => trivial)⟩
                            have n1_ : Aside0 ((((w22.setCell ⟨gb106, 0, none⟩ (.int .i64 ((rd_T64 l1 x21_2).f0))).setCell ⟨gb106, 1, none⟩ (.int .i64 ((rd_T64 l1 x21_2).f1))).setCell ⟨gb106, 2, none⟩ (.int .i64 ((rd_T64 l1 x21_2).f2))).heap[gb106]? = some (.cells #[.int .i64 ((rd_T64 l1 x21_2).f0), .int .i64 ((rd_T64 l1 x21_2).f1), .int .i64 ((rd_T64 l1 x21_2).f2)] 64 (0, 0))) := ⟨by (with_reducible repeat (first | refine blk_drewN ?_ _ | refine blk_drew ?_ | refine blk_alloc ?_ _)); refine blk_put (cs := #[.int .i64 ((rd_T64 l1 x21_2).f0), .int .i64 ((rd_T64 l1 x21_2).f1), .int .i64 0]) ?_ 2 _ rfl; (with_reducible repeat (first | refine blk_drewN ?_ _ | refine blk_drew ?_ | refine blk_alloc ?_ _)); refine blk_put (cs := #[.int .i64 ((rd_T64 l1 x21_2).f0), .int .i64 0, .int .i64 0]) ?_ 1 _ rfl; (with_reducible repeat (first | refine blk_drewN ?_ _ | refine blk_drew ?_ | refine blk_alloc ?_ _)); refine blk_put (cs := #[.int .i64 0, .int .i64 0, .int .i64 0]) ?_ 0 _ rfl; (with_reducible repeat (first | refine blk_drewN ?_ _ | refine blk_drew ?_ | refine blk_alloc ?_ _)); exact BK106.out⟩
                            have n2_ : Aside0 (Below w.heap.size w (((w22.setCell ⟨gb106, 0, none⟩ (.int .i64 ((rd_T64 l1 x21_2).f0))).setCell ⟨gb106, 1, none⟩ (.int .i64 ((rd_T64 l1 x21_2).f1))).setCell ⟨gb106, 2, none⟩ (.int .i64 ((rd_T64 l1 x21_2).f2)))) := ⟨by repeat (first | (with_reducible first | exact HB.out | apply below_alloc | apply pw_below_drewN | apply below_drew1 | refine below_set ?_ GE106.out) | exact HB.out)⟩
                            (try clear HO_5)
                            (try clear BK106)
                            (try clear HB)
                            generalize (((w22.setCell ⟨gb106, 0, none⟩ (.int .i64 ((rd_T64 l1 x21_2).f0))).setCell ⟨gb106, 1, none⟩ (.int .i64 ((rd_T64 l1 x21_2).f1))).setCell ⟨gb106, 2, none⟩ (.int .i64 ((rd_T64 l1 x21_2).f2))) = w24 at n0_ n1_ n2_ ⊢
                            have HO_5 := n0_
                            have BK106 := n1_
                            have HB := n2_
                            clear n0_ n1_ n2_
                            have n0_ := Aside0.mk (Kd.R_drew HO_5.out)
                            have n1_ := Aside0.mk (blk_drew BK106.out)
                            have n2_ := Aside0.mk (below_drew1 HB.out)
                            clear HO_5
                            clear BK106
                            clear HB
                            have HO_5 := n0_
                            have BK106 := n1_
                            have HB := n2_
                            clear n0_ n1_ n2_
                            have p107 : 0 ≤ (((rd_T64 l1 x21_2).f2) : Int) := of_decide_eq_true (by first | (with_reducible assumption) | assumption)
                            have q107 : ((rd_T64 l1 x21_2).f2) < (x5_2.length : Int) := of_decide_eq_true (by first | (with_reducible assumption) | assumption)
                            obtain ⟨ad107, e107, hx107_0⟩ := Kd.at_int (Kd.R_reads' HO_5.out).2.2 ((rd_T64 l1 x21_2).f2) p107 q107
                            cases e107
                            replace p107 := eq_true p107
                            replace q107 := eq_true q107
                            have p108 : 0 ≤ (x21_2 : Int) := of_decide_eq_true (by first | (with_reducible assumption) | assumption)
                            have q108 : x21_2 < (l0.length : Int) := of_decide_eq_true (by first | (with_reducible assumption) | assumption)
                            obtain ⟨ad108, e108, hx108_0, hx108_1, hx108_2⟩ := at_T62 HR0.out x21_2 p108 q108
                            have hw108_2 := hx108_2
                            have hw108_1 := hx108_1
                            have hw108_0 := hx108_0
                            cases e108
                            replace hx108_0 := (HB.out.cell (World.block_lt_of_cell? w _ hx108_0)).trans hx108_0
                            replace hx108_1 := (HB.out.cell (World.block_lt_of_cell? w _ hx108_1)).trans hx108_1
                            replace hx108_2 := (HB.out.cell (World.block_lt_of_cell? w _ hx108_2)).trans hx108_2
                            replace p108 := eq_true p108
                            replace q108 := eq_true q108
                            have p21 : 0 ≤ (((rd_T64 l1 x21_2).f2) : Int) := of_decide_eq_true (by first | (with_reducible assumption) | assumption)
                            have q21 : (((rd_T64 l1 x21_2).f2) : Int) < ((x5_2.length : Int) : Int) := of_decide_eq_true (by first | (with_reducible assumption) | assumption)
                            obtain ⟨go21, co21, eo21, gb21, gl21, cl21, HG21⟩ := Kd.R_form HO_5.out (by omega)
                            (first | cases eo21 | (injection eo21 with ea_ en_ ec_; (first | subst ea_ | (injection ea_ with ea_; subst ea_)); subst ec_; clear en_))
                            have GB21 := Aside0.mk gb21
                            have GG21 := Aside0.mk HG21
                            clear gb21 gl21 HG21
                            (first | simp only [add_plain] at hx107_0 | skip)
                            obtain ⟨hx21_0, hf21_0⟩ := Kd.R_celln 0 HO_5.out (((rd_T64 l1 x21_2).f2) : Int) p21 q21
                            replace p21 := eq_true p21
                            replace q21 := eq_true q21
                            have HP26 := Kd.R_putn HO_5.out (((rd_T64 l1 x21_2).f2) : Int) ji20
                            rw [← Ny109.out] at HP26
                            have HQ26 := Aside0.mk HP26
                            clear HP26
                            refine start_ (n := 16) (S := fun w' => w'.cell? ⟨gb106, 0, none⟩ = some (.int .i64 ((rd_T64 l1 x21_2).f0)) ∧ w'.cell? ⟨gb106, 1, none⟩ = some (.int .i64 ((rd_T64 l1 x21_2).f1)) ∧ w'.cell? ⟨gb106, 2, none⟩ = some (.int .i64 ((rd_T64 l1 x21_2).f2)) ∧ w'.cell? ⟨go21, ((rd_T64 l1 x21_2).f2).toNat, none⟩ = some (.int .i64 (rd x5_2 ((rd_T64 l1 x21_2).f2))) ∧ w'.cell? (ad108.add ((x21_2).toNat * 3)) = some (.int .i64 ((rd_T62 l0 x21_2).f0)) ∧ w'.cell? ⟨(ad108.add ((x21_2).toNat * 3)).block, (ad108.add ((x21_2).toNat * 3)).off + 1, none⟩ = some (.int .i64 ((rd_T62 l0 x21_2).f1)) ∧ w'.cell? ⟨(ad108.add ((x21_2).toNat * 3)).block, (ad108.add ((x21_2).toNat * 3)).off + 2, none⟩ = some (.int .i64 ((rd_T62 l0 x21_2).f2))) (ds := [15]) #[false, false, false, false, false, false, false, false, false, false, false, false, false, false, false, false] (by kernel_rfl) rfl rfl ⟨(blk_cell BK106.out 0).trans rfl, (blk_cell BK106.out 1).trans rfl, (blk_cell BK106.out 2).trans rfl, hx107_0, ((HB.out.cell (World.block_lt_of_cell? w _ hw108_0)).trans hw108_0), ((HB.out.cell (World.block_lt_of_cell? w _ hw108_1)).trans hw108_1), ((HB.out.cell (World.block_lt_of_cell? w _ hw108_2)).trans hw108_2)⟩ (fun hHeld => ?_); refine with_tabW impl_ceilings.tab11 impl_ceilings.bits11 (fun HT_ HW_ => ?_)
                            generalize w24.drew = w25 at HO_5 BK106 HB GG21 HQ26 hf21_0 hx107_0 hx108_0 hx108_1 hx108_2 hx21_0 hHeld ⊢
                            refine pure_ (i := 0) (N := some 29) (v := ?_) (a' := ?_) #[true, false, false, false, false, false, false, false, false, false, false, false, false, false, false, false] rfl rfl (any_of HT_.out (by kernel_rfl)) (fun _ _ _ h => h) (Or.inl ⟨by rfl, ?_⟩) ?_ ?_
                            rotate_left
                            · intro w'
                              go_simp
                              with_reducible rfl
                            rotate_left
                            · simp only [Act.put, List.setIfInBounds_toArray, List.set_cons_zero, List.set_cons_succ, i64_w, i32_w]
                              rfl
                            refine pure_ (i := 1) (N := some 30) (v := ?_) (a' := ?_) #[true, true, false, false, false, false, false, false, false, false, false, false, false, false, false, false] rfl rfl (any_of HT_.out (by kernel_rfl)) (fun _ _ _ h => h) (Or.inl ⟨by rfl, ?_⟩) ?_ ?_
                            rotate_left
                            · intro w'
                              go_simp
                              with_reducible rfl
                            rotate_left
                            · simp only [Act.put, List.setIfInBounds_toArray, List.set_cons_zero, List.set_cons_succ, i64_w, i32_w]
                              rfl
                            refine pure_ (i := 3) (N := some 32) (v := ?_) (a' := ?_) #[true, true, false, true, false, false, false, false, false, false, false, false, false, false, false, false] rfl rfl (any_of HT_.out (by kernel_rfl)) (fun _ _ _ h => h) (Or.inl ⟨by rfl, ?_⟩) ?_ ?_
                            rotate_left
                            · intro w'
                              go_simp
                              with_reducible rfl
                            rotate_left
                            · simp only [Act.put, List.setIfInBounds_toArray, List.set_cons_zero, List.set_cons_succ, i64_w, i32_w]
                              rfl
                            refine pure_ (i := 4) (N := some 33) (v := ?_) (a' := ?_) #[true, true, false, true, true, false, false, false, false, false, false, false, false, false, false, false] rfl rfl (any_of HT_.out (by kernel_rfl)) (fun _ _ _ h => h) (Or.inl ⟨by rfl, ?_⟩) ?_ ?_
                            rotate_left
                            · intro w'
                              go_simp
                              with_reducible rfl
                            rotate_left
                            · simp only [Act.put, List.setIfInBounds_toArray, List.set_cons_zero, List.set_cons_succ, i64_w, i32_w]
                              rfl
                            refine pure_ (i := 8) (N := some 37) (v := ?_) (a' := ?_) #[true, true, false, true, true, false, false, false, true, false, false, false, false, false, false, false] rfl rfl (any_of HT_.out (by kernel_rfl)) (fun _ _ _ h => h) (Or.inl ⟨by rfl, ?_⟩) ?_ ?_
                            rotate_left
                            · intro w'
                              go_simp
                              with_reducible rfl
                            rotate_left
                            · simp only [Act.put, List.setIfInBounds_toArray, List.set_cons_zero, List.set_cons_succ, i64_w, i32_w]
                              rfl
                            refine pure_ (i := 9) (N := some 38) (v := ?_) (a' := ?_) #[true, true, false, true, true, false, false, false, true, true, false, false, false, false, false, false] rfl rfl (any_of HT_.out (by kernel_rfl)) (fun _ _ _ h => h) (Or.inl ⟨by rfl, ?_⟩) ?_ ?_
                            rotate_left
                            · intro w'
                              go_simp
                              with_reducible rfl
                            rotate_left
                            · simp only [Act.put, List.setIfInBounds_toArray, List.set_cons_zero, List.set_cons_succ, i64_w, i32_w]
                              rfl
                            refine pure_ (i := 10) (N := some 39) (v := ?_) (a' := ?_) #[true, true, false, true, true, false, false, false, true, true, true, false, false, false, false, false] rfl rfl (any_of HT_.out (by kernel_rfl)) (fun _ _ _ h => h) (Or.inl ⟨by rfl, ?_⟩) ?_ ?_
                            rotate_left
                            · intro w'
                              go_simp
                              with_reducible rfl
                            rotate_left
                            · simp only [Act.put, List.setIfInBounds_toArray, List.set_cons_zero, List.set_cons_succ, i64_w, i32_w]
                              rfl
                            refine pure_ (i := 11) (N := some 40) (v := ?_) (a' := ?_) #[true, true, false, true, true, false, false, false, true, true, true, true, false, false, false, false] rfl rfl (any_of HT_.out (by kernel_rfl)) (fun _ _ _ h => h) (Or.inl ⟨by rfl, ?_⟩) ?_ ?_
                            rotate_left
                            · intro w'
                              go_simp
                              with_reducible rfl
                            rotate_left
                            · simp only [Act.put, List.setIfInBounds_toArray, List.set_cons_zero, List.set_cons_succ, i64_w, i32_w]
                              rfl
                            refine take_ (i := 2) (N := some 31) (v := ?_) (a' := ?_) #[true, true, true, true, true, false, false, false, true, true, true, true, false, false, false, false] rfl rfl (take_ofW HT_.out HW_.out (by kernel_rfl)) (fun _ _ _ h => h) (Or.inl ⟨by rfl, ?_⟩) hHeld ?_ ?_
                            rotate_left
                            · rintro w' ⟨s0, s1, s2, s3, s4, s5, s6⟩
                              go_simp
                              with_reducible rfl
                            rotate_left
                            · simp only [Act.put, List.setIfInBounds_toArray, List.set_cons_zero, List.set_cons_succ, i64_w, i32_w]
                              rfl
                            refine take_ (i := 5) (N := some 34) (v := ?_) (a' := ?_) #[true, true, true, true, true, true, false, false, true, true, true, true, false, false, false, false] rfl rfl (take_ofW HT_.out HW_.out (by kernel_rfl)) (fun _ _ _ h => h) (Or.inl ⟨by rfl, ?_⟩) hHeld ?_ ?_
                            rotate_left
                            · rintro w' ⟨s0, s1, s2, s3, s4, s5, s6⟩
                              go_simp
                              with_reducible rfl
                            rotate_left
                            · simp only [Act.put, List.setIfInBounds_toArray, List.set_cons_zero, List.set_cons_succ, i64_w, i32_w]
                              rfl
                            refine pure_ (i := 6) (N := some 35) (v := ?_) (a' := ?_) #[true, true, true, true, true, true, true, false, true, true, true, true, false, false, false, false] rfl rfl (any_of HT_.out (by kernel_rfl)) (fun _ _ _ h => h) (Or.inl ⟨by rfl, ?_⟩) ?_ ?_
                            rotate_left
                            · intro w'
                              go_simp
                              with_reducible rfl
                            rotate_left
                            · simp only [Act.put, List.setIfInBounds_toArray, List.set_cons_zero, List.set_cons_succ, i64_w, i32_w]
                              rfl
                            refine take_ (i := 7) (N := some 36) (v := ?_) (a' := ?_) #[true, true, true, true, true, true, true, true, true, true, true, true, false, false, false, false] rfl rfl (take_ofW HT_.out HW_.out (by kernel_rfl)) (fun _ _ _ h => h) (Or.inl ⟨by rfl, ?_⟩) hHeld ?_ ?_
                            rotate_left
                            · rintro w' ⟨s0, s1, s2, s3, s4, s5, s6⟩
                              go_simp
                              with_reducible rfl
                            rotate_left
                            · simp only [Act.put, List.setIfInBounds_toArray, List.set_cons_zero, List.set_cons_succ, i64_w, i32_w]
                              rfl
                            refine take_ (i := 12) (N := some 41) (v := ?_) (a' := ?_) #[true, true, true, true, true, true, true, true, true, true, true, true, true, false, false, false] rfl rfl (take_ofW HT_.out HW_.out (by kernel_rfl)) (fun _ _ _ h => h) (Or.inl ⟨by rfl, ?_⟩) hHeld ?_ ?_
                            rotate_left
                            · rintro w' ⟨s0, s1, s2, s3, s4, s5, s6⟩
                              go_simp
                              with_reducible rfl
                            rotate_left
                            · simp only [Act.put, List.setIfInBounds_toArray, List.set_cons_zero, List.set_cons_succ, i64_w, i32_w]
                              rfl
                            refine pure_ (i := 13) (N := some 42) (v := ?_) (a' := ?_) #[true, true, true, true, true, true, true, true, true, true, true, true, true, true, false, false] rfl rfl (any_of HT_.out (by kernel_rfl)) (fun _ _ _ h => h) (Or.inl ⟨by rfl, ?_⟩) ?_ ?_
                            rotate_left
                            · intro w'
                              go_simp
                              with_reducible rfl
                            rotate_left
                            · simp only [Act.put, List.setIfInBounds_toArray, List.set_cons_zero, List.set_cons_succ, i64_w, i32_w]
                              rfl
                            refine pure_ (i := 14) (N := some 43) (v := ?_) (a' := ?_) #[true, true, true, true, true, true, true, true, true, true, true, true, true, true, true, false] rfl rfl (any_of HT_.out (by kernel_rfl)) (fun _ _ _ h => h) (Or.inl ⟨by rfl, ?_⟩) ?_ ?_
                            rotate_left
                            · intro w'
                              go_simp
                              with_reducible rfl
                            rotate_left
                            · simp only [Act.put, List.setIfInBounds_toArray, List.set_cons_zero, List.set_cons_succ, i64_w, i32_w]
                              rfl
                            refine last_ (i := 15) (N := none) #[true, true, true, true, true, true, true, true, true, true, true, true, true, true, true, true] rfl rfl (one_of HT_.out (by kernel_rfl)) (by decide) (fun K hK => ?_)
                            refine skip_ (w1 := ?_) (by rfl) rfl ?_ ?_
                            rotate_left
                            · go_simp
                              rfl
                            refine hK.out _ _ ?_
                            clear hK K
                            refine done_ (done_of HT_.out (by kernel_rfl)) ?_
                            try go_wp2
                            (try simp only [← hl5_2])
                            go_roundg k2
                            case measure => have := HK1.out; have := HK2.out; omega
                            case rel => exact ⟨(y109), (wrap64 (x21_2 + 1)), (by first | rfl | (simp; done) | (simp [*]; done) | (simp only [i64_w, i32_w]; done) | (simp [*, i64_w, i32_w]; done)), H', ⟨by have := HK1.out; have := HK2.out; omega⟩, ⟨by (try simp only [hl5_1]); (try simp only [hl5_2]); (with_reducible repeat (first | apply Kd.R_alloc | apply Kd.R_drewN | apply Kd.R_drew)); exact HQ26.out⟩, ⟨by repeat (first | (with_reducible first | exact HB.out | apply below_alloc | apply pw_below_drewN | apply below_drew1 | refine below_set ?_ GB21.out | refine below_set ?_ GE106.out) | exact HB.out)⟩⟩
                          · rw [if_neg c19] at H
                            exact absurd H (by simp)
                        · rw [if_neg c18] at H
                          exact absurd H (by simp)
                      · rw [if_neg c17] at H
                        exact absurd H (by simp)
                    · rw [if_neg c16] at H
                      have c16b0 : decide (0 < ((rd_T64 l1 x21_2).f1)) = false := decide_eq_false c16
                      (try (have c16r0 := c16b0; simp only [hl5_1, hl5_2] at c16r0))
                      clear c16
                      have H' := Aside0.mk H
                      clear H
                      have p105 : 0 ≤ (x21_2 : Int) := of_decide_eq_true (by first | (with_reducible assumption) | assumption)
                      have q105 : x21_2 < (l1.length : Int) := of_decide_eq_true (by first | (with_reducible assumption) | assumption)
                      obtain ⟨ad105, e105, hx105_0, hx105_1, hx105_2⟩ := at_T64 HR1.out x21_2 p105 q105
                      cases e105
                      replace hx105_0 := (HB.out.cell (World.block_lt_of_cell? w _ hx105_0)).trans hx105_0
                      replace hx105_1 := (HB.out.cell (World.block_lt_of_cell? w _ hx105_1)).trans hx105_1
                      replace hx105_2 := (HB.out.cell (World.block_lt_of_cell? w _ hx105_2)).trans hx105_2
                      replace p105 := eq_true p105
                      replace q105 := eq_true q105
                      go_wp2_with (first | ((with_reducible refine gate_dst (N := 8) rfl ?_); refine box_event ?hg (N := 8) ?hd (cs := #[.int .i64 0, .int .i64 0, .int .i64 0]) (t := 64) ?hr ?_; (case hd => rfl); (case hg => rfl); (case hr => first | (go_simp; done) | (go_simp; rfl)); intro gb106 hg w27 hbox hb; have n0_ := Aside0.mk (Kd.R_below (by (with_reducible repeat (first | apply Kd.R_alloc | apply Kd.R_drewN | apply Kd.R_drew)); exact HO_5.out) hb); have n1_ := Aside0.mk (below_step (by repeat (first | (with_reducible first | exact HB.out | apply below_alloc | apply pw_below_drewN | apply below_drew1) | exact HB.out)) hb); have n2_ := Aside0.mk (hbox); have n3_ := Aside0.mk ((by rw [hg]; exact (below_size (by repeat (first | (with_reducible first | exact HB.out | apply below_alloc | apply pw_below_drewN | apply below_drew1) | exact HB.out))) : w.heap.size ≤ gb106)); have n4_ := Aside0.mk ((by rw [hg]; exact (below_size (by repeat (first | (with_reducible first | exact HB.out | apply below_alloc | apply pw_below_drewN | apply below_drew1) | exact HB.out))) : w.heap.size ≤ gb106)); clear HO_5; clear HB; have HO_5 := n0_; have HB := n1_; have BK106 := n2_; have GW106 := n3_; have GE106 := n4_; clear n0_ n1_ n2_ n3_ n4_; clear hb hbox hg; have hcz28_0 : w27.cell? ⟨gb106, 0, none⟩ = some (.int .i64 0) := (blk_cell BK106.out 0).trans rfl; have hcz28_1 : w27.cell? ⟨gb106, 1, none⟩ = some (.int .i64 0) := (blk_cell BK106.out 1).trans rfl; have hcz28_2 : w27.cell? ⟨gb106, 2, none⟩ = some (.int .i64 0) := (blk_cell BK106.out 2).trans rfl; have hfz28_0 := blk_frozen BK106.out 0; have hfz28_1 := blk_frozen BK106.out 1; have hfz28_2 := blk_frozen BK106.out 2))
                      (try simp only [← hl5_2])
                      go_roundg k2
                      case measure => have := HK1.out; have := HK2.out; omega
                      case rel => exact ⟨(x5_2), (wrap64 (x21_2 + 1)), (by first | rfl | (simp; done) | (simp [*]; done) | (simp only [i64_w, i32_w]; done) | (simp [*, i64_w, i32_w]; done)), H', ⟨by have := HK1.out; have := HK2.out; omega⟩, ⟨by (try simp only [hl5_1]); (try simp only [hl5_2]); (with_reducible repeat (first | apply Kd.R_alloc | apply Kd.R_drewN | apply Kd.R_drew)); exact Kd.R_mono (Kd.R_far (p := ⟨gb106, 2, none⟩) (Kd.R_far (p := ⟨gb106, 1, none⟩) (Kd.R_far (p := ⟨gb106, 0, none⟩) (Kd.R_types HO_5.out BK106.out (by decide)) (fun _ hk => hk.2) (.int .i64 ((rd_T64 l1 x21_2).f0))) (fun _ hk => hk.2) (.int .i64 ((rd_T64 l1 x21_2).f1))) (fun _ hk => hk.2) (.int .i64 ((rd_T64 l1 x21_2).f2))) (fun _ hk => trivial)⟩, ⟨by repeat (first | (with_reducible first | exact HB.out | apply below_alloc | apply pw_below_drewN | apply below_drew1 | refine below_set ?_ GE106.out) | exact HB.out)⟩⟩
                  · rw [if_neg c15] at H
                    exact absurd H (by simp)
                · rw [if_neg c14] at H
                  exact absurd H (by simp)
              · rw [if_neg c13] at H
                have c13b0 : decide (x21_2 < (l1.length : Int)) = false := decide_eq_false c13
                (try (have c13r0 := c13b0; simp only [hl5_1, hl5_2] at c13r0))
                clear c13
                obtain rfl := Option.some.inj H
                go_wp2
                go_ret
                exact ⟨_, by first | rfl | (simp [errW_none, errW_some] <;> rfl) | (simp [*, errW_none, errW_some] <;> rfl), by (with_reducible repeat (first | apply Kd.R_alloc | apply Kd.R_drewN | apply Kd.R_drew)); exact HO_5.out, by repeat (first | (with_reducible first | exact HB.out | apply below_alloc | apply pw_below_drewN | apply below_drew1) | exact HB.out)⟩
  · rw [if_neg c3] at H
    exact absurd H (by simp)



/-! ### bits_Mul64: function 176 -/
def bits_Mul64.f (a0 : Int) (a1 : Int) : Option (Int × Int) := some (IntKind.u64.wrap ((IntKind.u64.wrap ((IntKind.u64.wrap ((a0 / 4294967296) * (a1 / 4294967296))) + ((IntKind.u64.wrap ((IntKind.u64.wrap ((a0 / 4294967296) * (Go.bits .and .u64 a1 4294967295))) + ((IntKind.u64.wrap ((Go.bits .and .u64 a0 4294967295) * (Go.bits .and .u64 a1 4294967295))) / 4294967296))) / 4294967296))) + ((IntKind.u64.wrap ((Go.bits .and .u64 (IntKind.u64.wrap ((IntKind.u64.wrap ((a0 / 4294967296) * (Go.bits .and .u64 a1 4294967295))) + ((IntKind.u64.wrap ((Go.bits .and .u64 a0 4294967295) * (Go.bits .and .u64 a1 4294967295))) / 4294967296))) 4294967295) + (IntKind.u64.wrap ((Go.bits .and .u64 a0 4294967295) * (a1 / 4294967296))))) / 4294967296)), IntKind.u64.wrap (a0 * a1))
set_option maxHeartbeats 8000000 in
set_option maxRecDepth 100000 in
theorem bits_Mul64.calls (a0 : Int) (a1 : Int) (r1 : Int) (r2 : Int) (w : World) (h : bits_Mul64.f a0 a1 = some (r1, r2)) :
    Calls Try.prog 176 #[.int .u64 a0, .int .u64 a1] w fun e w' => e = .returned (.tuple #[.int .u64 r1, .int .u64 r2]) ∧ Drawn0 w w' := by
  have H : (some (IntKind.u64.wrap ((IntKind.u64.wrap ((IntKind.u64.wrap ((a0 / 4294967296) * (a1 / 4294967296))) + ((IntKind.u64.wrap ((IntKind.u64.wrap ((a0 / 4294967296) * (Go.bits .and .u64 a1 4294967295))) + ((IntKind.u64.wrap ((Go.bits .and .u64 a0 4294967295) * (Go.bits .and .u64 a1 4294967295))) / 4294967296))) / 4294967296))) + ((IntKind.u64.wrap ((Go.bits .and .u64 (IntKind.u64.wrap ((IntKind.u64.wrap ((a0 / 4294967296) * (Go.bits .and .u64 a1 4294967295))) + ((IntKind.u64.wrap ((Go.bits .and .u64 a0 4294967295) * (Go.bits .and .u64 a1 4294967295))) / 4294967296))) 4294967295) + (IntKind.u64.wrap ((Go.bits .and .u64 a0 4294967295) * (a1 / 4294967296))))) / 4294967296)), IntKind.u64.wrap (a0 * a1))) = some (r1, r2) := h
  clear h
  simp only [Option.some.injEq, Prod.mk.injEq] at H
  obtain ⟨rfl, rfl⟩ := H
  go_enter Try.func176, Try.ntmps176
  go_wp2
  go_ret2
  exact ⟨by first | rfl | (simp; done) | (simp [*]; done) | (simp only [i64_w, i32_w]; done) | (simp [*, i64_w, i32_w]; done), by repeat (first | exact Drawn0.refl _ | apply Drawn0.step)⟩



/-! ### bits_Mul: function 168 -/
def bits_Mul.f (a0 : Int) (a1 : Int) : Option (Int × Int) := (bits_Mul64.f a0 a1).bind fun bt101 => (some (bt101.1, bt101.2))
set_option maxHeartbeats 8000000 in
set_option maxRecDepth 100000 in
theorem bits_Mul.calls (a0 : Int) (a1 : Int) (r1 : Int) (r2 : Int) (w : World) (h : bits_Mul.f a0 a1 = some (r1, r2)) :
    Calls Try.prog 168 #[.int .u64 a0, .int .u64 a1] w fun e w' => e = .returned (.tuple #[.int .u64 r1, .int .u64 r2]) ∧ Drawn0 w w' := by
  have H : ((bits_Mul64.f a0 a1).bind fun bt101 => (some (bt101.1, bt101.2))) = some (r1, r2) := h
  clear h
  replace H := Option.bind_eq_some_iff.mp H
  obtain ⟨⟨t101, t102⟩, A30, H⟩ := H
  replace H : (some (t101, t102)) = some (r1, r2) := H
  have A3 := Aside0.mk A30
  clear A30
  simp only [Option.some.injEq, Prod.mk.injEq] at H
  obtain ⟨rfl, rfl⟩ := H
  go_enter Try.func168, Try.ntmps168
  go_wp2_with (first | ((with_reducible refine gate_callee (f := 176) rfl ?_); refine goesL_ (some 25) rfl rfl Try.func176 (by kernel_rfl) rfl #[.int .u64 a0, .int .u64 a1] rfl (by (try simp only [List.map_toArray, List.map_cons, List.map_nil]); first | done | rfl | (simp only [List.length_drop, List.length_take]; rfl)) ?_; (with_reducible refine (bits_Mul64.calls a0 a1 t101 t102 _ A3.out).mono ?_); rintro e w' ⟨rfl, ⟨nd, rfl⟩⟩; refine ⟨_, rfl, ?_⟩))
  go_ret2
  exact ⟨by first | rfl | (simp; done) | (simp [*]; done) | (simp only [i64_w, i32_w]; done) | (simp [*, i64_w, i32_w]; done), by repeat (first | exact Drawn0.refl _ | apply Drawn0.step)⟩



/-! ### impl_none: function 79 (given) -/
open Go.Proofs.Ytonifhkplniblaa.Walk
def fillM (n m : Nat) : List Int := List.replicate m (-1) ++ List.replicate (n - m) 0
theorem fillM_len {n m : Nat} (h : m ≤ n) : (fillM n m).length = n := by unfold fillM; simp; omega
theorem fillM_step {n m q : Nat} (hq : q ≤ m) (hn : m + q ≤ n) : (fillM n m).take m ++ (fillM n m).take q ++ (fillM n m).drop (m + q) = fillM n (m + q) := by
  unfold fillM
  have e1 : (List.replicate m (-1 : Int) ++ List.replicate (n - m) 0).take m = List.replicate m (-1) := by rw [List.take_append_of_le_length (by simp)]; simp
  have e2 : (List.replicate m (-1 : Int) ++ List.replicate (n - m) 0).take q = List.replicate q (-1) := by rw [List.take_append_of_le_length (by simp; omega)]; simp; omega
  have e3 : (List.replicate m (-1 : Int) ++ List.replicate (n - m) 0).drop (m + q) = List.replicate (n - (m + q)) 0 := by
    rw [List.drop_append, List.drop_eq_nil_of_le (by simp), List.nil_append, List.length_replicate, List.drop_replicate]
    congr 1
    omega
  rw [e1, e2, e3, List.replicate_append_replicate]
theorem mul_one_n {n : Nat} (h : n ≤ 1000000) : bits_Mul.f 1 (n : Int) = some (0, (n : Int)) := by
  unfold bits_Mul.f bits_Mul64.f
  rw [and_low32 1 (by omega) (by omega), and_low32 (n : Int) (by omega) (by omega)]
  simp only [Option.bind_some]
  have e0 : (1 : Int) / 4294967296 = 0 := by decide
  have e1 : (1 : Int) % 4294967296 = 1 := by decide
  have e2 : (n : Int) / 4294967296 = 0 := by omega
  have e3 : (n : Int) % 4294967296 = n := by omega
  have w0 : IntKind.u64.wrap 0 = 0 := by decide
  have wn : IntKind.u64.wrap (n : Int) = n := by simp [IntKind.wrap, IntKind.signed, IntKind.bits]; omega
  simp only [e0, e1, e2, e3, Int.zero_mul, Int.one_mul, Int.mul_zero, Int.add_zero, Int.zero_add, w0, wn]
  rw [and_low32 0 (by omega) (by omega)]
  simp only [show (0 : Int) % 4294967296 = 0 by decide, show (0 : Int) / 4294967296 = 0 by decide, Int.add_zero, w0]
theorem fill0 (n : Nat) : ([-1] : List Int).take (min 1 (List.replicate n (0 : Int)).length) ++ (List.replicate n (0 : Int)).drop (min 1 (List.replicate n (0 : Int)).length) = fillM n (min 1 n) := by
  rw [List.length_replicate]
  cases n with
  | zero => rfl
  | succ n => rw [Nat.min_eq_left (by omega)]; rfl
theorem fillN (n : Nat) : fillM n n = List.replicate n (-1) := by unfold fillM; simp
def RepT9 : Bool × List (List Nat × List Nat) := (true, [([], []), ([], []), ([], []), ([1, 2], [1, 2]), ([], []), ([], []), ([4, 5], [4, 5]), ([3, 6], [3, 6]), ([0, 7], [0, 7]), ([8, 7, 0, 1, 2, 3, 4, 5, 6, 7, 8], [0, 2, 5, 8])])
theorem RepTab9 : rtab .any (opsOf Try.f147 9) = RepT9 := by kernel_rfl
set_option maxHeartbeats 2000000 in
set_option maxRecDepth 100000 in
theorem Repeat_any (A1 : Option Addr) (c1 : Nat) (n : Nat) (w : World) (hr1 : Kd.C (Kd.int .i64) w A1 1 [-1]) (hc1 : 1 ≤ c1) (hn : n ≤ 1000000) :
    Calls Try.prog 147 #[.slice A1 1 c1, .int .i64 n] w fun e w' => ∃ v0_ : Value, e = .returned v0_ ∧ Kd.R (Kd.int .i64) 3 w' w.heap.size (fun _ => True) v0_ (List.replicate n (-1)) ∧ Below w.heap.size w w' := by
  have hm := mul_one_n hn
  have HM := Lib.hid (fun W => bits_Mul.calls 1 (n : Int) 0 (n : Int) W hm)
  have HR1 := Aside0.mk hr1
  have HB := Aside0.mk (Below.refl w.heap.size w)
  have HN := Lib.hid hn
  have q0 : 0 ≤ (n : Int) := by omega
  have q1 : decide ((n : Int) < 0) = false := decide_eq_false (by omega)
  have q2 : decide ((n : Int) > 9223372036854775807) = false := decide_eq_false (by omega)
  have wn : IntKind.u64.wrap (n : Int) = n := by simp [IntKind.wrap, IntKind.signed, IntKind.bits]; omega
  have wi : IntKind.i64.wrap (n : Int) = n := by simp [IntKind.wrap, IntKind.signed, IntKind.bits]; omega
  have hinf : (Try.prog.info? 3).map (fun i => i.size) = some 1 := by kernel_rfl
  clear hm hr1 hc1 hn
  go_enter Try.func147, Try.ntmps147
  go_wp2_with (first | (go_at_call 168; refine (HM.out _).mono ?_; rintro e w2 ⟨rfl, hd⟩; obtain ⟨m, rfl⟩ := hd.out; clear hd) | ((with_reducible refine gate_dst (N := 30) rfl ?_); refine Kd.R_make (Kd.int .i64) _ 3 rfl (N := 30) rfl 30 _ _ rfl (n : Int) rfl rfl Try.underlying30 (.int .i64 0) 8 info3 rfl (by decide) (by omega) 0 (ok := fun _ => True) (okp := fun _ => True) rfl (fun _ hk => hk) trivial q0 (Nat.le_trans (Nat.mul_le_mul_right _ (show ((n : Int)).toNat ≤ 35184372088832 by have := HN.out; omega)) (by omega)) (Below.refl _ _) (Nat.le_refl _) ?_; intro v102 w6 ho7 hb hg_ hnew_; clear hg_ hnew_; simp only [Int.toNat_natCast] at ho7; have n0_ := Aside0.mk (Kd.R_lower ho7 (below_size (by repeat (first | (with_reducible first | exact HB.out | apply below_alloc | apply pw_below_drewN | apply below_drew1) | exact HB.out)))); have n1_ := Aside0.mk (below_step (by repeat (first | (with_reducible first | exact HB.out | apply below_alloc | apply pw_below_drewN | apply below_drew1) | exact HB.out)) hb); clear HB; have HO := n0_; have HB := n1_; clear n0_ n1_ ho7 hb; obtain ⟨A7, c7, rfl⟩ := Kd.R_slice HO.out; simp only [List.length_replicate] at HO ⊢) | ((with_reducible refine gate_builtin (b := .copy) (xs := #[.tmp 31, .tmp 32]) rfl ?_); refine Kd.R_copy (enc := Value.int .i64) (h1 := fun _ => rfl) (0 : Int) (w0 := w) w.heap.size rfl (.tmp 31) (.tmp 32) 30 30 3 rfl Try.underlying30 hinf _ (List.replicate n (0 : Int)) ([-1] : List Int) A1 1 c1 (fun _ => True) rfl rfl ?hO ?hR ?hB ?hS ?_; (case hO => exact HO.out); (case hR => exact Kd.C_below HR1.out (by repeat (first | (with_reducible first | exact HB.out | apply below_alloc | apply pw_below_drewN | apply below_drew1) | exact HB.out))); (case hB => exact (by repeat (first | (with_reducible first | exact HB.out | apply below_alloc | apply pw_below_drewN | apply below_drew1) | exact HB.out))); (case hS => exact (below_size (by repeat (first | (with_reducible first | exact HB.out | apply below_alloc | apply pw_below_drewN | apply below_drew1) | exact HB.out)))); intro w7 ho hb hg; rw [fill0] at ho; simp only [List.length_replicate]; have n0_ := Aside0.mk ho; have n1_ := Aside0.mk hb; clear HO HB; have HO := n0_; have HB := n1_; clear n0_ n1_ ho hb hg))
  go_loopw [8] (fun v8 w' => ∃ m : Nat, v8 = .int .i64 m ∧ Aside0 (m ≤ n ∧ (0 < n → 0 < m)) ∧ Aside0 (Kd.R (Kd.int .i64) 3 w' w.heap.size (fun _ => True) (.slice A7 n c7) (fillM n m)) ∧ Aside0 (Below w.heap.size w w')) (fun v8 _ => n - (intOf v8).toNat)
  case atStart => exact ⟨min 1 n, rfl, ⟨by omega, by omega⟩, HO, HB⟩
  case round =>
    clear HB HO
    obtain ⟨m, rfl, ⟨HJ⟩, HO, HB⟩ := hrel
    by_cases hlt : m < n
    · have b1 : decide ((m : Int) < (n : Int)) = true := decide_eq_true (by omega)
      have hml : (fillM n m).length = n := fillM_len HJ.1
      obtain ⟨g, cap, e1, hge, hglt, _⟩ := Kd.R_form HO.out (by rw [hml]; omega)
      injection e1 with e1 e2 e3
      subst e1 e3
      have hpos : 1 ≤ m := by have := HJ.2; omega
      have hcap := (Kd.R_reads' HO.out).2.1
      have HLT := Lib.hid hlt
      have HPOS := Lib.hid hpos
      have HCAP := Lib.hid hcap
      have HJA := Lib.hid HJ
      have HGE := Lib.hid hge
      have p1 : 0 ≤ (m : Int) := by omega
      have p2 : (m : Int) ≤ (n : Int) := by omega
      have p3 : (m : Int) ≤ (c7 : Int) := by omega
      have p4 : m ≤ n := by omega
      have p5 : m ≤ c7 := by omega
      have p6 : ¬ c7 = m := by omega
      clear hml e2 hge hglt hpos hcap HJ hlt
      go_wp2_with fail
      refine start_ (n := 10) (S := fun _ => True) (ds := []) #[false, false, false, false, false, false, false, false, false, false] (by kernel_rfl) rfl rfl trivial (fun _ => ?_)
      have HT_ := RepTab9
      have HO2 := Aside0.mk (Kd.R_drew HO.out)
      have HB2 := Aside0.mk (below_drew1 HB.out)
      clear HO HB
      generalize wr.drew = w2 at HO2 HB2 ⊢
      refine pure_ (i := 0) (N := some 38) (v := ?_) (a' := ?_) #[true, false, false, false, false, false, false, false, false, false] rfl rfl (any_of HT_ (by kernel_rfl)) (fun _ _ _ h => h) (Or.inl ⟨by rfl, ?_⟩) ?_ ?_
      rotate_left
      · intro w'
        go_simp
        with_reducible rfl
      rotate_left
      · simp only [Act.put, List.setIfInBounds_toArray, List.set_cons_zero, List.set_cons_succ, i64_w, i32_w]
        rfl
      refine pure_ (i := 1) (N := some 39) (v := ?_) (a' := ?_) #[true, true, false, false, false, false, false, false, false, false] rfl rfl (any_of HT_ (by kernel_rfl)) (fun _ _ _ h => h) (Or.inl ⟨by rfl, ?_⟩) ?_ ?_
      rotate_left
      · intro w'
        go_simp
        with_reducible rfl
      rotate_left
      · simp only [Act.put, List.setIfInBounds_toArray, List.set_cons_zero, List.set_cons_succ, i64_w, i32_w]
        rfl
      refine pure_ (i := 2) (N := some 40) (v := ?_) (a' := ?_) #[true, true, true, false, false, false, false, false, false, false] rfl rfl (any_of HT_ (by kernel_rfl)) (fun _ _ _ h => h) (Or.inl ⟨by rfl, ?_⟩) ?_ ?_
      rotate_left
      · intro w'
        go_simp
        with_reducible rfl
      rotate_left
      · simp only [Act.put, List.setIfInBounds_toArray, List.set_cons_zero, List.set_cons_succ, i64_w, i32_w]
        rfl
      refine pure_ (i := 4) (N := some 42) (v := ?_) (a' := ?_) #[true, true, true, false, true, false, false, false, false, false] rfl rfl (any_of HT_ (by kernel_rfl)) (fun _ _ _ h => h) (Or.inl ⟨by rfl, ?_⟩) ?_ ?_
      rotate_left
      · intro w'
        go_simp
        with_reducible rfl
      rotate_left
      · simp only [Act.put, List.setIfInBounds_toArray, List.set_cons_zero, List.set_cons_succ, i64_w, i32_w]
        rfl
      refine pure_ (i := 5) (N := some 43) (v := ?_) (a' := ?_) #[true, true, true, false, true, true, false, false, false, false] rfl rfl (any_of HT_ (by kernel_rfl)) (fun _ _ _ h => h) (Or.inl ⟨by rfl, ?_⟩) ?_ ?_
      rotate_left
      · intro w'
        go_simp
        with_reducible rfl
      rotate_left
      · simp only [Act.put, List.setIfInBounds_toArray, List.set_cons_zero, List.set_cons_succ, i64_w, i32_w]
        rfl
      refine pure_ (i := 3) (N := some 41) (v := ?_) (a' := ?_) #[true, true, true, true, true, true, false, false, false, false] rfl rfl (any_of HT_ (by kernel_rfl)) (fun _ _ _ h => h) (Or.inl ⟨by rfl, ?_⟩) ?_ ?_
      rotate_left
      · intro w'
        go_simp
        with_reducible rfl
      rotate_left
      · simp only [Act.put, List.setIfInBounds_toArray, List.set_cons_zero, List.set_cons_succ, i64_w, i32_w]
        rfl
      refine pure_ (i := 6) (N := some 44) (v := ?_) (a' := ?_) #[true, true, true, true, true, true, true, false, false, false] rfl rfl (any_of HT_ (by kernel_rfl)) (fun _ _ _ h => h) (Or.inl ⟨by rfl, ?_⟩) ?_ ?_
      rotate_left
      · intro w'
        go_simp
        with_reducible rfl
      rotate_left
      · simp only [Act.put, List.setIfInBounds_toArray, List.set_cons_zero, List.set_cons_succ, i64_w, i32_w]
        rfl
      obtain ⟨w1, hr, hR, hB1⟩ := copy_at (0 : Int) (P := Try.prog) (w0 := w) (base := w.heap.size) 30 30 3 Try.underlying30 hinf HO2.out (fillM_len HJA.out.1) HPOS.out HLT.out HB2.out (below_size HB2.out)
      obtain ⟨q, hq⟩ : ∃ q, q = min m (n - m) := ⟨_, rfl⟩
      rw [← hq] at hr hR
      have hj := HJA.out.1
      have hl := HLT.out
      have hp := HPOS.out
      rw [fillM_step (by omega) (by omega)] at hR
      have HQ := Lib.hid (show 1 ≤ q ∧ m + q ≤ n by omega)
      have HO := Aside0.mk hR
      have HB := Aside0.mk hB1
      clear hq hj hl hp hR hB1 HO2 HB2
      refine one_ (i := 7) (N := some 45) #[true, true, true, true, true, true, true, true, false, false] rfl rfl (one_of HT_ (by kernel_rfl)) (by decide) (fun K hK => ?_)
      refine event_stepN (v := .int .i64 ((q : Nat) : Int)) (w1 := w1) (by rfl) rfl ?_ ?_
      · go_simp
      refine hK.out _ _ trivial (fun _ => ?_)
      clear hK K
      simp only [Act.put, List.setIfInBounds_toArray, List.set_cons_zero, List.set_cons_succ, i64_w, i32_w]
      refine pure_ (i := 8) (N := some 46) (v := ?_) (a' := ?_) #[true, true, true, true, true, true, true, true, true, false] rfl rfl (any_of HT_ (by kernel_rfl)) (fun _ _ _ h => h) (Or.inl ⟨by rfl, ?_⟩) ?_ ?_
      rotate_left
      · intro w'
        go_simp
        with_reducible rfl
      rotate_left
      · simp only [Act.put, List.setIfInBounds_toArray, List.set_cons_zero, List.set_cons_succ, i64_w, i32_w]
        rfl
      refine pure_ (i := 9) (N := some 8) (v := ?_) (a' := ?_) #[true, true, true, true, true, true, true, true, true, true] rfl rfl (any_of HT_ (by kernel_rfl)) (fun _ _ _ h => h) (Or.inl ⟨by rfl, ?_⟩) ?_ ?_
      rotate_left
      · intro w'
        go_simp
        with_reducible rfl
      rotate_left
      · simp only [Act.put, List.setIfInBounds_toArray, List.set_cons_zero, List.set_cons_succ, i64_w, i32_w]
        rfl
      refine done_ (done_of HT_ (by kernel_rfl)) ?_
      have hw : wrap64 ((m : Int) + (q : Int)) = ((m + q : Nat) : Int) := by have := HQ.out; have := HN.out; unfold wrap64; omega
      rw [hw]
      try go_wp2
      go_roundw
      case rel => exact ⟨m + q, rfl, ⟨by have := HQ.out; omega, by have := HQ.out; omega⟩, HO, HB⟩
      case measure => have := HQ.out; have := HLT.out; simp [intOf]; omega
    · have b1 : decide ((m : Int) < (n : Int)) = false := decide_eq_false (by omega)
      have hmn : m = n := by omega
      subst hmn
      rw [fillN] at HO
      go_wp2
      go_ret
      exact ⟨_, rfl, by (with_reducible repeat (first | apply Kd.R_alloc | apply Kd.R_drewN | apply Kd.R_drew)); exact HO.out, by repeat (first | (with_reducible first | exact HB.out | apply below_alloc | apply pw_below_drewN | apply below_drew1) | exact HB.out)⟩
def impl_none.f (a0 : Int) : Option (List Int) := if 0 ≤ a0 ∧ a0 ≤ 1000000 then some (List.replicate a0.toNat (-1)) else none
theorem impl_none.calls (a0 : Int) (r : List Int) (w : World) (h : impl_none.f a0 = some r) :
    Calls Try.prog 79 #[.int .i64 a0] w fun e w' => ∃ v0_ : Value, e = .returned v0_ ∧ Kd.R (Kd.int .i64) 3 w' w.heap.size (fun _ => True) v0_ r ∧ Below w.heap.size w w' := by
  unfold impl_none.f at h
  split at h
  · rename_i hc
    obtain rfl := Option.some.inj h
    obtain ⟨n, rfl⟩ := Int.eq_ofNat_of_zero_le hc.1
    simp only [Int.toNat_natCast]
    have hn : n ≤ 1000000 := by omega
    have HN := Lib.hid hn
    have HB := Aside0.mk (Below.refl w.heap.size w)
    have hC : Kd.C (Kd.int .i64) (w.alloc (.cells #[.int .i64 (-1)] 3)) (some ⟨w.heap.size, 0, none⟩) 1 [-1] := by
      refine Kd.C_of_reads (enc := Value.int .i64) (d := (0 : Int)) (h1 := fun _ => rfl) ⟨rfl, by decide, fun _ => ⟨_, rfl, fun j hj => ?_⟩⟩
      obtain rfl : j = 0 := by omega
      show (w.alloc _).cell? ⟨w.heap.size, 0, none⟩ = _
      rw [World.cell?_alloc_at _ _ _ _ rfl]
      rfl
    have HRR := Lib.hid (Repeat_any _ 1 n _ hC (Nat.le_refl _) hn)
    have hB0 : Below w.heap.size w (w.alloc (.cells #[.int .i64 (-1)] 3)) := below_alloc (Below.refl _ _) _
    have HB0 := Lib.hid hB0
    clear hc hn h hC hB0 HB
    go_enter Try.func79, Try.ntmps79
    go_wp2_with (go_at_call 147; refine HRR.out.mono ?_; rintro e w2 ⟨v, rfl, ho, hb⟩; have HO := Aside0.mk (Kd.R_lower ho HB0.out.size); have HB := Aside0.mk (below_step HB0.out hb); clear ho hb)
    go_ret
    exact ⟨_, rfl, HO.out, HB.out⟩
  · cases h



/-! ### impl_SectionsValid: function 107 (given) -/
open Go.Proofs.Ytonifhkplniblaa.Walk
theorem eqA64 (d : Nat) (w : World) (x0 y0 : Int) (x1 y1 : Int) (x2 y2 : Int) :
    (Op.equalIn (d + 2) 64 (.agg #[.int .i64 x0, .int .i64 x1, .int .i64 x2]) (.agg #[.int .i64 y0, .int .i64 y1, .int .i64 y2])).run Try.prog w = .ok (x0 == y0 && (x1 == y1 && (x2 == y2))) w := by
  refine eqA_of Try.underlying64 (by kernel_rfl) ?_
  refine eqf_cons (by rfl) (by go_simp; rfl) (by go_simp; rfl) (by go_simp) ?_
  refine eqf_cons (by rfl) (by go_simp; rfl) (by go_simp; rfl) (by go_simp) ?_
  exact eqf_last (by rfl) (by go_simp; rfl) (by go_simp; rfl) (by go_simp)
attribute [local go_sem high] eqA64
theorem in_quiet (a b c : Int) (W : World) : Calls Try.prog 105 #[.int .i64 a, .int .i64 b, .int .i64 c] W fun e w' => e = .returned (.bool (decide (b ≤ a ∧ a ≤ c))) ∧ ∃ m, w' = W.drewN m := by
  have h : impl_in.f a b c = some (decide (b ≤ a ∧ a ≤ c)) := by
    unfold impl_in.f
    by_cases h : a ≥ b
    · have h' : b ≤ a := h
      simp [h, h']
    · have h' : ¬ b ≤ a := h
      simp [h, h']
  refine (impl_in.calls a b c _ W h).mono ?_
  rintro e w' ⟨rfl, hd⟩
  exact ⟨rfl, hd.out⟩
def secBad (x : S64) (t : S62) : Bool := decide (x.f1 = 0 ∧ ¬ (x.f0 = 0 ∧ x.f2 = 0)) || (!decide (0 ≤ x.f1 ∧ x.f1 ≤ t.f0) || (!decide (0 ≤ x.f0 ∧ x.f0 ≤ wrap64 (t.f0 - x.f1)) || !decide (0 ≤ x.f2 ∧ x.f2 ≤ 2)))
def impl_SectionsValid.l0 : Nat → List (S62) → List (S64) → Nat → Bool
  | 0, _, _, _ => true
  | n + 1, s, l, j => if secBad (l.getD j z64) (s.getD j z62) = true then false else impl_SectionsValid.l0 n s l (j + 1)
def impl_SectionsValid.f (k : Nat) (l0 : List (S62)) (l1 : List (S64)) : Option Bool := (impl_SetValid.f l0).bind fun b => some (b && (decide (l1.length = l0.length) && impl_SectionsValid.l0 l1.length l0 l1 0))
theorem impl_SectionsValid.mono : ∀ a0 a1 k, LeO (impl_SectionsValid.f k a0 a1) (impl_SectionsValid.f (k + 1) a0 a1) := fun _ _ _ => LeO.refl _
set_option maxHeartbeats 4000000 in
set_option maxRecDepth 100000 in
theorem impl_SectionsValid.calls (k : Nat) (A0 : Option Addr) (c0 : Nat) (l0 : List (S62)) (A1 : Option Addr) (c1 : Nat) (l1 : List (S64)) (r : Bool) (w : World) (hr0 : Kd.C k62 w A0 l0.length l0) (hc0 : l0.length ≤ c0) (hr1 : Kd.C k64 w A1 l1.length l1) (hc1 : l1.length ≤ c1) (h : impl_SectionsValid.f k l0 l1 = some r) :
    Calls Try.prog 107 #[.slice A0 l0.length c0, .slice A1 l1.length c1] w fun e w' => e = .returned (.bool r) ∧ Below w.heap.size w w' := by
  unfold impl_SectionsValid.f at h
  obtain ⟨b, hb⟩ : ∃ b, impl_SetValid.f l0 = some b := by
    cases hs : impl_SetValid.f l0 with
    | none => rw [hs] at h; cases h
    | some b => exact ⟨b, rfl⟩
  rw [hb, Option.bind_some] at h
  obtain rfl := Option.some.inj h
  clear h
  have HS := Lib.hid (impl_SetValid.calls A0 c0 l0 b w hr0 hc0 hb)
  cases b with
  | false =>
    clear hr0 hc0 hr1 hc1 hb
    go_enter Try.func107, Try.ntmps107
    go_wp2_with (go_at_call 97; refine HS.out.mono ?_; rintro e w2 ⟨rfl, hb2⟩)
    go_ret
    exact ⟨by simp, hb2⟩
  | true =>
    by_cases h2 : l1.length = l0.length
    · have h2b : ((l1.length : Int) == (l0.length : Int)) = true := by rw [beq_iff_eq]; omega
      have h2c : ((l1.length : Int) != (l0.length : Int)) = false := by rw [bne_eq_false_iff_eq]; omega
      have h2d : (l1.length == l0.length) = true := by rw [beq_iff_eq]; exact h2
      have h2e : (l1.length != l0.length) = false := by rw [bne_eq_false_iff_eq]; exact h2
      have H2 := Lib.hid h2
      have HR0 := Aside0.mk hr0
      have HR1 := Aside0.mk hr1
      have hmx : l1.length ≤ 9223372036854775807 := hr1.2.1
      clear hr0 hc0 hr1 hc1 hb h2
      go_enter Try.func107, Try.ntmps107
      go_wp2_with (go_at_call 97; refine HS.out.mono ?_; rintro e w2 ⟨rfl, hb2⟩; have HB := Aside0.mk hb2; clear hb2)
      go_loopw [19] (fun v19 w' => ∃ j : Nat, v19 = .int .i64 j ∧ Aside0 (j ≤ l1.length ∧ impl_SectionsValid.l0 l1.length l0 l1 0 = impl_SectionsValid.l0 (l1.length - j) l0 l1 j) ∧ Aside0 (Below w.heap.size w w')) (fun v19 _ => l1.length - (intOf v19).toNat)
      case atStart => exact ⟨0, rfl, ⟨Nat.zero_le _, rfl⟩, HB⟩
      case round =>
        clear HB
        obtain ⟨j, rfl, ⟨HJ⟩, HB⟩ := hrel
        by_cases hlt : j < l1.length
        · have b1 : decide ((j : Int) < (l1.length : Int)) = true := decide_eq_true (by omega)
          have hlt0 : j < l0.length := by have := H2.out; omega
          obtain ⟨ad1, e1, hx0, hx1, hx2⟩ := at_T64 HR1.out (j : Int) (by omega) (by omega)
          cases e1
          obtain ⟨ad0, e0, hy0, hy1, hy2⟩ := at_T62 HR0.out (j : Int) (by omega) (by omega)
          cases e0
          replace hx0 := (HB.out.cell (World.block_lt_of_cell? w _ hx0)).trans hx0
          replace hx1 := (HB.out.cell (World.block_lt_of_cell? w _ hx1)).trans hx1
          replace hx2 := (HB.out.cell (World.block_lt_of_cell? w _ hx2)).trans hx2
          replace hy0 := (HB.out.cell (World.block_lt_of_cell? w _ hy0)).trans hy0
          simp only [Int.toNat_natCast] at hx0 hx1 hx2 hy0
          have hrd : rd_T64 l1 (j : Int) = l1.getD j z64 := rfl
          have hrd2 : rd_T62 l0 (j : Int) = l0.getD j z62 := rfl
          rw [hrd] at hx0 hx1 hx2
          rw [hrd2] at hy0
          obtain ⟨x, hx⟩ : ∃ x, x = l1.getD j z64 := ⟨_, rfl⟩
          obtain ⟨y, hy⟩ : ∃ y, y = l0.getD j z62 := ⟨_, rfl⟩
          rw [← hx] at hx0 hx1 hx2
          rw [← hy] at hy0
          have hstep : impl_SectionsValid.l0 (l1.length - j) l0 l1 j = if secBad x y = true then false else impl_SectionsValid.l0 (l1.length - (j + 1)) l0 l1 (j + 1) := by
            obtain ⟨d, hd⟩ : ∃ d, l1.length - j = d + 1 := ⟨l1.length - j - 1, by omega⟩
            rw [hd, show l1.length - (j + 1) = d by omega, hx, hy]
            rfl
          have HST := Aside0.mk hstep
          have HJA := Aside0.mk HJ
          have q0 : 0 ≤ (j : Int) := by omega
          have q1 : (j : Int) < (l1.length : Int) := by omega
          have q2 : (j : Int) < (l0.length : Int) := by omega
          clear hstep HJ hx hy hrd hrd2 hy1 hy2
          obtain ⟨xa, xb, xc⟩ := x
          obtain ⟨ya, yb, yc⟩ := y
          obtain ⟨b1, hb1⟩ : ∃ b, b = decide (0 ≤ xb ∧ xb ≤ ya) := ⟨_, rfl⟩
          obtain ⟨b2, hb2⟩ : ∃ b, b = decide (0 ≤ xa ∧ xa ≤ wrap64 (ya - xb)) := ⟨_, rfl⟩
          obtain ⟨b3, hb3⟩ : ∃ b, b = decide (0 ≤ xc ∧ xc ≤ 2) := ⟨_, rfl⟩
          have hyA : (wr.alloc (.cells #[.int .i64 xa, .int .i64 xb, .int .i64 xc] 64)).cell? (ad0.add (j * 3)) = some (.int .i64 ya) := ((below_alloc (Below.refl _ _) _).cell (World.block_lt_of_cell? _ _ hy0)).trans hy0
          have Q1 := Lib.hid (fun W => hb1 ▸ in_quiet xb 0 ya W)
          have Q2 := Lib.hid (fun W => hb2 ▸ in_quiet xa 0 (wrap64 (ya - xb)) W)
          have Q3 := Lib.hid (fun W => hb3 ▸ in_quiet xc 0 2 W)
          by_cases hA : xb = 0 ∧ ¬ (xa = 0 ∧ xc = 0)
          · have e1 : (xb == 0) = true := by rw [beq_iff_eq]; exact hA.1
            have e3 : (!(xa == 0) || !(xc == 0)) = true := by simp only [Bool.or_eq_true, Bool.not_eq_true', beq_eq_false_iff_ne, ne_eq]; omega
            have HA := Lib.hid (show secBad ⟨xa, xb, xc⟩ ⟨ya, yb, yc⟩ = true by unfold secBad; rw [decide_eq_true hA, Bool.true_or])
            clear hA hb1 hb2 hb3
            ((go_wp2_with fail; go_quiet ((go_at_call 105; with_reducible first | exact Calls.quiet_of (Q1.out _) | exact Calls.quiet_of (Q2.out _) | exact Calls.quiet_of (Q3.out _) | (rw [i64_w]; exact Calls.quiet_of (Q2.out _)))); go_wp2_with fail))
            ((go_ret; refine ⟨?_, pw_below_drewN (below_alloc HB.out _) _⟩; rw [HJA.out.2, HST.out, HA.out]; simp))
          · have hs : secBad ⟨xa, xb, xc⟩ ⟨ya, yb, yc⟩ = (!b1 || (!b2 || !b3)) := by unfold secBad; rw [decide_eq_false hA, Bool.false_or, hb1, hb2, hb3]
            have HS2 := Lib.hid hs
            by_cases hx : xb = 0
            · have e1 : (xb == 0) = true := by rw [beq_iff_eq]; exact hx
              have e3 : (!(xa == 0) || !(xc == 0)) = false := by simp only [Bool.or_eq_false_iff, Bool.not_eq_false', beq_iff_eq]; omega
              clear hA hb1 hb2 hb3 hs hx
              cases b1 with
              | false => ((go_wp2_with fail; go_quiet ((go_at_call 105; with_reducible first | exact Calls.quiet_of (Q1.out _) | exact Calls.quiet_of (Q2.out _) | exact Calls.quiet_of (Q3.out _) | (rw [i64_w]; exact Calls.quiet_of (Q2.out _)))); go_wp2_with fail)); ((go_ret; refine ⟨?_, pw_below_drewN (below_alloc HB.out _) _⟩; rw [HJA.out.2, HST.out, HS2.out]; simp))
              | true =>
                cases b2 with
                | false => ((go_wp2_with fail; go_quiet ((go_at_call 105; with_reducible first | exact Calls.quiet_of (Q1.out _) | exact Calls.quiet_of (Q2.out _) | exact Calls.quiet_of (Q3.out _) | (rw [i64_w]; exact Calls.quiet_of (Q2.out _)))); go_wp2_with fail)); ((go_ret; refine ⟨?_, pw_below_drewN (below_alloc HB.out _) _⟩; rw [HJA.out.2, HST.out, HS2.out]; simp))
                | true =>
                  cases b3 with
                  | false => ((go_wp2_with fail; go_quiet ((go_at_call 105; with_reducible first | exact Calls.quiet_of (Q1.out _) | exact Calls.quiet_of (Q2.out _) | exact Calls.quiet_of (Q3.out _) | (rw [i64_w]; exact Calls.quiet_of (Q2.out _)))); go_wp2_with fail)); ((go_ret; refine ⟨?_, pw_below_drewN (below_alloc HB.out _) _⟩; rw [HJA.out.2, HST.out, HS2.out]; simp))
                  | true => ((go_wp2_with fail; go_quiet ((go_at_call 105; with_reducible first | exact Calls.quiet_of (Q1.out _) | exact Calls.quiet_of (Q2.out _) | exact Calls.quiet_of (Q3.out _) | (rw [i64_w]; exact Calls.quiet_of (Q2.out _)))); go_wp2_with fail)); ((refine ⟨⟨j + 1, by simp, ⟨by omega, ?_⟩, ⟨pw_below_drewN (below_alloc HB.out _) _⟩⟩, ?_⟩; (rw [HJA.out.2, HST.out, HS2.out]; rfl); (show l1.length - ((j : Int) + 1).toNat < l1.length - (j : Int).toNat); omega))
            · have e1 : (xb == 0) = false := by rw [beq_eq_false_iff_ne]; exact hx
              clear hA hb1 hb2 hb3 hs hx
              cases b1 with
              | false => ((go_wp2_with fail; go_quiet ((go_at_call 105; with_reducible first | exact Calls.quiet_of (Q1.out _) | exact Calls.quiet_of (Q2.out _) | exact Calls.quiet_of (Q3.out _) | (rw [i64_w]; exact Calls.quiet_of (Q2.out _)))); go_wp2_with fail)); ((go_ret; refine ⟨?_, pw_below_drewN (below_alloc HB.out _) _⟩; rw [HJA.out.2, HST.out, HS2.out]; simp))
              | true =>
                cases b2 with
                | false => ((go_wp2_with fail; go_quiet ((go_at_call 105; with_reducible first | exact Calls.quiet_of (Q1.out _) | exact Calls.quiet_of (Q2.out _) | exact Calls.quiet_of (Q3.out _) | (rw [i64_w]; exact Calls.quiet_of (Q2.out _)))); go_wp2_with fail)); ((go_ret; refine ⟨?_, pw_below_drewN (below_alloc HB.out _) _⟩; rw [HJA.out.2, HST.out, HS2.out]; simp))
                | true =>
                  cases b3 with
                  | false => ((go_wp2_with fail; go_quiet ((go_at_call 105; with_reducible first | exact Calls.quiet_of (Q1.out _) | exact Calls.quiet_of (Q2.out _) | exact Calls.quiet_of (Q3.out _) | (rw [i64_w]; exact Calls.quiet_of (Q2.out _)))); go_wp2_with fail)); ((go_ret; refine ⟨?_, pw_below_drewN (below_alloc HB.out _) _⟩; rw [HJA.out.2, HST.out, HS2.out]; simp))
                  | true => ((go_wp2_with fail; go_quiet ((go_at_call 105; with_reducible first | exact Calls.quiet_of (Q1.out _) | exact Calls.quiet_of (Q2.out _) | exact Calls.quiet_of (Q3.out _) | (rw [i64_w]; exact Calls.quiet_of (Q2.out _)))); go_wp2_with fail)); ((refine ⟨⟨j + 1, by simp, ⟨by omega, ?_⟩, ⟨pw_below_drewN (below_alloc HB.out _) _⟩⟩, ?_⟩; (rw [HJA.out.2, HST.out, HS2.out]; rfl); (show l1.length - ((j : Int) + 1).toNat < l1.length - (j : Int).toNat); omega))
        · have b1 : decide ((j : Int) < (l1.length : Int)) = false := decide_eq_false (by omega)
          have HJA := Lib.hid (show impl_SectionsValid.l0 l1.length l0 l1 0 = true by rw [HJ.2, show l1.length - j = 0 by omega]; rfl)
          have b2 : decide (j < l1.length) = false := decide_eq_false hlt
          clear HJ
          go_wp2_with fail
          go_ret
          exact ⟨by rw [HJA.out, decide_eq_true H2.out]; rfl, HB.out⟩
    · have h2b : ((l1.length : Int) == (l0.length : Int)) = false := by rw [beq_eq_false_iff_ne]; omega
      have h2c : ((l1.length : Int) != (l0.length : Int)) = true := by rw [bne_iff_ne]; omega
      have h2d : (l1.length == l0.length) = false := by rw [beq_eq_false_iff_ne]; exact h2
      have h2e : (l1.length != l0.length) = true := by rw [bne_iff_ne]; exact h2
      have H2 := Lib.hid h2
      clear hr0 hc0 hr1 hc1 hb h2
      go_enter Try.func107, Try.ntmps107
      go_wp2_with (go_at_call 97; refine HS.out.mono ?_; rintro e w2 ⟨rfl, hb2⟩)
      go_ret
      exact ⟨by simp [H2.out], hb2⟩

end Go.Proofs.Ytonifhkplniblaa.Print
