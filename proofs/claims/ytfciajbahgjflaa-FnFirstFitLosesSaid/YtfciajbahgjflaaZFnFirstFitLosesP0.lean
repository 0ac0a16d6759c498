/- Functions of the translation as plain Lean functions, and their contracts. No condition. -/
import Derived.Test.YtfciajbahgjflaaPB
import Derived.Deep.DeepMust
import Derived.Lib.Hide
import Derived.Test.YtfciajbahgjflaaWalk
import Derived.Laws.MathBits
import Derived.Lib.LazyBuf
import Derived.Test.YtfciajbahgjflaaCopy
import Derived.Test.YtfciajbahgjflaaRR
namespace Go.Proofs.Ytfciajbahgjflaa.Print
open Go.RowKit Go.Proofs.YtfciajbahgjflaaW.PrintWords Go.Proofs.YtfciajbahgjflaaW.PrintLast Go.Proofs.YtfciajbahgjflaaW.PrintMore
attribute [local go_sem] max2_int min2_int max_two min_two max_three min_three max_four min_four   -- for this text's walks alone
set_option linter.unusedVariables false
set_option linter.unusedSimpArgs false

/-! ### impl_demand: function 106 -/
def impl_demand.l0 : Nat → Int → Int → List (S43) → Int → Int → Option (Int)
  | 0, _, _, _, _, _ => none
  | k + 1, x1, x5, x8, x9, x10 => if x10 < x9 then (if 0 ≤ x10 then (if x10 < (x8.length : Int) then (if x1 ≥ ((rd_T43 x8 x10).f1) then (if ((rd_T43 x8 x10).f2) = 0 then (none) else (impl_demand.l0 k x1 (wrap64 (x5 + (wrap64 ((wrap64 ((wrap64 (Int.tdiv (wrap64 (x1 - ((rd_T43 x8 x10).f1))) ((rd_T43 x8 x10).f2))) + 1)) * ((rd_T43 x8 x10).f0))))) x8 x9 (wrap64 (x10 + 1)))) else (impl_demand.l0 k x1 x5 x8 x9 (wrap64 (x10 + 1)))) else (none)) else (none)) else (some x5)
def impl_demand.f (k : Nat) (l0 : List (S43)) (a1 : Int) : Option (Int) := impl_demand.l0 k a1 0 l0 (l0.length : Int) 0
theorem impl_demand.mono_l : ∀ k, (∀ y0 y1 y2 y3 y4, LeO (impl_demand.l0 k y0 y1 y2 y3 y4) (impl_demand.l0 (k + 1) y0 y1 y2 y3 y4))
  | 0 => fun _ _ _ _ _ r h => by simp [impl_demand.l0] at h
  | k + 1 => by
    have ih0 := impl_demand.mono_l k
    · intro y0 y1 y2 y3 y4
      unfold impl_demand.l0
      repeat' first
      | (with_reducible exact ih0 _ _ _ _ _)
      | (with_reducible exact LeO.refl _)
      | (with_reducible exact LeO.none _)
      | (with_reducible refine LeO.ite ?_ ?_)
      | (with_reducible refine LeO.bind ?_ (fun _ => ?_))
      | exact ih0 _ _ _ _ _
      | exact LeO.none _
      | refine LeO.ite ?_ ?_
      | refine LeO.bind ?_ (fun _ => ?_)
theorem impl_demand.mono : ∀ a0 a1 k, LeO (impl_demand.f k a0 a1) (impl_demand.f (k + 1) a0 a1) := by
  intro a0 a1 k
  have ih0 := impl_demand.mono_l k
  unfold impl_demand.f
  repeat' first
      | (with_reducible exact ih0 _ _ _ _ _)
      | (with_reducible exact LeO.refl _)
      | (with_reducible exact LeO.none _)
      | (with_reducible refine LeO.ite ?_ ?_)
      | (with_reducible refine LeO.bind ?_ (fun _ => ?_))
      | exact ih0 _ _ _ _ _
      | exact LeO.none _
      | refine LeO.ite ?_ ?_
      | refine LeO.bind ?_ (fun _ => ?_)
set_option maxHeartbeats 8000000 in
set_option maxRecDepth 100000 in
theorem impl_demand.calls (k : Nat) (A0 : Option Addr) (c0 : Nat) (l0 : List (S43)) (a1 : Int) (r : Int) (w : World) (hr0 : Kd.C k43 w A0 l0.length l0) (hc0 : l0.length ≤ c0) (h : impl_demand.f k l0 a1 = some r) :
    Calls Try.prog 106 #[.slice A0 l0.length c0, .int .i64 a1] w fun e w' => e = .returned (.int .i64 r) ∧ Below w.heap.size w w' := by
  have hu43 := Try.underlying43
  have HR0 := Aside0.mk hr0
  have HC0 := Aside0.mk hc0
  clear hr0 hc0
  have HB := Aside0.mk (Below.refl w.heap.size w)
  have H : (impl_demand.l0 k a1 0 l0 (l0.length : Int) 0) = some r := h
  clear h
  have H' := Aside0.mk H
  clear H
  go_enter Try.func106, Try.ntmps106
  go_wp2
  repeat (go_quiet (fail); try go_wp2)
  go_loopg [5, 10] k (fun kq v5 v10 w' => ∃ (x5_1 : Int) (x10_1 : Int), v5 = .int .i64 x5_1 ∧ v10 = .int .i64 x10_1 ∧ Aside0 (impl_demand.l0 kq a1 x5_1 l0 (l0.length : Int) x10_1 = some r) ∧ Aside0 (kq ≤ k) ∧ Aside0 (Below w.heap.size w w'))
  case atStart => exact ⟨(0), (0), (by first | rfl | (simp; done) | (simp [*]; done) | (simp only [i64_w, i32_w]; done) | (simp [*, i64_w, i32_w]; done)), (by first | rfl | (simp; done) | (simp [*]; done) | (simp only [i64_w, i32_w]; done) | (simp [*, i64_w, i32_w]; done)), H', ⟨Nat.le_refl _⟩, ⟨by repeat (first | (with_reducible first | exact HB.out | apply below_alloc | apply pw_below_drewN | apply below_drew1) | exact HB.out)⟩⟩
  case round =>
    clear H'
    try clear c1
    try clear p2
    obtain ⟨x5_1, x10_1, rfl, rfl, HA, HK1, HB⟩ := hrel
    cases gk with
    | zero => exact absurd HA.out (by simp [impl_demand.l0])
    | succ k1 =>
      have H := HA.out
      clear HA
      simp only [impl_demand.l0] at H
      by_cases c3 : x10_1 < (l0.length : Int)
      · rw [if_pos c3] at H
        have c3b0 : decide (x10_1 < (l0.length : Int)) = true := decide_eq_true c3
        clear c3
        by_cases c4 : 0 ≤ x10_1
        · rw [if_pos c4] at H
          have c4b0 : decide (0 ≤ x10_1) = true := decide_eq_true c4
          clear c4
          by_cases c5 : x10_1 < (l0.length : Int)
          · rw [if_pos c5] at H
            have c5b0 : decide (x10_1 < (l0.length : Int)) = true := decide_eq_true c5
            clear c5
            by_cases c6 : a1 ≥ ((rd_T43 l0 x10_1).f1)
            · rw [if_pos c6] at H
              have c6b0 : decide (((rd_T43 l0 x10_1).f1) ≤ a1) = true := decide_eq_true c6
              clear c6
              by_cases c7 : ((rd_T43 l0 x10_1).f2) = 0
              · rw [if_pos c7] at H
                exact absurd H (by simp)
              · rw [if_neg c7] at H
                have c7b0 : (((rd_T43 l0 x10_1).f2) == 0) = false := beq_eq_false_iff_ne.mpr c7
                have c7b1 : (((rd_T43 l0 x10_1).f2) != 0) = true := bne_iff_ne.mpr c7
                have H' := Aside0.mk H
                clear H
                have p101 : 0 ≤ (x10_1 : Int) := of_decide_eq_true (by first | (with_reducible assumption) | assumption)
                have q101 : x10_1 < (l0.length : Int) := of_decide_eq_true (by first | (with_reducible assumption) | assumption)
                obtain ⟨ad101, e101, hx101_0, hx101_1, hx101_2⟩ := at_T43 HR0.out x10_1 p101 q101
                cases e101
                replace hx101_0 := (HB.out.cell (World.block_lt_of_cell? w _ hx101_0)).trans hx101_0
                replace hx101_1 := (HB.out.cell (World.block_lt_of_cell? w _ hx101_1)).trans hx101_1
                replace hx101_2 := (HB.out.cell (World.block_lt_of_cell? w _ hx101_2)).trans hx101_2
                replace p101 := eq_true p101
                replace q101 := eq_true q101
                go_wp2_with (first | ((with_reducible refine gate_dst (N := 7) rfl ?_); refine box_event ?hg (N := 7) ?hd (cs := #[.int .i64 0, .int .i64 0, .int .i64 0]) (t := 43) ?hr ?_; (case hd => rfl); (case hg => rfl); (case hr => first | (go_simp; done) | (go_simp; rfl)); intro gb102 hg w8 hbox hb; have n0_ := Aside0.mk (below_step (by repeat (first | (with_reducible first | exact HB.out | apply below_alloc | apply pw_below_drewN | apply below_drew1) | exact HB.out)) hb); have n1_ := Aside0.mk (hbox); have n2_ := Aside0.mk ((by rw [hg]; exact (below_size (by repeat (first | (with_reducible first | exact HB.out | apply below_alloc | apply pw_below_drewN | apply below_drew1) | exact HB.out))) : w.heap.size ≤ gb102)); have n3_ := Aside0.mk ((by rw [hg]; exact (below_size (by repeat (first | (with_reducible first | exact HB.out | apply below_alloc | apply pw_below_drewN | apply below_drew1) | exact HB.out))) : w.heap.size ≤ gb102)); clear HB; have HB := n0_; have BK102 := n1_; have GW102 := n2_; have GE102 := n3_; clear n0_ n1_ n2_ n3_; clear hb hbox hg; have hcz9_0 : w8.cell? ⟨gb102, 0, none⟩ = some (.int .i64 0) := (blk_cell BK102.out 0).trans rfl; have hcz9_1 : w8.cell? ⟨gb102, 1, none⟩ = some (.int .i64 0) := (blk_cell BK102.out 1).trans rfl; have hcz9_2 : w8.cell? ⟨gb102, 2, none⟩ = some (.int .i64 0) := (blk_cell BK102.out 2).trans rfl; have hfz9_0 := blk_frozen BK102.out 0; have hfz9_1 := blk_frozen BK102.out 1; have hfz9_2 := blk_frozen BK102.out 2))
                repeat (go_quiet (first | ((with_reducible refine gate_dst (N := 7) rfl ?_); refine box_event ?hg (N := 7) ?hd (cs := #[.int .i64 0, .int .i64 0, .int .i64 0]) (t := 43) ?hr ?_; (case hd => rfl); (case hg => rfl); (case hr => first | (go_simp; done) | (go_simp; rfl)); intro gb102 hg w8 hbox hb; have n0_ := Aside0.mk (below_step (by repeat (first | (with_reducible first | exact HB.out | apply below_alloc | apply pw_below_drewN | apply below_drew1) | exact HB.out)) hb); have n1_ := Aside0.mk (hbox); have n2_ := Aside0.mk ((by rw [hg]; exact (below_size (by repeat (first | (with_reducible first | exact HB.out | apply below_alloc | apply pw_below_drewN | apply below_drew1) | exact HB.out))) : w.heap.size ≤ gb102)); have n3_ := Aside0.mk ((by rw [hg]; exact (below_size (by repeat (first | (with_reducible first | exact HB.out | apply below_alloc | apply pw_below_drewN | apply below_drew1) | exact HB.out))) : w.heap.size ≤ gb102)); clear HB; have HB := n0_; have BK102 := n1_; have GW102 := n2_; have GE102 := n3_; clear n0_ n1_ n2_ n3_; clear hb hbox hg; have hcz9_0 : w8.cell? ⟨gb102, 0, none⟩ = some (.int .i64 0) := (blk_cell BK102.out 0).trans rfl; have hcz9_1 : w8.cell? ⟨gb102, 1, none⟩ = some (.int .i64 0) := (blk_cell BK102.out 1).trans rfl; have hcz9_2 : w8.cell? ⟨gb102, 2, none⟩ = some (.int .i64 0) := (blk_cell BK102.out 2).trans rfl; have hfz9_0 := blk_frozen BK102.out 0; have hfz9_1 := blk_frozen BK102.out 1; have hfz9_2 := blk_frozen BK102.out 2)); try go_wp2_with (first | ((with_reducible refine gate_dst (N := 7) rfl ?_); refine box_event ?hg (N := 7) ?hd (cs := #[.int .i64 0, .int .i64 0, .int .i64 0]) (t := 43) ?hr ?_; (case hd => rfl); (case hg => rfl); (case hr => first | (go_simp; done) | (go_simp; rfl)); intro gb102 hg w8 hbox hb; have n0_ := Aside0.mk (below_step (by repeat (first | (with_reducible first | exact HB.out | apply below_alloc | apply pw_below_drewN | apply below_drew1) | exact HB.out)) hb); have n1_ := Aside0.mk (hbox); have n2_ := Aside0.mk ((by rw [hg]; exact (below_size (by repeat (first | (with_reducible first | exact HB.out | apply below_alloc | apply pw_below_drewN | apply below_drew1) | exact HB.out))) : w.heap.size ≤ gb102)); have n3_ := Aside0.mk ((by rw [hg]; exact (below_size (by repeat (first | (with_reducible first | exact HB.out | apply below_alloc | apply pw_below_drewN | apply below_drew1) | exact HB.out))) : w.heap.size ≤ gb102)); clear HB; have HB := n0_; have BK102 := n1_; have GW102 := n2_; have GE102 := n3_; clear n0_ n1_ n2_ n3_; clear hb hbox hg; have hcz9_0 : w8.cell? ⟨gb102, 0, none⟩ = some (.int .i64 0) := (blk_cell BK102.out 0).trans rfl; have hcz9_1 : w8.cell? ⟨gb102, 1, none⟩ = some (.int .i64 0) := (blk_cell BK102.out 1).trans rfl; have hcz9_2 : w8.cell? ⟨gb102, 2, none⟩ = some (.int .i64 0) := (blk_cell BK102.out 2).trans rfl; have hfz9_0 := blk_frozen BK102.out 0; have hfz9_1 := blk_frozen BK102.out 1; have hfz9_2 := blk_frozen BK102.out 2)))
                go_roundg k1
                case measure => have := HK1.out; omega
                case rel => exact ⟨(wrap64 (x5_1 + (wrap64 ((wrap64 ((wrap64 (Int.tdiv (wrap64 (a1 - ((rd_T43 l0 x10_1).f1))) ((rd_T43 l0 x10_1).f2))) + 1)) * ((rd_T43 l0 x10_1).f0))))), (wrap64 (x10_1 + 1)), (by first | rfl | (simp; done) | (simp [*]; done) | (simp only [i64_w, i32_w]; done) | (simp [*, i64_w, i32_w]; done)), (by first | rfl | (simp; done) | (simp [*]; done) | (simp only [i64_w, i32_w]; done) | (simp [*, i64_w, i32_w]; done)), H', ⟨by have := HK1.out; omega⟩, ⟨by repeat (first | (with_reducible first | exact HB.out | apply below_alloc | apply pw_below_drewN | apply below_drew1 | refine below_set ?_ GE102.out) | exact HB.out)⟩⟩
            · rw [if_neg c6] at H
              have c6b0 : decide (((rd_T43 l0 x10_1).f1) ≤ a1) = false := decide_eq_false c6
              clear c6
              have H' := Aside0.mk H
              clear H
              have p101 : 0 ≤ (x10_1 : Int) := of_decide_eq_true (by first | (with_reducible assumption) | assumption)
              have q101 : x10_1 < (l0.length : Int) := of_decide_eq_true (by first | (with_reducible assumption) | assumption)
              obtain ⟨ad101, e101, hx101_0, hx101_1, hx101_2⟩ := at_T43 HR0.out x10_1 p101 q101
              cases e101
              replace hx101_0 := (HB.out.cell (World.block_lt_of_cell? w _ hx101_0)).trans hx101_0
              replace hx101_1 := (HB.out.cell (World.block_lt_of_cell? w _ hx101_1)).trans hx101_1
              replace hx101_2 := (HB.out.cell (World.block_lt_of_cell? w _ hx101_2)).trans hx101_2
              replace p101 := eq_true p101
              replace q101 := eq_true q101
              go_wp2_with (first | ((with_reducible refine gate_dst (N := 7) rfl ?_); refine box_event ?hg (N := 7) ?hd (cs := #[.int .i64 0, .int .i64 0, .int .i64 0]) (t := 43) ?hr ?_; (case hd => rfl); (case hg => rfl); (case hr => first | (go_simp; done) | (go_simp; rfl)); intro gb102 hg w10 hbox hb; have n0_ := Aside0.mk (below_step (by repeat (first | (with_reducible first | exact HB.out | apply below_alloc | apply pw_below_drewN | apply below_drew1) | exact HB.out)) hb); have n1_ := Aside0.mk (hbox); have n2_ := Aside0.mk ((by rw [hg]; exact (below_size (by repeat (first | (with_reducible first | exact HB.out | apply below_alloc | apply pw_below_drewN | apply below_drew1) | exact HB.out))) : w.heap.size ≤ gb102)); have n3_ := Aside0.mk ((by rw [hg]; exact (below_size (by repeat (first | (with_reducible first | exact HB.out | apply below_alloc | apply pw_below_drewN | apply below_drew1) | exact HB.out))) : w.heap.size ≤ gb102)); clear HB; have HB := n0_; have BK102 := n1_; have GW102 := n2_; have GE102 := n3_; clear n0_ n1_ n2_ n3_; clear hb hbox hg; have hcz11_0 : w10.cell? ⟨gb102, 0, none⟩ = some (.int .i64 0) := (blk_cell BK102.out 0).trans rfl; have hcz11_1 : w10.cell? ⟨gb102, 1, none⟩ = some (.int .i64 0) := (blk_cell BK102.out 1).trans rfl; have hcz11_2 : w10.cell? ⟨gb102, 2, none⟩ = some (.int .i64 0) := (blk_cell BK102.out 2).trans rfl; have hfz11_0 := blk_frozen BK102.out 0; have hfz11_1 := blk_frozen BK102.out 1; have hfz11_2 := blk_frozen BK102.out 2))
              repeat (go_quiet (first | ((with_reducible refine gate_dst (N := 7) rfl ?_); refine box_event ?hg (N := 7) ?hd (cs := #[.int .i64 0, .int .i64 0, .int .i64 0]) (t := 43) ?hr ?_; (case hd => rfl); (case hg => rfl); (case hr => first | (go_simp; done) | (go_simp; rfl)); intro gb102 hg w10 hbox hb; have n0_ := Aside0.mk (below_step (by repeat (first | (with_reducible first | exact HB.out | apply below_alloc | apply pw_below_drewN | apply below_drew1) | exact HB.out)) hb); have n1_ := Aside0.mk (hbox); have n2_ := Aside0.mk ((by rw [hg]; exact (below_size (by repeat (first | (with_reducible first | exact HB.out | apply below_alloc | apply pw_below_drewN | apply below_drew1) | exact HB.out))) : w.heap.size ≤ gb102)); have n3_ := Aside0.mk ((by rw [hg]; exact (below_size (by repeat (first | (with_reducible first | exact HB.out | apply below_alloc | apply pw_below_drewN | apply below_drew1) | exact HB.out))) : w.heap.size ≤ gb102)); clear HB; have HB := n0_; have BK102 := n1_; have GW102 := n2_; have GE102 := n3_; clear n0_ n1_ n2_ n3_; clear hb hbox hg; have hcz11_0 : w10.cell? ⟨gb102, 0, none⟩ = some (.int .i64 0) := (blk_cell BK102.out 0).trans rfl; have hcz11_1 : w10.cell? ⟨gb102, 1, none⟩ = some (.int .i64 0) := (blk_cell BK102.out 1).trans rfl; have hcz11_2 : w10.cell? ⟨gb102, 2, none⟩ = some (.int .i64 0) := (blk_cell BK102.out 2).trans rfl; have hfz11_0 := blk_frozen BK102.out 0; have hfz11_1 := blk_frozen BK102.out 1; have hfz11_2 := blk_frozen BK102.out 2)); try go_wp2_with (first | ((with_reducible refine gate_dst (N := 7) rfl ?_); refine box_event ?hg (N := 7) ?hd (cs := #[.int .i64 0, .int .i64 0, .int .i64 0]) (t := 43) ?hr ?_; (case hd => rfl); (case hg => rfl); (case hr => first | (go_simp; done) | (go_simp; rfl)); intro gb102 hg w10 hbox hb; have n0_ := Aside0.mk (below_step (by repeat (first | (with_reducible first | exact HB.out | apply below_alloc | apply pw_below_drewN | apply below_drew1) | exact HB.out)) hb); have n1_ := Aside0.mk (hbox); have n2_ := Aside0.mk ((by rw [hg]; exact (below_size (by repeat (first | (with_reducible first | exact HB.out | apply below_alloc | apply pw_below_drewN | apply below_drew1) | exact HB.out))) : w.heap.size ≤ gb102)); have n3_ := Aside0.mk ((by rw [hg]; exact (below_size (by repeat (first | (with_reducible first | exact HB.out | apply below_alloc | apply pw_below_drewN | apply below_drew1) | exact HB.out))) : w.heap.size ≤ gb102)); clear HB; have HB := n0_; have BK102 := n1_; have GW102 := n2_; have GE102 := n3_; clear n0_ n1_ n2_ n3_; clear hb hbox hg; have hcz11_0 : w10.cell? ⟨gb102, 0, none⟩ = some (.int .i64 0) := (blk_cell BK102.out 0).trans rfl; have hcz11_1 : w10.cell? ⟨gb102, 1, none⟩ = some (.int .i64 0) := (blk_cell BK102.out 1).trans rfl; have hcz11_2 : w10.cell? ⟨gb102, 2, none⟩ = some (.int .i64 0) := (blk_cell BK102.out 2).trans rfl; have hfz11_0 := blk_frozen BK102.out 0; have hfz11_1 := blk_frozen BK102.out 1; have hfz11_2 := blk_frozen BK102.out 2)))
              go_roundg k1
              case measure => have := HK1.out; omega
              case rel => exact ⟨(x5_1), (wrap64 (x10_1 + 1)), (by first | rfl | (simp; done) | (simp [*]; done) | (simp only [i64_w, i32_w]; done) | (simp [*, i64_w, i32_w]; done)), (by first | rfl | (simp; done) | (simp [*]; done) | (simp only [i64_w, i32_w]; done) | (simp [*, i64_w, i32_w]; done)), H', ⟨by have := HK1.out; omega⟩, ⟨by repeat (first | (with_reducible first | exact HB.out | apply below_alloc | apply pw_below_drewN | apply below_drew1 | refine below_set ?_ GE102.out) | exact HB.out)⟩⟩
          · rw [if_neg c5] at H
            exact absurd H (by simp)
        · rw [if_neg c4] at H
          exact absurd H (by simp)
      · rw [if_neg c3] at H
        have c3b0 : decide (x10_1 < (l0.length : Int)) = false := decide_eq_false c3
        clear c3
        obtain rfl := Option.some.inj H
        go_wp2
        repeat (go_quiet (fail); try go_wp2)
        go_ret
        exact ⟨by first | rfl | (simp [errW_none, errW_some] <;> rfl) | (simp [*, errW_none, errW_some] <;> rfl), by repeat (first | (with_reducible first | exact HB.out | apply below_alloc | apply pw_below_drewN | apply below_drew1) | exact HB.out)⟩

end Go.Proofs.Ytfciajbahgjflaa.Print

namespace Go.Proofs.Ytfciajbahgjflaa.Print
open Go.RowKit Go.Proofs.YtfciajbahgjflaaW.PrintWords Go.Proofs.YtfciajbahgjflaaW.PrintLast Go.Proofs.YtfciajbahgjflaaW.PrintMore
attribute [local go_sem] max2_int min2_int max_two min_two max_three min_three max_four min_four   -- for this text's walks alone
set_option linter.unusedVariables false
set_option linter.unusedSimpArgs false

/-! ### impl_gcd: function 108 -/
def impl_gcd.l0 : Nat → Int → Int → Option (Int)
  | 0, _, _ => none
  | k + 1, x0, x1 => if x1 = 0 then (some x0) else (impl_gcd.l0 k x1 (Int.tmod x0 x1))
def impl_gcd.f (k : Nat) (a0 : Int) (a1 : Int) : Option (Int) := impl_gcd.l0 k a0 a1
theorem impl_gcd.mono_l : ∀ k, (∀ y0 y1, LeO (impl_gcd.l0 k y0 y1) (impl_gcd.l0 (k + 1) y0 y1))
  | 0 => fun _ _ r h => by simp [impl_gcd.l0] at h
  | k + 1 => by
    have ih0 := impl_gcd.mono_l k
    · intro y0 y1
      unfold impl_gcd.l0
      repeat' first
      | (with_reducible exact ih0 _ _)
      | (with_reducible exact LeO.refl _)
      | (with_reducible exact LeO.none _)
      | (with_reducible refine LeO.ite ?_ ?_)
      | (with_reducible refine LeO.bind ?_ (fun _ => ?_))
      | exact ih0 _ _
      | exact LeO.none _
      | refine LeO.ite ?_ ?_
      | refine LeO.bind ?_ (fun _ => ?_)
theorem impl_gcd.mono : ∀ a0 a1 k, LeO (impl_gcd.f k a0 a1) (impl_gcd.f (k + 1) a0 a1) := by
  intro a0 a1 k
  have ih0 := impl_gcd.mono_l k
  unfold impl_gcd.f
  repeat' first
      | (with_reducible exact ih0 _ _)
      | (with_reducible exact LeO.refl _)
      | (with_reducible exact LeO.none _)
      | (with_reducible refine LeO.ite ?_ ?_)
      | (with_reducible refine LeO.bind ?_ (fun _ => ?_))
      | exact ih0 _ _
      | exact LeO.none _
      | refine LeO.ite ?_ ?_
      | refine LeO.bind ?_ (fun _ => ?_)
set_option maxHeartbeats 8000000 in
set_option maxRecDepth 100000 in
theorem impl_gcd.calls (k : Nat) (a0 : Int) (a1 : Int) (r : Int) (w : World) (h : impl_gcd.f k a0 a1 = some r) :
    Calls Try.prog 108 #[.int .i64 a0, .int .i64 a1] w fun e w' => e = .returned (.int .i64 r) ∧ Drawn0 w w' := by
  have H : (impl_gcd.l0 k a0 a1) = some r := h
  clear h
  have H' := Aside0.mk H
  clear H
  go_enter Try.func108, Try.ntmps108
  go_wp2
  repeat (go_quiet (fail); try go_wp2)
  go_loopg [0, 1] k (fun kq v0 v1 w' => ∃ (x0_1 : Int) (x1_1 : Int), v0 = .int .i64 x0_1 ∧ v1 = .int .i64 x1_1 ∧ Aside0 (impl_gcd.l0 kq x0_1 x1_1 = some r) ∧ Aside0 (kq ≤ k) ∧ Drawn0 w w')
  case atStart => exact ⟨(a0), (a1), (by first | rfl | (simp; done) | (simp [*]; done) | (simp only [i64_w, i32_w]; done) | (simp [*, i64_w, i32_w]; done)), (by first | rfl | (simp; done) | (simp [*]; done) | (simp only [i64_w, i32_w]; done) | (simp [*, i64_w, i32_w]; done)), H', ⟨Nat.le_refl _⟩, by repeat (first | exact Drawn0.refl _ | apply Drawn0.step)⟩
  case round =>
    clear H'
    try clear c1
    try clear p2
    obtain ⟨x0_1, x1_1, rfl, rfl, HA, HK1, ⟨m1, rfl⟩⟩ := hrel
    cases gk with
    | zero => exact absurd HA.out (by simp [impl_gcd.l0])
    | succ k1 =>
      have H := HA.out
      clear HA
      simp only [impl_gcd.l0] at H
      by_cases c3 : x1_1 = 0
      · rw [if_pos c3] at H
        have c3b0 : (x1_1 == 0) = true := beq_iff_eq.mpr c3
        have c3b1 : (x1_1 != 0) = false := bne_eq_false_iff_eq.mpr c3
        clear c3
        obtain rfl := Option.some.inj H
        go_wp2
        repeat (go_quiet (fail); try go_wp2)
        go_ret
        exact ⟨by first | rfl | (simp; done) | (simp [*]; done) | (simp only [i64_w, i32_w]; done) | (simp [*, i64_w, i32_w]; done), by repeat (first | exact Drawn0.refl _ | apply Drawn0.step)⟩
      · rw [if_neg c3] at H
        have c3b0 : (x1_1 == 0) = false := beq_eq_false_iff_ne.mpr c3
        have c3b1 : (x1_1 != 0) = true := bne_iff_ne.mpr c3
        have H' := Aside0.mk H
        clear H
        go_wp2
        repeat (go_quiet (fail); try go_wp2)
        go_roundg k1
        case measure => have := HK1.out; omega
        case rel => exact ⟨(x1_1), (Int.tmod x0_1 x1_1), (by first | rfl | (simp; done) | (simp [*]; done) | (simp only [i64_w, i32_w]; done) | (simp [*, i64_w, i32_w]; done)), (by first | rfl | (simp; done) | (simp [*]; done) | (simp only [i64_w, i32_w]; done) | (simp [*, i64_w, i32_w]; done)), H', ⟨by have := HK1.out; omega⟩, by repeat (first | exact Drawn0.refl _ | apply Drawn0.step)⟩

end Go.Proofs.Ytfciajbahgjflaa.Print

namespace Go.Proofs.Ytfciajbahgjflaa.Print
open Go.RowKit Go.Proofs.YtfciajbahgjflaaW.PrintWords Go.Proofs.YtfciajbahgjflaaW.PrintLast Go.Proofs.YtfciajbahgjflaaW.PrintMore
attribute [local go_sem] max2_int min2_int max_two min_two max_three min_three max_four min_four   -- for this text's walks alone
set_option linter.unusedVariables false
set_option linter.unusedSimpArgs false

/-! ### impl_lcm: function 101 -/
def impl_lcm.f (k : Nat) (a0 : Int) (a1 : Int) : Option (Int) := (impl_gcd.f k a0 a1).bind fun t101 => (if t101 = 0 then (none) else (some (wrap64 ((wrap64 (Int.tdiv a0 t101)) * a1))))
theorem impl_lcm.mono : ∀ a0 a1 k, LeO (impl_lcm.f k a0 a1) (impl_lcm.f (k + 1) a0 a1) := by
  intro a0 a1 k
  unfold impl_lcm.f
  repeat' first
      | (with_reducible exact impl_gcd.mono _ _ _)
      | (with_reducible exact LeO.refl _)
      | (with_reducible exact LeO.none _)
      | (with_reducible refine LeO.ite ?_ ?_)
      | (with_reducible refine LeO.bind ?_ (fun _ => ?_))
      | exact impl_gcd.mono _ _ _
      | exact LeO.none _
      | refine LeO.ite ?_ ?_
      | refine LeO.bind ?_ (fun _ => ?_)
set_option maxHeartbeats 8000000 in
set_option maxRecDepth 100000 in
theorem impl_lcm.calls (k : Nat) (a0 : Int) (a1 : Int) (r : Int) (w : World) (h : impl_lcm.f k a0 a1 = some r) :
    Calls Try.prog 101 #[.int .i64 a0, .int .i64 a1] w fun e w' => e = .returned (.int .i64 r) ∧ Drawn0 w w' := by
  have H : ((impl_gcd.f k a0 a1).bind fun t101 => (if t101 = 0 then (none) else (some (wrap64 ((wrap64 (Int.tdiv a0 t101)) * a1))))) = some r := h
  clear h
  replace H := Option.bind_eq_some_iff.mp H
  obtain ⟨t101, A30, H⟩ := H
  replace H : (if t101 = 0 then (none) else (some (wrap64 ((wrap64 (Int.tdiv a0 t101)) * a1)))) = some r := H
  have A3 := Aside0.mk A30
  clear A30
  by_cases c4 : t101 = 0
  · rw [if_pos c4] at H
    exact absurd H (by simp)
  · rw [if_neg c4] at H
    have c4b0 : (t101 == 0) = false := beq_eq_false_iff_ne.mpr c4
    have c4b1 : (t101 != 0) = true := bne_iff_ne.mpr c4
    obtain rfl := Option.some.inj H
    go_enter Try.func101, Try.ntmps101
    go_wp2_with (first | ((with_reducible refine gate_callee (f := 108) rfl ?_); refine goesL_ (some 8) rfl rfl Try.func108 (by kernel_rfl) rfl #[.int .i64 a0, .int .i64 a1] rfl (by (try simp only [List.map_toArray, List.map_cons, List.map_nil]); first | done | rfl | (simp only [List.length_drop, List.length_take]; rfl)) ?_; (with_reducible refine (impl_gcd.calls k a0 a1 t101 _ A3.out).mono ?_); rintro e w' ⟨rfl, ⟨nd, rfl⟩⟩; refine ⟨_, rfl, ?_⟩))
    go_ret
    exact ⟨by first | rfl | (simp; done) | (simp [*]; done) | (simp only [i64_w, i32_w]; done) | (simp [*, i64_w, i32_w]; done), by repeat (first | exact Drawn0.refl _ | apply Drawn0.step)⟩

end Go.Proofs.Ytfciajbahgjflaa.Print

namespace Go.Proofs.Ytfciajbahgjflaa.Print
open Go.RowKit Go.Proofs.YtfciajbahgjflaaW.PrintWords Go.Proofs.YtfciajbahgjflaaW.PrintLast Go.Proofs.YtfciajbahgjflaaW.PrintMore
attribute [local go_sem] max2_int min2_int max_two min_two max_three min_three max_four min_four   -- for this text's walks alone
set_option linter.unusedVariables false
set_option linter.unusedSimpArgs false

/-! ### impl_hyper: function 80 -/
def impl_hyper.l0 : Nat → Int → List (S43) → Int → Int → Option (Int)
  | 0, _, _, _, _ => none
  | k + 1, x3, x6, x7, x8 => if x8 < x7 then (if 0 ≤ x8 then (if x8 < (x6.length : Int) then ((impl_lcm.f k x3 ((rd_T43 x6 x8).f2)).bind fun t103 => (impl_hyper.l0 k t103 x6 x7 (wrap64 (x8 + 1)))) else (none)) else (none)) else (some x3)
def impl_hyper.f (k : Nat) (l0 : List (S43)) : Option (Int) := impl_hyper.l0 k 1 l0 (l0.length : Int) 0
theorem impl_hyper.mono_l : ∀ k, (∀ y0 y1 y2 y3, LeO (impl_hyper.l0 k y0 y1 y2 y3) (impl_hyper.l0 (k + 1) y0 y1 y2 y3))
  | 0 => fun _ _ _ _ r h => by simp [impl_hyper.l0] at h
  | k + 1 => by
    have ih0 := impl_hyper.mono_l k
    · intro y0 y1 y2 y3
      unfold impl_hyper.l0
      repeat' first
      | (with_reducible exact ih0 _ _ _ _)
      | (with_reducible exact impl_lcm.mono _ _ _)
      | (with_reducible exact LeO.refl _)
      | (with_reducible exact LeO.none _)
      | (with_reducible refine LeO.ite ?_ ?_)
      | (with_reducible refine LeO.bind ?_ (fun _ => ?_))
      | exact ih0 _ _ _ _
      | exact impl_lcm.mono _ _ _
      | exact LeO.none _
      | refine LeO.ite ?_ ?_
      | refine LeO.bind ?_ (fun _ => ?_)
theorem impl_hyper.mono : ∀ a0 k, LeO (impl_hyper.f k a0) (impl_hyper.f (k + 1) a0) := by
  intro a0 k
  have ih0 := impl_hyper.mono_l k
  unfold impl_hyper.f
  repeat' first
      | (with_reducible exact ih0 _ _ _ _)
      | (with_reducible exact impl_lcm.mono _ _ _)
      | (with_reducible exact LeO.refl _)
      | (with_reducible exact LeO.none _)
      | (with_reducible refine LeO.ite ?_ ?_)
      | (with_reducible refine LeO.bind ?_ (fun _ => ?_))
      | exact ih0 _ _ _ _
      | exact impl_lcm.mono _ _ _
      | exact LeO.none _
      | refine LeO.ite ?_ ?_
      | refine LeO.bind ?_ (fun _ => ?_)
set_option maxHeartbeats 8000000 in
set_option maxRecDepth 100000 in
theorem impl_hyper.calls (k : Nat) (A0 : Option Addr) (c0 : Nat) (l0 : List (S43)) (r : Int) (w : World) (hr0 : Kd.C k43 w A0 l0.length l0) (hc0 : l0.length ≤ c0) (h : impl_hyper.f k l0 = some r) :
    Calls Try.prog 80 #[.slice A0 l0.length c0] w fun e w' => e = .returned (.int .i64 r) ∧ Below w.heap.size w w' := by
  have hu43 := Try.underlying43
  have HR0 := Aside0.mk hr0
  have HC0 := Aside0.mk hc0
  clear hr0 hc0
  have HB := Aside0.mk (Below.refl w.heap.size w)
  have H : (impl_hyper.l0 k 1 l0 (l0.length : Int) 0) = some r := h
  clear h
  have H' := Aside0.mk H
  clear H
  go_enter Try.func80, Try.ntmps80
  go_wp2
  go_loopg [3, 8] k (fun kq v3 v8 w' => ∃ (x3_1 : Int) (x8_1 : Int), v3 = .int .i64 x3_1 ∧ v8 = .int .i64 x8_1 ∧ Aside0 (impl_hyper.l0 kq x3_1 l0 (l0.length : Int) x8_1 = some r) ∧ Aside0 (kq ≤ k) ∧ Aside0 (Below w.heap.size w w'))
  case atStart => exact ⟨(1), (0), (by first | rfl | (simp; done) | (simp [*]; done) | (simp only [i64_w, i32_w]; done) | (simp [*, i64_w, i32_w]; done)), (by first | rfl | (simp; done) | (simp [*]; done) | (simp only [i64_w, i32_w]; done) | (simp [*, i64_w, i32_w]; done)), H', ⟨Nat.le_refl _⟩, ⟨by repeat (first | (with_reducible first | exact HB.out | apply below_alloc | apply pw_below_drewN | apply below_drew1) | exact HB.out)⟩⟩
  case round =>
    clear H'
    obtain ⟨x3_1, x8_1, rfl, rfl, HA, HK1, HB⟩ := hrel
    cases gk with
    | zero => exact absurd HA.out (by simp [impl_hyper.l0])
    | succ k1 =>
      have H := HA.out
      clear HA
      simp only [impl_hyper.l0] at H
      by_cases c2 : x8_1 < (l0.length : Int)
      · rw [if_pos c2] at H
        have c2b0 : decide (x8_1 < (l0.length : Int)) = true := decide_eq_true c2
        clear c2
        by_cases c3 : 0 ≤ x8_1
        · rw [if_pos c3] at H
          have c3b0 : decide (0 ≤ x8_1) = true := decide_eq_true c3
          clear c3
          by_cases c4 : x8_1 < (l0.length : Int)
          · rw [if_pos c4] at H
            have c4b0 : decide (x8_1 < (l0.length : Int)) = true := decide_eq_true c4
            clear c4
            replace H := Option.bind_eq_some_iff.mp H
            obtain ⟨t103, A50, H⟩ := H
            replace H : (impl_hyper.l0 k1 t103 l0 (l0.length : Int) (wrap64 (x8_1 + 1))) = some r := H
            have A5 := Aside0.mk A50
            clear A50
            have H' := Aside0.mk H
            clear H
            have p101 : 0 ≤ (x8_1 : Int) := of_decide_eq_true (by first | (with_reducible assumption) | assumption)
            have q101 : x8_1 < (l0.length : Int) := of_decide_eq_true (by first | (with_reducible assumption) | assumption)
            obtain ⟨ad101, e101, hx101_0, hx101_1, hx101_2⟩ := at_T43 HR0.out x8_1 p101 q101
            cases e101
            replace hx101_0 := (HB.out.cell (World.block_lt_of_cell? w _ hx101_0)).trans hx101_0
            replace hx101_1 := (HB.out.cell (World.block_lt_of_cell? w _ hx101_1)).trans hx101_1
            replace hx101_2 := (HB.out.cell (World.block_lt_of_cell? w _ hx101_2)).trans hx101_2
            replace p101 := eq_true p101
            replace q101 := eq_true q101
            go_wp2_with (first | ((with_reducible refine gate_dst (N := 5) rfl ?_); refine box_event ?hg (N := 5) ?hd (cs := #[.int .i64 0, .int .i64 0, .int .i64 0]) (t := 43) ?hr ?_; (case hd => rfl); (case hg => rfl); (case hr => first | (go_simp; done) | (go_simp; rfl)); intro gb102 hg w6 hbox hb; have n0_ := Aside0.mk (below_step (by repeat (first | (with_reducible first | exact HB.out | apply below_alloc | apply pw_below_drewN | apply below_drew1) | exact HB.out)) hb); have n1_ := Aside0.mk (hbox); have n2_ := Aside0.mk ((by rw [hg]; exact (below_size (by repeat (first | (with_reducible first | exact HB.out | apply below_alloc | apply pw_below_drewN | apply below_drew1) | exact HB.out))) : w.heap.size ≤ gb102)); have n3_ := Aside0.mk ((by rw [hg]; exact (below_size (by repeat (first | (with_reducible first | exact HB.out | apply below_alloc | apply pw_below_drewN | apply below_drew1) | exact HB.out))) : w.heap.size ≤ gb102)); clear HB; have HB := n0_; have BK102 := n1_; have GW102 := n2_; have GE102 := n3_; clear n0_ n1_ n2_ n3_; clear hb hbox hg; have hcz7_0 : w6.cell? ⟨gb102, 0, none⟩ = some (.int .i64 0) := (blk_cell BK102.out 0).trans rfl; have hcz7_1 : w6.cell? ⟨gb102, 1, none⟩ = some (.int .i64 0) := (blk_cell BK102.out 1).trans rfl; have hcz7_2 : w6.cell? ⟨gb102, 2, none⟩ = some (.int .i64 0) := (blk_cell BK102.out 2).trans rfl; have hfz7_0 := blk_frozen BK102.out 0; have hfz7_1 := blk_frozen BK102.out 1; have hfz7_2 := blk_frozen BK102.out 2) | ((with_reducible refine gate_callee (f := 101) rfl ?_); refine goesL_ (some 15) rfl rfl Try.func101 (by kernel_rfl) rfl #[.int .i64 x3_1, .int .i64 ((rd_T43 l0 x8_1).f2)] rfl (by (try simp only [List.map_toArray, List.map_cons, List.map_nil]); first | done | rfl | (simp only [List.length_drop, List.length_take]; rfl)) ?_; (with_reducible refine (impl_lcm.calls k1 x3_1 ((rd_T43 l0 x8_1).f2) t103 _ A5.out).mono ?_); rintro e w' ⟨rfl, ⟨nd, rfl⟩⟩; refine ⟨_, rfl, ?_⟩))
            go_roundg k1
            case measure => have := HK1.out; omega
            case rel => exact ⟨(t103), (wrap64 (x8_1 + 1)), (by first | rfl | (simp; done) | (simp [*]; done) | (simp only [i64_w, i32_w]; done) | (simp [*, i64_w, i32_w]; done)), (by first | rfl | (simp; done) | (simp [*]; done) | (simp only [i64_w, i32_w]; done) | (simp [*, i64_w, i32_w]; done)), H', ⟨by have := HK1.out; omega⟩, ⟨by repeat (first | (with_reducible first | exact HB.out | apply below_alloc | apply pw_below_drewN | apply below_drew1 | refine below_set ?_ GE102.out) | exact HB.out)⟩⟩
          · rw [if_neg c4] at H
            exact absurd H (by simp)
        · rw [if_neg c3] at H
          exact absurd H (by simp)
      · rw [if_neg c2] at H
        have c2b0 : decide (x8_1 < (l0.length : Int)) = false := decide_eq_false c2
        clear c2
        obtain rfl := Option.some.inj H
        go_wp2
        go_ret
        exact ⟨by first | rfl | (simp [errW_none, errW_some] <;> rfl) | (simp [*, errW_none, errW_some] <;> rfl), by repeat (first | (with_reducible first | exact HB.out | apply below_alloc | apply pw_below_drewN | apply below_drew1) | exact HB.out)⟩

end Go.Proofs.Ytfciajbahgjflaa.Print

namespace Go.Proofs.Ytfciajbahgjflaa.Print
open Go.RowKit Go.Proofs.YtfciajbahgjflaaW.PrintWords Go.Proofs.YtfciajbahgjflaaW.PrintLast Go.Proofs.YtfciajbahgjflaaW.PrintMore
attribute [local go_sem] max2_int min2_int max_two min_two max_three min_three max_four min_four   -- for this text's walks alone
set_option linter.unusedVariables false
set_option linter.unusedSimpArgs false

/-! ### impl_in: function 75 -/
def impl_in.f (a0 : Int) (a1 : Int) (a2 : Int) : Option (Bool) := if a0 ≥ a1 then (some (decide (a0 ≤ a2))) else (some false)
set_option maxHeartbeats 8000000 in
set_option maxRecDepth 100000 in
theorem impl_in.calls (a0 : Int) (a1 : Int) (a2 : Int) (r : Bool) (w : World) (h : impl_in.f a0 a1 a2 = some r) :
    Calls Try.prog 75 #[.int .i64 a0, .int .i64 a1, .int .i64 a2] w fun e w' => e = .returned (.bool r) ∧ Drawn0 w w' := by
  have H : (if a0 ≥ a1 then (some (decide (a0 ≤ a2))) else (some false)) = some r := h
  clear h
  by_cases c4 : a0 ≥ a1
  · rw [if_pos c4] at H
    have c4b0 : decide (a1 ≤ a0) = true := decide_eq_true c4
    clear c4
    obtain rfl := Option.some.inj H
    go_enter Try.func75, Try.ntmps75
    go_wp2
    go_ret
    exact ⟨by first | rfl | (simp; done) | (simp [*]; done) | (simp only [i64_w, i32_w]; done) | (simp [*, i64_w, i32_w]; done), by repeat (first | exact Drawn0.refl _ | apply Drawn0.step)⟩
  · rw [if_neg c4] at H
    have c4b0 : decide (a1 ≤ a0) = false := decide_eq_false c4
    clear c4
    obtain rfl := Option.some.inj H
    go_enter Try.func75, Try.ntmps75
    go_wp2
    go_ret
    exact ⟨by first | rfl | (simp; done) | (simp [*]; done) | (simp only [i64_w, i32_w]; done) | (simp [*, i64_w, i32_w]; done), by repeat (first | exact Drawn0.refl _ | apply Drawn0.step)⟩

end Go.Proofs.Ytfciajbahgjflaa.Print

namespace Go.Proofs.Ytfciajbahgjflaa.Print
open Go.RowKit Go.Proofs.YtfciajbahgjflaaW.PrintWords Go.Proofs.YtfciajbahgjflaaW.PrintLast Go.Proofs.YtfciajbahgjflaaW.PrintMore
attribute [local go_sem] max2_int min2_int max_two min_two max_three min_three max_four min_four   -- for this text's walks alone
set_option linter.unusedVariables false
set_option linter.unusedSimpArgs false

/-! ### impl_TaskValid: function 93 -/
def impl_TaskValid.f (a0_0 : Int) (a0_1 : Int) (a0_2 : Int) : Option (Bool) := (impl_in.f a0_0 1 8).bind fun t102 => (if t102 = true then ((impl_in.f a0_1 a0_0 a0_2).bind fun t103 => (if t103 = true then (some (decide (a0_2 ≤ 12))) else (some false))) else (some false))
set_option maxHeartbeats 8000000 in
set_option maxRecDepth 100000 in
theorem impl_TaskValid.calls (a0_0 : Int) (a0_1 : Int) (a0_2 : Int) (r : Bool) (w : World) (h : impl_TaskValid.f a0_0 a0_1 a0_2 = some r) :
    Calls Try.prog 93 #[.agg #[.int .i64 a0_0, .int .i64 a0_1, .int .i64 a0_2]] w fun e w' => e = .returned (.bool r) ∧ Below w.heap.size w w' := by
  have hu43 := Try.underlying43
  have HB := Aside0.mk (Below.refl w.heap.size w)
  have H : ((impl_in.f a0_0 1 8).bind fun t102 => (if t102 = true then ((impl_in.f a0_1 a0_0 a0_2).bind fun t103 => (if t103 = true then (some (decide (a0_2 ≤ 12))) else (some false))) else (some false))) = some r := h
  clear h
  replace H := Option.bind_eq_some_iff.mp H
  obtain ⟨t102, A20, H⟩ := H
  replace H : (if t102 = true then ((impl_in.f a0_1 a0_0 a0_2).bind fun t103 => (if t103 = true then (some (decide (a0_2 ≤ 12))) else (some false))) else (some false)) = some r := H
  have A2 := Aside0.mk A20
  clear A20
  by_cases c3 : t102 = true
  · subst c3
    have H1 : ((impl_in.f a0_1 a0_0 a0_2).bind fun t103 => (if t103 = true then (some (decide (a0_2 ≤ 12))) else (some false))) = some r := by rw [if_pos rfl] at H; exact H
    clear H
    have H := H1
    clear H1
    replace H := Option.bind_eq_some_iff.mp H
    obtain ⟨t103, A40, H⟩ := H
    replace H : (if t103 = true then (some (decide (a0_2 ≤ 12))) else (some false)) = some r := H
    have A4 := Aside0.mk A40
    clear A40
    by_cases c5 : t103 = true
    · subst c5
      have H1 : (some (decide (a0_2 ≤ 12))) = some r := by rw [if_pos rfl] at H; exact H
      clear H
      have H := H1
      clear H1
      obtain rfl := Option.some.inj H
      go_enter Try.func93, Try.ntmps93
      go_wp2_with (first | ((with_reducible refine gate_dst (N := 1) rfl ?_); refine box_event ?hg (N := 1) ?hd (cs := #[.int .i64 a0_0, .int .i64 a0_1, .int .i64 a0_2]) (t := 43) ?hr ?_; (case hd => rfl); (case hg => rfl); (case hr => first | (go_simp; done) | (go_simp; rfl)); intro gb101 hg w6 hbox hb; have n0_ := Aside0.mk (below_step (by repeat (first | (with_reducible first | exact HB.out | apply below_alloc | apply pw_below_drewN | apply below_drew1) | exact HB.out)) hb); have n1_ := Aside0.mk (hbox); have n2_ := Aside0.mk ((by rw [hg]; exact (below_size (by repeat (first | (with_reducible first | exact HB.out | apply below_alloc | apply pw_below_drewN | apply below_drew1) | exact HB.out))) : w.heap.size ≤ gb101)); have n3_ := Aside0.mk ((by rw [hg]; exact (below_size (by repeat (first | (with_reducible first | exact HB.out | apply below_alloc | apply pw_below_drewN | apply below_drew1) | exact HB.out))) : w.heap.size ≤ gb101)); clear HB; have HB := n0_; have BK101 := n1_; have GW101 := n2_; have GE101 := n3_; clear n0_ n1_ n2_ n3_; clear hb hbox hg; have hcz7_0 : w6.cell? ⟨gb101, 0, none⟩ = some (.int .i64 a0_0) := (blk_cell BK101.out 0).trans rfl; have hcz7_1 : w6.cell? ⟨gb101, 1, none⟩ = some (.int .i64 a0_1) := (blk_cell BK101.out 1).trans rfl; have hcz7_2 : w6.cell? ⟨gb101, 2, none⟩ = some (.int .i64 a0_2) := (blk_cell BK101.out 2).trans rfl; have hfz7_0 := blk_frozen BK101.out 0; have hfz7_1 := blk_frozen BK101.out 1; have hfz7_2 := blk_frozen BK101.out 2) | ((with_reducible refine gate_callee (f := 75) rfl ?_); refine goesL_ (some 5) rfl rfl Try.func75 (by kernel_rfl) rfl #[.int .i64 a0_0, .int .i64 1, .int .i64 8] rfl (by (try simp only [List.map_toArray, List.map_cons, List.map_nil]); first | done | rfl | (simp only [List.length_drop, List.length_take]; rfl)) ?_; (with_reducible refine (impl_in.calls a0_0 1 8 true _ A2.out).mono ?_); rintro e w' ⟨rfl, ⟨nd, rfl⟩⟩; refine ⟨_, rfl, ?_⟩) | (go_at_call 75; (with_reducible refine (impl_in.calls a0_1 a0_0 a0_2 true _ A4.out).mono ?_); rintro e w' ⟨rfl, ⟨nd, rfl⟩⟩))
      go_ret
      exact ⟨by first | rfl | (simp [errW_none, errW_some] <;> rfl) | (simp [*, errW_none, errW_some] <;> rfl), by repeat (first | (with_reducible first | exact HB.out | apply below_alloc | apply pw_below_drewN | apply below_drew1 | refine below_set ?_ GE101.out) | exact HB.out)⟩
    · replace c5 := Bool.eq_false_iff.mpr c5
      subst c5
      have H1 : (some false) = some r := by rw [if_neg (show ¬ (false = true) by decide)] at H; exact H
      clear H
      have H := H1
      clear H1
      obtain rfl := Option.some.inj H
      go_enter Try.func93, Try.ntmps93
      go_wp2_with (first | ((with_reducible refine gate_dst (N := 1) rfl ?_); refine box_event ?hg (N := 1) ?hd (cs := #[.int .i64 a0_0, .int .i64 a0_1, .int .i64 a0_2]) (t := 43) ?hr ?_; (case hd => rfl); (case hg => rfl); (case hr => first | (go_simp; done) | (go_simp; rfl)); intro gb101 hg w8 hbox hb; have n0_ := Aside0.mk (below_step (by repeat (first | (with_reducible first | exact HB.out | apply below_alloc | apply pw_below_drewN | apply below_drew1) | exact HB.out)) hb); have n1_ := Aside0.mk (hbox); have n2_ := Aside0.mk ((by rw [hg]; exact (below_size (by repeat (first | (with_reducible first | exact HB.out | apply below_alloc | apply pw_below_drewN | apply below_drew1) | exact HB.out))) : w.heap.size ≤ gb101)); have n3_ := Aside0.mk ((by rw [hg]; exact (below_size (by repeat (first | (with_reducible first | exact HB.out | apply below_alloc | apply pw_below_drewN | apply below_drew1) | exact HB.out))) : w.heap.size ≤ gb101)); clear HB; have HB := n0_; have BK101 := n1_; have GW101 := n2_; have GE101 := n3_; clear n0_ n1_ n2_ n3_; clear hb hbox hg; have hcz9_0 : w8.cell? ⟨gb101, 0, none⟩ = some (.int .i64 a0_0) := (blk_cell BK101.out 0).trans rfl; have hcz9_1 : w8.cell? ⟨gb101, 1, none⟩ = some (.int .i64 a0_1) := (blk_cell BK101.out 1).trans rfl; have hcz9_2 : w8.cell? ⟨gb101, 2, none⟩ = some (.int .i64 a0_2) := (blk_cell BK101.out 2).trans rfl; have hfz9_0 := blk_frozen BK101.out 0; have hfz9_1 := blk_frozen BK101.out 1; have hfz9_2 := blk_frozen BK101.out 2) | ((with_reducible refine gate_callee (f := 75) rfl ?_); refine goesL_ (some 5) rfl rfl Try.func75 (by kernel_rfl) rfl #[.int .i64 a0_0, .int .i64 1, .int .i64 8] rfl (by (try simp only [List.map_toArray, List.map_cons, List.map_nil]); first | done | rfl | (simp only [List.length_drop, List.length_take]; rfl)) ?_; (with_reducible refine (impl_in.calls a0_0 1 8 true _ A2.out).mono ?_); rintro e w' ⟨rfl, ⟨nd, rfl⟩⟩; refine ⟨_, rfl, ?_⟩) | (go_at_call 75; (with_reducible refine (impl_in.calls a0_1 a0_0 a0_2 false _ A4.out).mono ?_); rintro e w' ⟨rfl, ⟨nd, rfl⟩⟩))
      go_ret
      exact ⟨by first | rfl | (simp [errW_none, errW_some] <;> rfl) | (simp [*, errW_none, errW_some] <;> rfl), by repeat (first | (with_reducible first | exact HB.out | apply below_alloc | apply pw_below_drewN | apply below_drew1 | refine below_set ?_ GE101.out) | exact HB.out)⟩
  · replace c3 := Bool.eq_false_iff.mpr c3
    subst c3
    have H1 : (some false) = some r := by rw [if_neg (show ¬ (false = true) by decide)] at H; exact H
    clear H
    have H := H1
    clear H1
    obtain rfl := Option.some.inj H
    go_enter Try.func93, Try.ntmps93
    go_wp2_with (first | ((with_reducible refine gate_dst (N := 1) rfl ?_); refine box_event ?hg (N := 1) ?hd (cs := #[.int .i64 a0_0, .int .i64 a0_1, .int .i64 a0_2]) (t := 43) ?hr ?_; (case hd => rfl); (case hg => rfl); (case hr => first | (go_simp; done) | (go_simp; rfl)); intro gb101 hg w10 hbox hb; have n0_ := Aside0.mk (below_step (by repeat (first | (with_reducible first | exact HB.out | apply below_alloc | apply pw_below_drewN | apply below_drew1) | exact HB.out)) hb); have n1_ := Aside0.mk (hbox); have n2_ := Aside0.mk ((by rw [hg]; exact (below_size (by repeat (first | (with_reducible first | exact HB.out | apply below_alloc | apply pw_below_drewN | apply below_drew1) | exact HB.out))) : w.heap.size ≤ gb101)); have n3_ := Aside0.mk ((by rw [hg]; exact (below_size (by repeat (first | (with_reducible first | exact HB.out | apply below_alloc | apply pw_below_drewN | apply below_drew1) | exact HB.out))) : w.heap.size ≤ gb101)); clear HB; have HB := n0_; have BK101 := n1_; have GW101 := n2_; have GE101 := n3_; clear n0_ n1_ n2_ n3_; clear hb hbox hg; have hcz11_0 : w10.cell? ⟨gb101, 0, none⟩ = some (.int .i64 a0_0) := (blk_cell BK101.out 0).trans rfl; have hcz11_1 : w10.cell? ⟨gb101, 1, none⟩ = some (.int .i64 a0_1) := (blk_cell BK101.out 1).trans rfl; have hcz11_2 : w10.cell? ⟨gb101, 2, none⟩ = some (.int .i64 a0_2) := (blk_cell BK101.out 2).trans rfl; have hfz11_0 := blk_frozen BK101.out 0; have hfz11_1 := blk_frozen BK101.out 1; have hfz11_2 := blk_frozen BK101.out 2) | ((with_reducible refine gate_callee (f := 75) rfl ?_); refine goesL_ (some 5) rfl rfl Try.func75 (by kernel_rfl) rfl #[.int .i64 a0_0, .int .i64 1, .int .i64 8] rfl (by (try simp only [List.map_toArray, List.map_cons, List.map_nil]); first | done | rfl | (simp only [List.length_drop, List.length_take]; rfl)) ?_; (with_reducible refine (impl_in.calls a0_0 1 8 false _ A2.out).mono ?_); rintro e w' ⟨rfl, ⟨nd, rfl⟩⟩; refine ⟨_, rfl, ?_⟩))
    go_ret
    exact ⟨by first | rfl | (simp [errW_none, errW_some] <;> rfl) | (simp [*, errW_none, errW_some] <;> rfl), by repeat (first | (with_reducible first | exact HB.out | apply below_alloc | apply pw_below_drewN | apply below_drew1 | refine below_set ?_ GE101.out) | exact HB.out)⟩

end Go.Proofs.Ytfciajbahgjflaa.Print

namespace Go.Proofs.Ytfciajbahgjflaa.Print
open Go.RowKit Go.Proofs.YtfciajbahgjflaaW.PrintWords Go.Proofs.YtfciajbahgjflaaW.PrintLast Go.Proofs.YtfciajbahgjflaaW.PrintMore
attribute [local go_sem] max2_int min2_int max_two min_two max_three min_three max_four min_four   -- for this text's walks alone
set_option linter.unusedVariables false
set_option linter.unusedSimpArgs false

/-! ### impl_SetValid_1: function 92 -/
def impl_SetValid_1.f (a0_0 : Int) (a0_1 : Int) (a0_2 : Int) : Option (Bool) := (impl_TaskValid.f a0_0 a0_1 a0_2).bind fun t102 => (some (!t102))
set_option maxHeartbeats 8000000 in
set_option maxRecDepth 100000 in
theorem impl_SetValid_1.calls (a0_0 : Int) (a0_1 : Int) (a0_2 : Int) (r : Bool) (w : World) (h : impl_SetValid_1.f a0_0 a0_1 a0_2 = some r) :
    Calls Try.prog 92 #[.agg #[.int .i64 a0_0, .int .i64 a0_1, .int .i64 a0_2]] w fun e w' => e = .returned (.bool r) ∧ Below w.heap.size w w' := by
  have hu43 := Try.underlying43
  have HB := Aside0.mk (Below.refl w.heap.size w)
  have H : ((impl_TaskValid.f a0_0 a0_1 a0_2).bind fun t102 => (some (!t102))) = some r := h
  clear h
  replace H := Option.bind_eq_some_iff.mp H
  obtain ⟨t102, A20, H⟩ := H
  replace H : (some (!t102)) = some r := H
  have A2 := Aside0.mk A20
  clear A20
  obtain rfl := Option.some.inj H
  go_enter Try.func92, Try.ntmps92
  go_wp2_with (first | ((with_reducible refine gate_dst (N := 1) rfl ?_); refine box_event ?hg (N := 1) ?hd (cs := #[.int .i64 a0_0, .int .i64 a0_1, .int .i64 a0_2]) (t := 43) ?hr ?_; (case hd => rfl); (case hg => rfl); (case hr => first | (go_simp; done) | (go_simp; rfl)); intro gb101 hg w3 hbox hb; have n0_ := Aside0.mk (below_step (by repeat (first | (with_reducible first | exact HB.out | apply below_alloc | apply pw_below_drewN | apply below_drew1) | exact HB.out)) hb); have n1_ := Aside0.mk (hbox); have n2_ := Aside0.mk ((by rw [hg]; exact (below_size (by repeat (first | (with_reducible first | exact HB.out | apply below_alloc | apply pw_below_drewN | apply below_drew1) | exact HB.out))) : w.heap.size ≤ gb101)); have n3_ := Aside0.mk ((by rw [hg]; exact (below_size (by repeat (first | (with_reducible first | exact HB.out | apply below_alloc | apply pw_below_drewN | apply below_drew1) | exact HB.out))) : w.heap.size ≤ gb101)); clear HB; have HB := n0_; have BK101 := n1_; have GW101 := n2_; have GE101 := n3_; clear n0_ n1_ n2_ n3_; clear hb hbox hg; have hcz4_0 : w3.cell? ⟨gb101, 0, none⟩ = some (.int .i64 a0_0) := (blk_cell BK101.out 0).trans rfl; have hcz4_1 : w3.cell? ⟨gb101, 1, none⟩ = some (.int .i64 a0_1) := (blk_cell BK101.out 1).trans rfl; have hcz4_2 : w3.cell? ⟨gb101, 2, none⟩ = some (.int .i64 a0_2) := (blk_cell BK101.out 2).trans rfl; have hfz4_0 := blk_frozen BK101.out 0; have hfz4_1 := blk_frozen BK101.out 1; have hfz4_2 := blk_frozen BK101.out 2) | ((with_reducible refine gate_callee (f := 93) rfl ?_); refine goesL_ (some 4) rfl rfl Try.func93 (by kernel_rfl) rfl #[.agg #[.int .i64 a0_0, .int .i64 a0_1, .int .i64 a0_2]] rfl (by (try simp only [List.map_toArray, List.map_cons, List.map_nil]); first | done | rfl | (simp only [List.length_drop, List.length_take]; rfl)) ?_; (with_reducible refine (impl_TaskValid.calls a0_0 a0_1 a0_2 t102 _ A2.out).mono ?_); rintro e w5 ⟨rfl, hb⟩; refine ⟨_, rfl, ?_⟩; have n0_ := Aside0.mk (blk_below (g := gb101) (o := .cells #[.int .i64 a0_0, .int .i64 a0_1, .int .i64 a0_2] 43 (0, 0)) (by (with_reducible repeat (first | refine blk_drewN ?_ _ | refine blk_drew ?_ | refine blk_alloc ?_ _)); exact BK101.out) hb); have n1_ := Aside0.mk (below_step (by repeat (first | (with_reducible first | exact HB.out | apply below_alloc | apply pw_below_drewN | apply below_drew1 | refine below_set ?_ GE101.out) | exact HB.out)) hb); clear BK101; clear HB; have BK101 := n0_; have HB := n1_; clear n0_ n1_; (try clear hb); (try clear hb2); (try clear hk); (try clear hi)))
  go_ret
  exact ⟨by first | rfl | (simp [errW_none, errW_some] <;> rfl) | (simp [*, errW_none, errW_some] <;> rfl), by repeat (first | (with_reducible first | exact HB.out | apply below_alloc | apply pw_below_drewN | apply below_drew1 | refine below_set ?_ GE101.out) | exact HB.out)⟩

end Go.Proofs.Ytfciajbahgjflaa.Print

namespace Go.Proofs.Ytfciajbahgjflaa.Print
open Go.RowKit Go.Proofs.YtfciajbahgjflaaW.PrintWords Go.Proofs.YtfciajbahgjflaaW.PrintLast Go.Proofs.YtfciajbahgjflaaW.PrintMore
attribute [local go_sem] max2_int min2_int max_two min_two max_three min_three max_four min_four   -- for this text's walks alone
set_option linter.unusedVariables false
set_option linter.unusedSimpArgs false

/-! ### impl_SetValid: function 64 (given) -/
open Go.Proofs.Ytfciajbahgjflaa.Walk
def okTask (x : S43) : Bool := decide (1 ≤ x.f0 ∧ x.f0 ≤ 8 ∧ x.f0 ≤ x.f1 ∧ x.f1 ≤ x.f2 ∧ x.f2 ≤ 12)
theorem impl_in_f (a b c : Int) : impl_in.f a b c = some (decide (b ≤ a ∧ a ≤ c)) := by
  unfold impl_in.f
  by_cases h : a ≥ b
  · have h' : b ≤ a := h
    simp [h, h']
  · have h' : ¬ b ≤ a := h
    simp [h, h']
theorem impl_TaskValid_f (x : S43) : impl_TaskValid.f x.f0 x.f1 x.f2 = some (okTask x) := by
  unfold impl_TaskValid.f okTask
  simp only [impl_in_f, Option.bind_some, decide_eq_true_eq]
  split
  · split
    · congr 1; rw [Bool.eq_iff_iff]; simp only [decide_eq_true_eq, Bool.false_eq_true, false_iff]; omega
    · congr 1; rw [Bool.eq_iff_iff]; simp only [decide_eq_true_eq, Bool.false_eq_true, false_iff]; omega
  · congr 1; rw [Bool.eq_iff_iff]; simp only [decide_eq_true_eq, Bool.false_eq_true, false_iff]; omega

set_option maxHeartbeats 1000000 in
set_option maxRecDepth 100000 in
theorem IndexFunc_Task (p : S43 → Bool) (f : FuncId) (cap : Array Value) (w : World) (hcl : ∀ (x : S43) (W : World), Below w.heap.size w W → Calls Try.prog f (#[.agg #[.int .i64 x.f0, .int .i64 x.f1, .int .i64 x.f2]] ++ cap) W fun e w' => e = .returned (.bool (p x)) ∧ Below W.heap.size W w')
    {fn : Func} (hf : Try.prog.funcs[f]? = some fn) (hname : (fn.name == "runtime.NumGoroutine") = false) (hb : fn.body.isSome = true)
    (A0 : Option Addr) (c0 : Nat) (l0 : List (S43)) (hr0 : Kd.C k43 w A0 l0.length l0) (hc0 : l0.length ≤ c0) :
    Calls Try.prog 104 #[.slice A0 l0.length c0, .func (.func f) #[] cap] w fun e w' => e = .returned (.int .i64 (idxOf p l0)) ∧ Below w.heap.size w w' := by
  have hu := Try.underlying43
  have HR := Aside0.mk hr0
  have HC := Aside0.mk hc0
  have HCL := Aside0.mk hcl
  have HF := Aside0.mk hf
  have HB := Aside0.mk (Below.refl w.heap.size w)
  have hmx : l0.length ≤ 9223372036854775807 := hr0.2.1
  clear hr0 hc0 hcl hf
  go_enter Try.func104, Try.ntmps104
  go_wp2
  go_loopw [8] (fun v8 w' => ∃ j : Nat, v8 = .int .i64 j ∧ Aside0 (j ≤ l0.length ∧ ∀ i, i < j → p (l0.getD i z43) = false) ∧ Aside0 (Below w.heap.size w w')) (fun v8 _ => l0.length - (intOf v8).toNat)
  case atStart => exact ⟨0, rfl, ⟨by omega, fun i hi => absurd hi (by omega)⟩, HB⟩
  case round =>
    clear HB
    obtain ⟨j, rfl, ⟨HJ⟩, HB⟩ := hrel
    by_cases hlt : j < l0.length
    · have b1 : decide ((j : Int) < (l0.length : Int)) = true := decide_eq_true (by omega)
      obtain ⟨ad, e1, hx0, hx1, hx2⟩ := at_T43 HR.out (j : Int) (by omega) (by omega)
      cases e1
      replace hx0 := (HB.out.cell (World.block_lt_of_cell? w _ hx0)).trans hx0
      replace hx1 := (HB.out.cell (World.block_lt_of_cell? w _ hx1)).trans hx1
      replace hx2 := (HB.out.cell (World.block_lt_of_cell? w _ hx2)).trans hx2
      simp only [Int.toNat_natCast] at hx0 hx1 hx2
      have hrd : rd_T43 l0 (j : Int) = l0.getD j z43 := rfl
      rw [hrd] at hx0 hx1 hx2
      clear hrd
      obtain ⟨x, hx⟩ : ∃ x, x = l0.getD j z43 := ⟨_, rfl⟩
      rw [← hx] at hx0 hx1 hx2
      have q0 : 0 ≤ (j : Int) := by omega
      have q1 : (j : Int) < (l0.length : Int) := by omega
      have HX := Aside0.mk hx
      have HJA := Aside0.mk HJ
      clear HJ hx
      obtain ⟨b, hpb⟩ : ∃ b, b = p x := ⟨_, rfl⟩
      have HP := Aside0.mk hpb
      clear hpb
      cases b with
      | true =>
        go_wp2_with (with_reducible refine gate_value (n := 11) rfl ?_; go_must (refine goesF_ (some 16) rfl rfl rfl rfl HF.out hname hb (#[.agg #[.int .i64 x.f0, .int .i64 x.f1, .int .i64 x.f2]] ++ cap) (by simp [Act.eval]) ?_; refine (HCL.out x _ HB.out).mono ?_; rw [← HP.out]; rintro e w2 ⟨rfl, hb2⟩; refine ⟨_, rfl, ?_⟩; have n0_ := Aside0.mk (below_step HB.out hb2); clear hb2 HB; have HB := n0_; clear n0_))
        go_ret
        exact ⟨by rw [idxOf_at z43 hlt HJA.out.2 (by rw [← HX.out]; exact HP.out.symm)]; rfl, HB.out⟩
      | false =>
        go_wp2_with (with_reducible refine gate_value (n := 11) rfl ?_; go_must (refine goesF_ (some 16) rfl rfl rfl rfl HF.out hname hb (#[.agg #[.int .i64 x.f0, .int .i64 x.f1, .int .i64 x.f2]] ++ cap) (by simp [Act.eval]) ?_; refine (HCL.out x _ HB.out).mono ?_; rw [← HP.out]; rintro e w2 ⟨rfl, hb2⟩; refine ⟨_, rfl, ?_⟩; have n0_ := Aside0.mk (below_step HB.out hb2); clear hb2 HB; have HB := n0_; clear n0_))
        go_roundw
        case rel =>
          refine ⟨j + 1, by go_num, ⟨by omega, fun i hi => ?_⟩, HB⟩
          by_cases hij : i = j
          · rw [hij, ← HX.out]; exact HP.out.symm
          · exact HJA.out.2 i (by omega)
        case measure => simp [intOf]; omega
    · have b1 : decide ((j : Int) < (l0.length : Int)) = false := decide_eq_false (by omega)
      have HJA := Aside0.mk HJ
      clear HJ
      go_wp2
      go_ret
      exact ⟨by rw [idxOf_none z43 (fun i hi => HJA.out.2 i (by omega))]; rfl, HB.out⟩

set_option maxHeartbeats 1000000 in
set_option maxRecDepth 100000 in
theorem ContainsFunc_Task (p : S43 → Bool) (f : FuncId) (cap : Array Value) (w : World) (hcl : ∀ (x : S43) (W : World), Below w.heap.size w W → Calls Try.prog f (#[.agg #[.int .i64 x.f0, .int .i64 x.f1, .int .i64 x.f2]] ++ cap) W fun e w' => e = .returned (.bool (p x)) ∧ Below W.heap.size W w')
    {fn : Func} (hf : Try.prog.funcs[f]? = some fn) (hname : (fn.name == "runtime.NumGoroutine") = false) (hb : fn.body.isSome = true)
    (A0 : Option Addr) (c0 : Nat) (l0 : List (S43)) (hr0 : Kd.C k43 w A0 l0.length l0) (hc0 : l0.length ≤ c0) :
    Calls Try.prog 91 #[.slice A0 l0.length c0, .func (.func f) #[] cap] w fun e w' => e = .returned (.bool (l0.any p)) ∧ Below w.heap.size w w' := by
  have H := Lib.hid (IndexFunc_Task p f cap w hcl hf hname hb A0 c0 l0 hr0 hc0)
  clear hr0 hc0 hcl hf
  go_enter Try.func91, Try.ntmps91
  go_wp2_with (go_at_call 104; refine H.out.mono ?_; rintro e w2 ⟨rfl, hb2⟩)
  go_ret
  exact ⟨by rw [← idxOf_neg]; rfl, hb2⟩
def impl_SetValid.f (l0 : List (S43)) : Option Bool := some (decide (l0.length ≤ 5) && l0.all okTask)
set_option maxHeartbeats 1000000 in
set_option maxRecDepth 100000 in
theorem impl_SetValid.calls (A0 : Option Addr) (c0 : Nat) (l0 : List (S43)) (r : Bool) (w : World) (hr0 : Kd.C k43 w A0 l0.length l0) (hc0 : l0.length ≤ c0) (h : impl_SetValid.f l0 = some r) :
    Calls Try.prog 64 #[.slice A0 l0.length c0] w fun e w' => e = .returned (.bool r) ∧ Below w.heap.size w w' := by
  obtain rfl := Option.some.inj h
  clear h
  have hcl : ∀ (x : S43) (W : World), Calls Try.prog 92 #[.agg #[.int .i64 x.f0, .int .i64 x.f1, .int .i64 x.f2]] W fun e w' => e = .returned (.bool (!okTask x)) ∧ Below W.heap.size W w' :=
    fun x W => impl_SetValid_1.calls x.f0 x.f1 x.f2 _ W (by unfold impl_SetValid_1.f; rw [impl_TaskValid_f]; rfl)
  have H := Lib.hid (ContainsFunc_Task (fun x => !okTask x) 92 #[] w (fun x W _ => hcl x W) Try.func92 (by kernel_rfl) rfl A0 c0 l0 hr0 hc0)
  clear hcl hr0 hc0
  have hany : l0.any (fun x => !okTask x) = !l0.all okTask := by rw [List.all_eq_not_any_not, Bool.not_not]
  by_cases hl : l0.length ≤ 5
  · have b1 : decide ((l0.length : Int) ≤ 5) = true := decide_eq_true (by omega)
    have HA := Lib.hid hany
    clear hany
    go_enter Try.func64, Try.ntmps64
    go_wp2_with (go_at_call 91; refine H.out.mono ?_; rintro e w2 ⟨rfl, hb2⟩)
    go_ret
    exact ⟨by rw [HA.out]; simp [hl], hb2⟩
  · have b1 : decide ((l0.length : Int) ≤ 5) = false := decide_eq_false (by omega)
    clear hany
    go_enter Try.func64, Try.ntmps64
    go_wp2
    go_ret
    exact ⟨by simp [hl], Below.refl _ _⟩

end Go.Proofs.Ytfciajbahgjflaa.Print

namespace Go.Proofs.Ytfciajbahgjflaa.Print
open Go.RowKit Go.Proofs.YtfciajbahgjflaaW.PrintWords Go.Proofs.YtfciajbahgjflaaW.PrintLast Go.Proofs.YtfciajbahgjflaaW.PrintMore
attribute [local go_sem] max2_int min2_int max_two min_two max_three min_three max_four min_four   -- for this text's walks alone
set_option linter.unusedVariables false
set_option linter.unusedSimpArgs false

/-! ### impl_FirstOverload: function 95 -/
def impl_FirstOverload.l0 : Nat → List (S43) → Int → Option (Int)
  | 0, _, _ => none
  | k + 1, x0, x3 => (impl_hyper.f k x0).bind fun t102 => (if x3 ≤ t102 then ((impl_demand.f k x0 x3).bind fun t103 => (if t103 > x3 then (some x3) else (impl_FirstOverload.l0 k x0 (wrap64 (x3 + 1))))) else (some (-1)))
def impl_FirstOverload.f (k : Nat) (l0 : List (S43)) : Option (Int) := (impl_SetValid.f l0).bind fun t101 => (if t101 = true then (impl_FirstOverload.l0 k l0 1) else (some (-1)))
theorem impl_FirstOverload.mono_l : ∀ k, (∀ y0 y1, LeO (impl_FirstOverload.l0 k y0 y1) (impl_FirstOverload.l0 (k + 1) y0 y1))
  | 0 => fun _ _ r h => by simp [impl_FirstOverload.l0] at h
  | k + 1 => by
    have ih0 := impl_FirstOverload.mono_l k
    · intro y0 y1
      unfold impl_FirstOverload.l0
      repeat' first
      | (with_reducible exact ih0 _ _)
      | (with_reducible exact impl_demand.mono _ _ _)
      | (with_reducible exact impl_hyper.mono _ _)
      | (with_reducible exact LeO.refl _)
      | (with_reducible exact LeO.none _)
      | (with_reducible refine LeO.ite ?_ ?_)
      | (with_reducible refine LeO.bind ?_ (fun _ => ?_))
      | exact ih0 _ _
      | exact impl_demand.mono _ _ _
      | exact impl_hyper.mono _ _
      | exact LeO.none _
      | refine LeO.ite ?_ ?_
      | refine LeO.bind ?_ (fun _ => ?_)
theorem impl_FirstOverload.mono : ∀ a0 k, LeO (impl_FirstOverload.f k a0) (impl_FirstOverload.f (k + 1) a0) := by
  intro a0 k
  have ih0 := impl_FirstOverload.mono_l k
  unfold impl_FirstOverload.f
  repeat' first
      | (with_reducible exact ih0 _ _)
      | (with_reducible exact impl_demand.mono _ _ _)
      | (with_reducible exact impl_hyper.mono _ _)
      | (with_reducible exact LeO.refl _)
      | (with_reducible exact LeO.none _)
      | (with_reducible refine LeO.ite ?_ ?_)
      | (with_reducible refine LeO.bind ?_ (fun _ => ?_))
      | exact ih0 _ _
      | exact impl_demand.mono _ _ _
      | exact impl_hyper.mono _ _
      | exact LeO.none _
      | refine LeO.ite ?_ ?_
      | refine LeO.bind ?_ (fun _ => ?_)
set_option maxHeartbeats 8000000 in
set_option maxRecDepth 100000 in
theorem impl_FirstOverload.calls (k : Nat) (A0 : Option Addr) (c0 : Nat) (l0 : List (S43)) (r : Int) (w : World) (hr0 : Kd.C k43 w A0 l0.length l0) (hc0 : l0.length ≤ c0) (h : impl_FirstOverload.f k l0 = some r) :
    Calls Try.prog 95 #[.slice A0 l0.length c0] w fun e w' => e = .returned (.int .i64 r) ∧ Below w.heap.size w w' := by
  have HR0 := Aside0.mk hr0
  have HC0 := Aside0.mk hc0
  clear hr0 hc0
  have HB := Aside0.mk (Below.refl w.heap.size w)
  have H : ((impl_SetValid.f l0).bind fun t101 => (if t101 = true then (impl_FirstOverload.l0 k l0 1) else (some (-1)))) = some r := h
  clear h
  replace H := Option.bind_eq_some_iff.mp H
  obtain ⟨t101, A20, H⟩ := H
  replace H : (if t101 = true then (impl_FirstOverload.l0 k l0 1) else (some (-1))) = some r := H
  have A2 := Aside0.mk A20
  clear A20
  by_cases c3 : t101 = true
  · subst c3
    have H1 : (impl_FirstOverload.l0 k l0 1) = some r := by rw [if_pos rfl] at H; exact H
    clear H
    have H := H1
    clear H1
    have H' := Aside0.mk H
    clear H
    go_enter Try.func95, Try.ntmps95
    go_wp2_with (first | ((with_reducible refine gate_callee (f := 64) rfl ?_); refine goesL_ (some 5) rfl rfl Try.func64 (by kernel_rfl) rfl #[.slice A0 l0.length c0] rfl (by (try simp only [List.map_toArray, List.map_cons, List.map_nil]); first | done | rfl | (simp only [List.length_drop, List.length_take]; rfl)) ?_; (with_reducible refine (impl_SetValid.calls _ _ l0 true _ ?side1 ?side2 A2.out).mono ?_); (case side1 => repeat (first | exact HR0.out | (with_reducible refine Kd.C_alloc ?_ _) | (with_reducible refine Kd.C_drewN ?_ _) | (with_reducible refine Kd.C_drew ?_))); (case side2 => exact HC0.out); rintro e w4 ⟨rfl, hb⟩; refine ⟨_, rfl, ?_⟩; have n0_ := Aside0.mk (below_step (by repeat (first | (with_reducible first | exact HB.out | apply below_alloc | apply pw_below_drewN | apply below_drew1) | exact HB.out)) hb); clear HB; have HB := n0_; clear n0_; (try clear hb); (try clear hb2); (try clear hk); (try clear hi)))
    go_loopg [3] k (fun kq v3 w' => ∃ (x3_1 : Int), v3 = .int .i64 x3_1 ∧ Aside0 (impl_FirstOverload.l0 kq l0 x3_1 = some r) ∧ Aside0 (kq ≤ k) ∧ Aside0 (Below w.heap.size w w'))
    case atStart => exact ⟨(1), (by first | rfl | (simp; done) | (simp [*]; done) | (simp only [i64_w, i32_w]; done) | (simp [*, i64_w, i32_w]; done)), H', ⟨Nat.le_refl _⟩, ⟨by repeat (first | (with_reducible first | exact HB.out | apply below_alloc | apply pw_below_drewN | apply below_drew1) | exact HB.out)⟩⟩
    case round =>
      clear H'
      try clear p2
      try clear c3
      obtain ⟨x3_1, rfl, HA, HK1, HB⟩ := hrel
      cases gk with
      | zero => exact absurd HA.out (by simp [impl_FirstOverload.l0])
      | succ k1 =>
        have H := HA.out
        clear HA
        simp only [impl_FirstOverload.l0] at H
        replace H := Option.bind_eq_some_iff.mp H
        obtain ⟨t102, A50, H⟩ := H
        replace H : (if x3_1 ≤ t102 then ((impl_demand.f k1 l0 x3_1).bind fun t103 => (if t103 > x3_1 then (some x3_1) else (impl_FirstOverload.l0 k1 l0 (wrap64 (x3_1 + 1))))) else (some (-1))) = some r := H
        have A5 := Aside0.mk A50
        clear A50
        by_cases c6 : x3_1 ≤ t102
        · rw [if_pos c6] at H
          have c6b0 : decide (x3_1 ≤ t102) = true := decide_eq_true c6
          clear c6
          replace H := Option.bind_eq_some_iff.mp H
          obtain ⟨t103, A70, H⟩ := H
          replace H : (if t103 > x3_1 then (some x3_1) else (impl_FirstOverload.l0 k1 l0 (wrap64 (x3_1 + 1)))) = some r := H
          have A7 := Aside0.mk A70
          clear A70
          by_cases c8 : t103 > x3_1
          · rw [if_pos c8] at H
            have c8b0 : decide (x3_1 < t103) = true := decide_eq_true c8
            clear c8
            obtain rfl := Option.some.inj H
            go_wp2_with (first | ((with_reducible refine gate_callee (f := 80) rfl ?_); refine goesL_ (some 9) rfl rfl Try.func80 (by kernel_rfl) rfl #[.slice A0 l0.length c0] rfl (by (try simp only [List.map_toArray, List.map_cons, List.map_nil]); first | done | rfl | (simp only [List.length_drop, List.length_take]; rfl)) ?_; (with_reducible refine (impl_hyper.calls k1 _ _ l0 t102 _ ?side1 ?side2 A5.out).mono ?_); (case side1 => repeat (first | exact (Kd.C_below HR0.out HB.out) | (with_reducible refine Kd.C_alloc ?_ _) | (with_reducible refine Kd.C_drewN ?_ _) | (with_reducible refine Kd.C_drew ?_))); (case side2 => exact HC0.out); rintro e w9 ⟨rfl, hb⟩; refine ⟨_, rfl, ?_⟩; have n0_ := Aside0.mk (below_step (by repeat (first | (with_reducible first | exact HB.out | apply below_alloc | apply pw_below_drewN | apply below_drew1) | exact HB.out)) hb); clear HB; have HB := n0_; clear n0_; (try clear hb); (try clear hb2); (try clear hk); (try clear hi)) | ((with_reducible refine gate_callee (f := 106) rfl ?_); refine goesL_ (some 15) rfl rfl Try.func106 (by kernel_rfl) rfl #[.slice A0 l0.length c0, .int .i64 x3_1] rfl (by (try simp only [List.map_toArray, List.map_cons, List.map_nil]); first | done | rfl | (simp only [List.length_drop, List.length_take]; rfl)) ?_; (with_reducible refine (impl_demand.calls k1 _ _ l0 x3_1 t103 _ ?side1 ?side2 A7.out).mono ?_); (case side1 => repeat (first | exact (Kd.C_below HR0.out HB.out) | (with_reducible refine Kd.C_alloc ?_ _) | (with_reducible refine Kd.C_drewN ?_ _) | (with_reducible refine Kd.C_drew ?_))); (case side2 => exact HC0.out); rintro e w10 ⟨rfl, hb⟩; refine ⟨_, rfl, ?_⟩; have n0_ := Aside0.mk (below_step (by repeat (first | (with_reducible first | exact HB.out | apply below_alloc | apply pw_below_drewN | apply below_drew1) | exact HB.out)) hb); clear HB; have HB := n0_; clear n0_; (try clear hb); (try clear hb2); (try clear hk); (try clear hi)))
            go_ret
            exact ⟨by first | rfl | (simp [errW_none, errW_some] <;> rfl) | (simp [*, errW_none, errW_some] <;> rfl), by repeat (first | (with_reducible first | exact HB.out | apply below_alloc | apply pw_below_drewN | apply below_drew1) | exact HB.out)⟩
          · rw [if_neg c8] at H
            have c8b0 : decide (x3_1 < t103) = false := decide_eq_false c8
            clear c8
            have H' := Aside0.mk H
            clear H
            go_wp2_with (first | ((with_reducible refine gate_callee (f := 80) rfl ?_); refine goesL_ (some 9) rfl rfl Try.func80 (by kernel_rfl) rfl #[.slice A0 l0.length c0] rfl (by (try simp only [List.map_toArray, List.map_cons, List.map_nil]); first | done | rfl | (simp only [List.length_drop, List.length_take]; rfl)) ?_; (with_reducible refine (impl_hyper.calls k1 _ _ l0 t102 _ ?side1 ?side2 A5.out).mono ?_); (case side1 => repeat (first | exact (Kd.C_below HR0.out HB.out) | (with_reducible refine Kd.C_alloc ?_ _) | (with_reducible refine Kd.C_drewN ?_ _) | (with_reducible refine Kd.C_drew ?_))); (case side2 => exact HC0.out); rintro e w11 ⟨rfl, hb⟩; refine ⟨_, rfl, ?_⟩; have n0_ := Aside0.mk (below_step (by repeat (first | (with_reducible first | exact HB.out | apply below_alloc | apply pw_below_drewN | apply below_drew1) | exact HB.out)) hb); clear HB; have HB := n0_; clear n0_; (try clear hb); (try clear hb2); (try clear hk); (try clear hi)) | ((with_reducible refine gate_callee (f := 106) rfl ?_); refine goesL_ (some 15) rfl rfl Try.func106 (by kernel_rfl) rfl #[.slice A0 l0.length c0, .int .i64 x3_1] rfl (by (try simp only [List.map_toArray, List.map_cons, List.map_nil]); first | done | rfl | (simp only [List.length_drop, List.length_take]; rfl)) ?_; (with_reducible refine (impl_demand.calls k1 _ _ l0 x3_1 t103 _ ?side1 ?side2 A7.out).mono ?_); (case side1 => repeat (first | exact (Kd.C_below HR0.out HB.out) | (with_reducible refine Kd.C_alloc ?_ _) | (with_reducible refine Kd.C_drewN ?_ _) | (with_reducible refine Kd.C_drew ?_))); (case side2 => exact HC0.out); rintro e w12 ⟨rfl, hb⟩; refine ⟨_, rfl, ?_⟩; have n0_ := Aside0.mk (below_step (by repeat (first | (with_reducible first | exact HB.out | apply below_alloc | apply pw_below_drewN | apply below_drew1) | exact HB.out)) hb); clear HB; have HB := n0_; clear n0_; (try clear hb); (try clear hb2); (try clear hk); (try clear hi)))
            go_roundg k1
            case measure => have := HK1.out; omega
            case rel => exact ⟨(wrap64 (x3_1 + 1)), (by first | rfl | (simp; done) | (simp [*]; done) | (simp only [i64_w, i32_w]; done) | (simp [*, i64_w, i32_w]; done)), H', ⟨by have := HK1.out; omega⟩, ⟨by repeat (first | (with_reducible first | exact HB.out | apply below_alloc | apply pw_below_drewN | apply below_drew1) | exact HB.out)⟩⟩
        · rw [if_neg c6] at H
          have c6b0 : decide (x3_1 ≤ t102) = false := decide_eq_false c6
          clear c6
          obtain rfl := Option.some.inj H
          go_wp2_with (first | ((with_reducible refine gate_callee (f := 80) rfl ?_); refine goesL_ (some 9) rfl rfl Try.func80 (by kernel_rfl) rfl #[.slice A0 l0.length c0] rfl (by (try simp only [List.map_toArray, List.map_cons, List.map_nil]); first | done | rfl | (simp only [List.length_drop, List.length_take]; rfl)) ?_; (with_reducible refine (impl_hyper.calls k1 _ _ l0 t102 _ ?side1 ?side2 A5.out).mono ?_); (case side1 => repeat (first | exact (Kd.C_below HR0.out HB.out) | (with_reducible refine Kd.C_alloc ?_ _) | (with_reducible refine Kd.C_drewN ?_ _) | (with_reducible refine Kd.C_drew ?_))); (case side2 => exact HC0.out); rintro e w13 ⟨rfl, hb⟩; refine ⟨_, rfl, ?_⟩; have n0_ := Aside0.mk (below_step (by repeat (first | (with_reducible first | exact HB.out | apply below_alloc | apply pw_below_drewN | apply below_drew1) | exact HB.out)) hb); clear HB; have HB := n0_; clear n0_; (try clear hb); (try clear hb2); (try clear hk); (try clear hi)))
          go_ret
          exact ⟨by first | rfl | (simp [errW_none, errW_some] <;> rfl) | (simp [*, errW_none, errW_some] <;> rfl), by repeat (first | (with_reducible first | exact HB.out | apply below_alloc | apply pw_below_drewN | apply below_drew1) | exact HB.out)⟩
  · replace c3 := Bool.eq_false_iff.mpr c3
    subst c3
    have H1 : (some (-1)) = some r := by rw [if_neg (show ¬ (false = true) by decide)] at H; exact H
    clear H
    have H := H1
    clear H1
    obtain rfl := Option.some.inj H
    go_enter Try.func95, Try.ntmps95
    go_wp2_with (first | ((with_reducible refine gate_callee (f := 64) rfl ?_); refine goesL_ (some 5) rfl rfl Try.func64 (by kernel_rfl) rfl #[.slice A0 l0.length c0] rfl (by (try simp only [List.map_toArray, List.map_cons, List.map_nil]); first | done | rfl | (simp only [List.length_drop, List.length_take]; rfl)) ?_; (with_reducible refine (impl_SetValid.calls _ _ l0 false _ ?side1 ?side2 A2.out).mono ?_); (case side1 => repeat (first | exact HR0.out | (with_reducible refine Kd.C_alloc ?_ _) | (with_reducible refine Kd.C_drewN ?_ _) | (with_reducible refine Kd.C_drew ?_))); (case side2 => exact HC0.out); rintro e w14 ⟨rfl, hb⟩; refine ⟨_, rfl, ?_⟩; have n0_ := Aside0.mk (below_step (by repeat (first | (with_reducible first | exact HB.out | apply below_alloc | apply pw_below_drewN | apply below_drew1) | exact HB.out)) hb); clear HB; have HB := n0_; clear n0_; (try clear hb); (try clear hb2); (try clear hk); (try clear hi)))
    go_ret
    exact ⟨by first | rfl | (simp [errW_none, errW_some] <;> rfl) | (simp [*, errW_none, errW_some] <;> rfl), by repeat (first | (with_reducible first | exact HB.out | apply below_alloc | apply pw_below_drewN | apply below_drew1) | exact HB.out)⟩

end Go.Proofs.Ytfciajbahgjflaa.Print

namespace Go.Proofs.Ytfciajbahgjflaa.Print
open Go.RowKit Go.Proofs.YtfciajbahgjflaaW.PrintWords Go.Proofs.YtfciajbahgjflaaW.PrintLast Go.Proofs.YtfciajbahgjflaaW.PrintMore
attribute [local go_sem] max2_int min2_int max_two min_two max_three min_three max_four min_four   -- for this text's walks alone
set_option linter.unusedVariables false
set_option linter.unusedSimpArgs false

/-! ### impl_feasible: function 67 -/
def impl_feasible.f (k : Nat) (l0 : List (S43)) : Option (Bool) := (impl_FirstOverload.f k l0).bind fun t101 => (some (decide (t101 < 0)))
theorem impl_feasible.mono : ∀ a0 k, LeO (impl_feasible.f k a0) (impl_feasible.f (k + 1) a0) := by
  intro a0 k
  unfold impl_feasible.f
  repeat' first
      | (with_reducible exact impl_FirstOverload.mono _ _)
      | (with_reducible exact LeO.refl _)
      | (with_reducible exact LeO.none _)
      | (with_reducible refine LeO.ite ?_ ?_)
      | (with_reducible refine LeO.bind ?_ (fun _ => ?_))
      | exact impl_FirstOverload.mono _ _
      | exact LeO.none _
      | refine LeO.ite ?_ ?_
      | refine LeO.bind ?_ (fun _ => ?_)
set_option maxHeartbeats 8000000 in
set_option maxRecDepth 100000 in
theorem impl_feasible.calls (k : Nat) (A0 : Option Addr) (c0 : Nat) (l0 : List (S43)) (r : Bool) (w : World) (hr0 : Kd.C k43 w A0 l0.length l0) (hc0 : l0.length ≤ c0) (h : impl_feasible.f k l0 = some r) :
    Calls Try.prog 67 #[.slice A0 l0.length c0] w fun e w' => e = .returned (.bool r) ∧ Below w.heap.size w w' := by
  have HR0 := Aside0.mk hr0
  have HC0 := Aside0.mk hc0
  clear hr0 hc0
  have HB := Aside0.mk (Below.refl w.heap.size w)
  have H : ((impl_FirstOverload.f k l0).bind fun t101 => (some (decide (t101 < 0)))) = some r := h
  clear h
  replace H := Option.bind_eq_some_iff.mp H
  obtain ⟨t101, A20, H⟩ := H
  replace H : (some (decide (t101 < 0))) = some r := H
  have A2 := Aside0.mk A20
  clear A20
  obtain rfl := Option.some.inj H
  go_enter Try.func67, Try.ntmps67
  go_wp2_with (first | ((with_reducible refine gate_callee (f := 95) rfl ?_); refine goesL_ (some 4) rfl rfl Try.func95 (by kernel_rfl) rfl #[.slice A0 l0.length c0] rfl (by (try simp only [List.map_toArray, List.map_cons, List.map_nil]); first | done | rfl | (simp only [List.length_drop, List.length_take]; rfl)) ?_; (with_reducible refine (impl_FirstOverload.calls k _ _ l0 t101 _ ?side1 ?side2 A2.out).mono ?_); (case side1 => repeat (first | exact HR0.out | (with_reducible refine Kd.C_alloc ?_ _) | (with_reducible refine Kd.C_drewN ?_ _) | (with_reducible refine Kd.C_drew ?_))); (case side2 => exact HC0.out); rintro e w3 ⟨rfl, hb⟩; refine ⟨_, rfl, ?_⟩; have n0_ := Aside0.mk (below_step (by repeat (first | (with_reducible first | exact HB.out | apply below_alloc | apply pw_below_drewN | apply below_drew1) | exact HB.out)) hb); clear HB; have HB := n0_; clear n0_; (try clear hb); (try clear hb2); (try clear hk); (try clear hi)))
  go_ret
  exact ⟨by first | rfl | (simp [errW_none, errW_some] <;> rfl) | (simp [*, errW_none, errW_some] <;> rfl), by repeat (first | (with_reducible first | exact HB.out | apply below_alloc | apply pw_below_drewN | apply below_drew1) | exact HB.out)⟩

end Go.Proofs.Ytfciajbahgjflaa.Print

namespace Go.Proofs.Ytfciajbahgjflaa.Print
open Go.RowKit Go.Proofs.YtfciajbahgjflaaW.PrintWords Go.Proofs.YtfciajbahgjflaaW.PrintLast Go.Proofs.YtfciajbahgjflaaW.PrintMore
attribute [local go_sem] max2_int min2_int max_two min_two max_three min_three max_four min_four   -- for this text's walks alone
set_option linter.unusedVariables false
set_option linter.unusedSimpArgs false

/-! ### impl_isCores: function 65 -/
def impl_isCores.f (a0 : Int) : Option (Bool) := (impl_in.f a0 1 5).bind fun t101 => (some t101)
set_option maxHeartbeats 8000000 in
set_option maxRecDepth 100000 in
theorem impl_isCores.calls (a0 : Int) (r : Bool) (w : World) (h : impl_isCores.f a0 = some r) :
    Calls Try.prog 65 #[.int .i64 a0] w fun e w' => e = .returned (.bool r) ∧ Drawn0 w w' := by
  have H : ((impl_in.f a0 1 5).bind fun t101 => (some t101)) = some r := h
  clear h
  replace H := Option.bind_eq_some_iff.mp H
  obtain ⟨t101, A20, H⟩ := H
  replace H : (some t101) = some r := H
  have A2 := Aside0.mk A20
  clear A20
  obtain rfl := Option.some.inj H
  go_enter Try.func65, Try.ntmps65
  go_wp2_with (first | ((with_reducible refine gate_callee (f := 75) rfl ?_); refine goesL_ (some 4) rfl rfl Try.func75 (by kernel_rfl) rfl #[.int .i64 a0, .int .i64 1, .int .i64 5] rfl (by (try simp only [List.map_toArray, List.map_cons, List.map_nil]); first | done | rfl | (simp only [List.length_drop, List.length_take]; rfl)) ?_; (with_reducible refine (impl_in.calls a0 1 5 t101 _ A2.out).mono ?_); rintro e w' ⟨rfl, ⟨nd, rfl⟩⟩; refine ⟨_, rfl, ?_⟩))
  go_ret
  exact ⟨by first | rfl | (simp; done) | (simp [*]; done) | (simp only [i64_w, i32_w]; done) | (simp [*, i64_w, i32_w]; done), by repeat (first | exact Drawn0.refl _ | apply Drawn0.step)⟩

end Go.Proofs.Ytfciajbahgjflaa.Print

namespace Go.Proofs.Ytfciajbahgjflaa.Print
open Go.RowKit Go.Proofs.YtfciajbahgjflaaW.PrintWords Go.Proofs.YtfciajbahgjflaaW.PrintLast Go.Proofs.YtfciajbahgjflaaW.PrintMore
attribute [local go_sem] max2_int min2_int max_two min_two max_three min_three max_four min_four   -- for this text's walks alone
set_option linter.unusedVariables false
set_option linter.unusedSimpArgs false

/-! ### bits_Mul64: function 111 -/
def bits_Mul64.f (a0 : Int) (a1 : Int) : Option (Int × Int) := some (IntKind.u64.wrap ((IntKind.u64.wrap ((IntKind.u64.wrap ((a0 / 4294967296) * (a1 / 4294967296))) + ((IntKind.u64.wrap ((IntKind.u64.wrap ((a0 / 4294967296) * (Go.bits .and .u64 a1 4294967295))) + ((IntKind.u64.wrap ((Go.bits .and .u64 a0 4294967295) * (Go.bits .and .u64 a1 4294967295))) / 4294967296))) / 4294967296))) + ((IntKind.u64.wrap ((Go.bits .and .u64 (IntKind.u64.wrap ((IntKind.u64.wrap ((a0 / 4294967296) * (Go.bits .and .u64 a1 4294967295))) + ((IntKind.u64.wrap ((Go.bits .and .u64 a0 4294967295) * (Go.bits .and .u64 a1 4294967295))) / 4294967296))) 4294967295) + (IntKind.u64.wrap ((Go.bits .and .u64 a0 4294967295) * (a1 / 4294967296))))) / 4294967296)), IntKind.u64.wrap (a0 * a1))
set_option maxHeartbeats 8000000 in
set_option maxRecDepth 100000 in
theorem bits_Mul64.calls (a0 : Int) (a1 : Int) (r1 : Int) (r2 : Int) (w : World) (h : bits_Mul64.f a0 a1 = some (r1, r2)) :
    Calls Try.prog 111 #[.int .u64 a0, .int .u64 a1] w fun e w' => e = .returned (.tuple #[.int .u64 r1, .int .u64 r2]) ∧ Drawn0 w w' := by
  have H : (some (IntKind.u64.wrap ((IntKind.u64.wrap ((IntKind.u64.wrap ((a0 / 4294967296) * (a1 / 4294967296))) + ((IntKind.u64.wrap ((IntKind.u64.wrap ((a0 / 4294967296) * (Go.bits .and .u64 a1 4294967295))) + ((IntKind.u64.wrap ((Go.bits .and .u64 a0 4294967295) * (Go.bits .and .u64 a1 4294967295))) / 4294967296))) / 4294967296))) + ((IntKind.u64.wrap ((Go.bits .and .u64 (IntKind.u64.wrap ((IntKind.u64.wrap ((a0 / 4294967296) * (Go.bits .and .u64 a1 4294967295))) + ((IntKind.u64.wrap ((Go.bits .and .u64 a0 4294967295) * (Go.bits .and .u64 a1 4294967295))) / 4294967296))) 4294967295) + (IntKind.u64.wrap ((Go.bits .and .u64 a0 4294967295) * (a1 / 4294967296))))) / 4294967296)), IntKind.u64.wrap (a0 * a1))) = some (r1, r2) := h
  clear h
  simp only [Option.some.injEq, Prod.mk.injEq] at H
  obtain ⟨rfl, rfl⟩ := H
  go_enter Try.func111, Try.ntmps111
  go_wp2
  go_ret2
  exact ⟨by first | rfl | (simp; done) | (simp [*]; done) | (simp only [i64_w, i32_w]; done) | (simp [*, i64_w, i32_w]; done), by repeat (first | exact Drawn0.refl _ | apply Drawn0.step)⟩

end Go.Proofs.Ytfciajbahgjflaa.Print

namespace Go.Proofs.Ytfciajbahgjflaa.Print
open Go.RowKit Go.Proofs.YtfciajbahgjflaaW.PrintWords Go.Proofs.YtfciajbahgjflaaW.PrintLast Go.Proofs.YtfciajbahgjflaaW.PrintMore
attribute [local go_sem] max2_int min2_int max_two min_two max_three min_three max_four min_four   -- for this text's walks alone
set_option linter.unusedVariables false
set_option linter.unusedSimpArgs false

/-! ### bits_Mul: function 105 -/
def bits_Mul.f (a0 : Int) (a1 : Int) : Option (Int × Int) := (bits_Mul64.f a0 a1).bind fun bt101 => (some (bt101.1, bt101.2))
set_option maxHeartbeats 8000000 in
set_option maxRecDepth 100000 in
theorem bits_Mul.calls (a0 : Int) (a1 : Int) (r1 : Int) (r2 : Int) (w : World) (h : bits_Mul.f a0 a1 = some (r1, r2)) :
    Calls Try.prog 105 #[.int .u64 a0, .int .u64 a1] w fun e w' => e = .returned (.tuple #[.int .u64 r1, .int .u64 r2]) ∧ Drawn0 w w' := by
  have H : ((bits_Mul64.f a0 a1).bind fun bt101 => (some (bt101.1, bt101.2))) = some (r1, r2) := h
  clear h
  replace H := Option.bind_eq_some_iff.mp H
  obtain ⟨⟨t101, t102⟩, A30, H⟩ := H
  replace H : (some (t101, t102)) = some (r1, r2) := H
  have A3 := Aside0.mk A30
  clear A30
  simp only [Option.some.injEq, Prod.mk.injEq] at H
  obtain ⟨rfl, rfl⟩ := H
  go_enter Try.func105, Try.ntmps105
  go_wp2_with (first | ((with_reducible refine gate_callee (f := 111) rfl ?_); refine goesL_ (some 25) rfl rfl Try.func111 (by kernel_rfl) rfl #[.int .u64 a0, .int .u64 a1] rfl (by (try simp only [List.map_toArray, List.map_cons, List.map_nil]); first | done | rfl | (simp only [List.length_drop, List.length_take]; rfl)) ?_; (with_reducible refine (bits_Mul64.calls a0 a1 t101 t102 _ A3.out).mono ?_); rintro e w' ⟨rfl, ⟨nd, rfl⟩⟩; refine ⟨_, rfl, ?_⟩))
  go_ret2
  exact ⟨by first | rfl | (simp; done) | (simp [*]; done) | (simp only [i64_w, i32_w]; done) | (simp [*, i64_w, i32_w]; done), by repeat (first | exact Drawn0.refl _ | apply Drawn0.step)⟩

end Go.Proofs.Ytfciajbahgjflaa.Print

namespace Go.Proofs.Ytfciajbahgjflaa.Print
open Go.RowKit Go.Proofs.YtfciajbahgjflaaW.PrintWords Go.Proofs.YtfciajbahgjflaaW.PrintLast Go.Proofs.YtfciajbahgjflaaW.PrintMore
attribute [local go_sem] max2_int min2_int max_two min_two max_three min_three max_four min_four   -- for this text's walks alone
set_option linter.unusedVariables false
set_option linter.unusedSimpArgs false

/-! ### impl_none: function 66 (given) -/
open Go.Proofs.Ytfciajbahgjflaa.Walk
def fillM (n m : Nat) : List Int := List.replicate m (-1) ++ List.replicate (n - m) 0
theorem fillM_len {n m : Nat} (h : m ≤ n) : (fillM n m).length = n := by unfold fillM; simp; omega
theorem fillM_step {n m q : Nat} (hq : q ≤ m) (hn : m + q ≤ n) : (fillM n m).take m ++ (fillM n m).take q ++ (fillM n m).drop (m + q) = fillM n (m + q) := by
  unfold fillM
  have e1 : (List.replicate m (-1 : Int) ++ List.replicate (n - m) 0).take m = List.replicate m (-1) := by rw [List.take_append_of_le_length (by simp)]; simp
  have e2 : (List.replicate m (-1 : Int) ++ List.replicate (n - m) 0).take q = List.replicate q (-1) := by rw [List.take_append_of_le_length (by simp; omega)]; simp; omega
  have e3 : (List.replicate m (-1 : Int) ++ List.replicate (n - m) 0).drop (m + q) = List.replicate (n - (m + q)) 0 := by
    rw [List.drop_append, List.drop_eq_nil_of_le (by simp), List.nil_append, List.length_replicate, List.drop_replicate]
    congr 1
    omega
  rw [e1, e2, e3, List.replicate_append_replicate]
theorem mul_one_n {n : Nat} (h : n ≤ 1000000) : bits_Mul.f 1 (n : Int) = some (0, (n : Int)) := by
  unfold bits_Mul.f bits_Mul64.f
  rw [and_low32 1 (by omega) (by omega), and_low32 (n : Int) (by omega) (by omega)]
  simp only [Option.bind_some]
  have e0 : (1 : Int) / 4294967296 = 0 := by decide
  have e1 : (1 : Int) % 4294967296 = 1 := by decide
  have e2 : (n : Int) / 4294967296 = 0 := by omega
  have e3 : (n : Int) % 4294967296 = n := by omega
  have w0 : IntKind.u64.wrap 0 = 0 := by decide
  have wn : IntKind.u64.wrap (n : Int) = n := by simp [IntKind.wrap, IntKind.signed, IntKind.bits]; omega
  simp only [e0, e1, e2, e3, Int.zero_mul, Int.one_mul, Int.mul_zero, Int.add_zero, Int.zero_add, w0, wn]
  rw [and_low32 0 (by omega) (by omega)]
  simp only [show (0 : Int) % 4294967296 = 0 by decide, show (0 : Int) / 4294967296 = 0 by decide, Int.add_zero, w0]
theorem fill0 (n : Nat) : ([-1] : List Int).take (min 1 (List.replicate n (0 : Int)).length) ++ (List.replicate n (0 : Int)).drop (min 1 (List.replicate n (0 : Int)).length) = fillM n (min 1 n) := by
  rw [List.length_replicate]
  cases n with
  | zero => rfl
  | succ n => rw [Nat.min_eq_left (by omega)]; rfl
theorem fillN (n : Nat) : fillM n n = List.replicate n (-1) := by unfold fillM; simp
def RepT9 : Bool × List (List Nat × List Nat) := (true, [([], []), ([], []), ([], []), ([1, 2], [1, 2]), ([], []), ([], []), ([4, 5], [4, 5]), ([3, 6], [3, 6]), ([0, 7], [0, 7]), ([8, 7, 0, 1, 2, 3, 4, 5, 6, 7, 8], [0, 2, 5, 8])])
theorem RepTab9 : rtab .any (opsOf Try.f94 9) = RepT9 := by kernel_rfl
set_option maxHeartbeats 2000000 in
set_option maxRecDepth 100000 in
theorem Repeat_any (A1 : Option Addr) (c1 : Nat) (n : Nat) (w : World) (hr1 : Kd.C (Kd.int .i64) w A1 1 [-1]) (hc1 : 1 ≤ c1) (hn : n ≤ 1000000) :
    Calls Try.prog 94 #[.slice A1 1 c1, .int .i64 n] w fun e w' => ∃ v0_ : Value, e = .returned v0_ ∧ Kd.R (Kd.int .i64) 3 w' w.heap.size (fun _ => True) v0_ (List.replicate n (-1)) ∧ Below w.heap.size w w' := by
  have hm := mul_one_n hn
  have HM := Lib.hid (fun W => bits_Mul.calls 1 (n : Int) 0 (n : Int) W hm)
  have HR1 := Aside0.mk hr1
  have HB := Aside0.mk (Below.refl w.heap.size w)
  have HN := Lib.hid hn
  have q0 : 0 ≤ (n : Int) := by omega
  have q1 : decide ((n : Int) < 0) = false := decide_eq_false (by omega)
  have q2 : decide ((n : Int) > 9223372036854775807) = false := decide_eq_false (by omega)
  have wn : IntKind.u64.wrap (n : Int) = n := by simp [IntKind.wrap, IntKind.signed, IntKind.bits]; omega
  have wi : IntKind.i64.wrap (n : Int) = n := by simp [IntKind.wrap, IntKind.signed, IntKind.bits]; omega
  have hinf : (Try.prog.info? 3).map (fun i => i.size) = some 1 := by kernel_rfl
  clear hm hr1 hc1 hn
  go_enter Try.func94, Try.ntmps94
  go_wp2_with (first | (go_at_call 105; refine (HM.out _).mono ?_; rintro e w2 ⟨rfl, hd⟩; obtain ⟨m, rfl⟩ := hd.out; clear hd) | ((with_reducible refine gate_dst (N := 30) rfl ?_); refine Kd.R_make (Kd.int .i64) _ 3 rfl (N := 30) rfl 23 _ _ rfl (n : Int) rfl rfl Try.underlying23 (.int .i64 0) 8 info3 rfl (by decide) (by omega) 0 (ok := fun _ => True) (okp := fun _ => True) rfl (fun _ hk => hk) trivial q0 (Nat.le_trans (Nat.mul_le_mul_right _ (show ((n : Int)).toNat ≤ 35184372088832 by have := HN.out; omega)) (by omega)) (Below.refl _ _) (Nat.le_refl _) ?_; intro v102 w6 ho7 hb hg_ hnew_; clear hg_ hnew_; simp only [Int.toNat_natCast] at ho7; have n0_ := Aside0.mk (Kd.R_lower ho7 (below_size (by repeat (first | (with_reducible first | exact HB.out | apply below_alloc | apply pw_below_drewN | apply below_drew1) | exact HB.out)))); have n1_ := Aside0.mk (below_step (by repeat (first | (with_reducible first | exact HB.out | apply below_alloc | apply pw_below_drewN | apply below_drew1) | exact HB.out)) hb); clear HB; have HO := n0_; have HB := n1_; clear n0_ n1_ ho7 hb; obtain ⟨A7, c7, rfl⟩ := Kd.R_slice HO.out; simp only [List.length_replicate] at HO ⊢) | ((with_reducible refine gate_builtin (b := .copy) (xs := #[.tmp 31, .tmp 32]) rfl ?_); refine Kd.R_copy (enc := Value.int .i64) (h1 := fun _ => rfl) (0 : Int) (w0 := w) w.heap.size rfl (.tmp 31) (.tmp 32) 23 23 3 rfl Try.underlying23 hinf _ (List.replicate n (0 : Int)) ([-1] : List Int) A1 1 c1 (fun _ => True) rfl rfl ?hO ?hR ?hB ?hS ?_; (case hO => exact HO.out); (case hR => exact Kd.C_below HR1.out (by repeat (first | (with_reducible first | exact HB.out | apply below_alloc | apply pw_below_drewN | apply below_drew1) | exact HB.out))); (case hB => exact (by repeat (first | (with_reducible first | exact HB.out | apply below_alloc | apply pw_below_drewN | apply below_drew1) | exact HB.out))); (case hS => exact (below_size (by repeat (first | (with_reducible first | exact HB.out | apply below_alloc | apply pw_below_drewN | apply below_drew1) | exact HB.out)))); intro w7 ho hb hg; rw [fill0] at ho; simp only [List.length_replicate]; have n0_ := Aside0.mk ho; have n1_ := Aside0.mk hb; clear HO HB; have HO := n0_; have HB := n1_; clear n0_ n1_ ho hb hg))
  go_loopw [8] (fun v8 w' => ∃ m : Nat, v8 = .int .i64 m ∧ Aside0 (m ≤ n ∧ (0 < n → 0 < m)) ∧ Aside0 (Kd.R (Kd.int .i64) 3 w' w.heap.size (fun _ => True) (.slice A7 n c7) (fillM n m)) ∧ Aside0 (Below w.heap.size w w')) (fun v8 _ => n - (intOf v8).toNat)
  case atStart => exact ⟨min 1 n, rfl, ⟨by omega, by omega⟩, HO, HB⟩
  case round =>
    clear HB HO
    obtain ⟨m, rfl, ⟨HJ⟩, HO, HB⟩ := hrel
    by_cases hlt : m < n
    · have b1 : decide ((m : Int) < (n : Int)) = true := decide_eq_true (by omega)
      have hml : (fillM n m).length = n := fillM_len HJ.1
      obtain ⟨g, cap, e1, hge, hglt, _⟩ := Kd.R_form HO.out (by rw [hml]; omega)
      injection e1 with e1 e2 e3
      subst e1 e3
      have hpos : 1 ≤ m := by have := HJ.2; omega
      have hcap := (Kd.R_reads' HO.out).2.1
      have HLT := Lib.hid hlt
      have HPOS := Lib.hid hpos
      have HCAP := Lib.hid hcap
      have HJA := Lib.hid HJ
      have HGE := Lib.hid hge
      have p1 : 0 ≤ (m : Int) := by omega
      have p2 : (m : Int) ≤ (n : Int) := by omega
      have p3 : (m : Int) ≤ (c7 : Int) := by omega
      have p4 : m ≤ n := by omega
      have p5 : m ≤ c7 := by omega
      have p6 : ¬ c7 = m := by omega
      clear hml e2 hge hglt hpos hcap HJ hlt
      go_wp2_with fail
      refine start_ (n := 10) (S := fun _ => True) (ds := []) #[false, false, false, false, false, false, false, false, false, false] (by kernel_rfl) rfl rfl trivial (fun _ => ?_)
      have HT_ := RepTab9
      have HO2 := Aside0.mk (Kd.R_drew HO.out)
      have HB2 := Aside0.mk (below_drew1 HB.out)
      clear HO HB
      generalize wr.drew = w2 at HO2 HB2 ⊢
      refine pure_ (i := 0) (N := some 38) (v := ?_) (a' := ?_) #[true, false, false, false, false, false, false, false, false, false] rfl rfl (any_of HT_ (by kernel_rfl)) (fun _ _ _ h => h) (Or.inl ⟨by rfl, ?_⟩) ?_ ?_
      rotate_left
      · intro w'
        go_simp
        with_reducible rfl
      rotate_left
      · simp only [Act.put, List.setIfInBounds_toArray, List.set_cons_zero, List.set_cons_succ, i64_w, i32_w]
        rfl
      refine pure_ (i := 1) (N := some 39) (v := ?_) (a' := ?_) #[true, true, false, false, false, false, false, false, false, false] rfl rfl (any_of HT_ (by kernel_rfl)) (fun _ _ _ h => h) (Or.inl ⟨by rfl, ?_⟩) ?_ ?_
      rotate_left
      · intro w'
        go_simp
        with_reducible rfl
      rotate_left
      · simp only [Act.put, List.setIfInBounds_toArray, List.set_cons_zero, List.set_cons_succ, i64_w, i32_w]
        rfl
      refine pure_ (i := 2) (N := some 40) (v := ?_) (a' := ?_) #[true, true, true, false, false, false, false, false, false, false] rfl rfl (any_of HT_ (by kernel_rfl)) (fun _ _ _ h => h) (Or.inl ⟨by rfl, ?_⟩) ?_ ?_
      rotate_left
      · intro w'
        go_simp
        with_reducible rfl
      rotate_left
      · simp only [Act.put, List.setIfInBounds_toArray, List.set_cons_zero, List.set_cons_succ, i64_w, i32_w]
        rfl
      refine pure_ (i := 4) (N := some 42) (v := ?_) (a' := ?_) #[true, true, true, false, true, false, false, false, false, false] rfl rfl (any_of HT_ (by kernel_rfl)) (fun _ _ _ h => h) (Or.inl ⟨by rfl, ?_⟩) ?_ ?_
      rotate_left
      · intro w'
        go_simp
        with_reducible rfl
      rotate_left
      · simp only [Act.put, List.setIfInBounds_toArray, List.set_cons_zero, List.set_cons_succ, i64_w, i32_w]
        rfl
      refine pure_ (i := 5) (N := some 43) (v := ?_) (a' := ?_) #[true, true, true, false, true, true, false, false, false, false] rfl rfl (any_of HT_ (by kernel_rfl)) (fun _ _ _ h => h) (Or.inl ⟨by rfl, ?_⟩) ?_ ?_
      rotate_left
      · intro w'
        go_simp
        with_reducible rfl
      rotate_left
      · simp only [Act.put, List.setIfInBounds_toArray, List.set_cons_zero, List.set_cons_succ, i64_w, i32_w]
        rfl
      refine pure_ (i := 3) (N := some 41) (v := ?_) (a' := ?_) #[true, true, true, true, true, true, false, false, false, false] rfl rfl (any_of HT_ (by kernel_rfl)) (fun _ _ _ h => h) (Or.inl ⟨by rfl, ?_⟩) ?_ ?_
      rotate_left
      · intro w'
        go_simp
        with_reducible rfl
      rotate_left
      · simp only [Act.put, List.setIfInBounds_toArray, List.set_cons_zero, List.set_cons_succ, i64_w, i32_w]
        rfl
      refine pure_ (i := 6) (N := some 44) (v := ?_) (a' := ?_) #[true, true, true, true, true, true, true, false, false, false] rfl rfl (any_of HT_ (by kernel_rfl)) (fun _ _ _ h => h) (Or.inl ⟨by rfl, ?_⟩) ?_ ?_
      rotate_left
      · intro w'
        go_simp
        with_reducible rfl
      rotate_left
      · simp only [Act.put, List.setIfInBounds_toArray, List.set_cons_zero, List.set_cons_succ, i64_w, i32_w]
        rfl
      obtain ⟨w1, hr, hR, hB1⟩ := copy_at (0 : Int) (P := Try.prog) (w0 := w) (base := w.heap.size) 23 23 3 Try.underlying23 hinf HO2.out (fillM_len HJA.out.1) HPOS.out HLT.out HB2.out (below_size HB2.out)
      obtain ⟨q, hq⟩ : ∃ q, q = min m (n - m) := ⟨_, rfl⟩
      rw [← hq] at hr hR
      have hj := HJA.out.1
      have hl := HLT.out
      have hp := HPOS.out
      rw [fillM_step (by omega) (by omega)] at hR
      have HQ := Lib.hid (show 1 ≤ q ∧ m + q ≤ n by omega)
      have HO := Aside0.mk hR
      have HB := Aside0.mk hB1
      clear hq hj hl hp hR hB1 HO2 HB2
      refine one_ (i := 7) (N := some 45) #[true, true, true, true, true, true, true, true, false, false] rfl rfl (one_of HT_ (by kernel_rfl)) (by decide) (fun K hK => ?_)
      refine event_stepN (v := .int .i64 ((q : Nat) : Int)) (w1 := w1) (by rfl) rfl ?_ ?_
      · go_simp
      refine hK.out _ _ trivial (fun _ => ?_)
      clear hK K
      simp only [Act.put, List.setIfInBounds_toArray, List.set_cons_zero, List.set_cons_succ, i64_w, i32_w]
      refine pure_ (i := 8) (N := some 46) (v := ?_) (a' := ?_) #[true, true, true, true, true, true, true, true, true, false] rfl rfl (any_of HT_ (by kernel_rfl)) (fun _ _ _ h => h) (Or.inl ⟨by rfl, ?_⟩) ?_ ?_
      rotate_left
      · intro w'
        go_simp
        with_reducible rfl
      rotate_left
      · simp only [Act.put, List.setIfInBounds_toArray, List.set_cons_zero, List.set_cons_succ, i64_w, i32_w]
        rfl
      refine pure_ (i := 9) (N := some 8) (v := ?_) (a' := ?_) #[true, true, true, true, true, true, true, true, true, true] rfl rfl (any_of HT_ (by kernel_rfl)) (fun _ _ _ h => h) (Or.inl ⟨by rfl, ?_⟩) ?_ ?_
      rotate_left
      · intro w'
        go_simp
        with_reducible rfl
      rotate_left
      · simp only [Act.put, List.setIfInBounds_toArray, List.set_cons_zero, List.set_cons_succ, i64_w, i32_w]
        rfl
      refine done_ (done_of HT_ (by kernel_rfl)) ?_
      have hw : wrap64 ((m : Int) + (q : Int)) = ((m + q : Nat) : Int) := by have := HQ.out; have := HN.out; unfold wrap64; omega
      rw [hw]
      try go_wp2
      go_roundw
      case rel => exact ⟨m + q, rfl, ⟨by have := HQ.out; omega, by have := HQ.out; omega⟩, HO, HB⟩
      case measure => have := HQ.out; have := HLT.out; simp [intOf]; omega
    · have b1 : decide ((m : Int) < (n : Int)) = false := decide_eq_false (by omega)
      have hmn : m = n := by omega
      subst hmn
      rw [fillN] at HO
      go_wp2
      go_ret
      exact ⟨_, rfl, by (with_reducible repeat (first | apply Kd.R_alloc | apply Kd.R_drewN | apply Kd.R_drew)); exact HO.out, by repeat (first | (with_reducible first | exact HB.out | apply below_alloc | apply pw_below_drewN | apply below_drew1) | exact HB.out)⟩
def impl_none.f (a0 : Int) : Option (List Int) := if 0 ≤ a0 ∧ a0 ≤ 1000000 then some (List.replicate a0.toNat (-1)) else none
theorem impl_none.calls (a0 : Int) (r : List Int) (w : World) (h : impl_none.f a0 = some r) :
    Calls Try.prog 66 #[.int .i64 a0] w fun e w' => ∃ v0_ : Value, e = .returned v0_ ∧ Kd.R (Kd.int .i64) 3 w' w.heap.size (fun _ => True) v0_ r ∧ Below w.heap.size w w' := by
  unfold impl_none.f at h
  split at h
  · rename_i hc
    obtain rfl := Option.some.inj h
    obtain ⟨n, rfl⟩ := Int.eq_ofNat_of_zero_le hc.1
    simp only [Int.toNat_natCast]
    have hn : n ≤ 1000000 := by omega
    have HN := Lib.hid hn
    have HB := Aside0.mk (Below.refl w.heap.size w)
    have hC : Kd.C (Kd.int .i64) (w.alloc (.cells #[.int .i64 (-1)] 3)) (some ⟨w.heap.size, 0, none⟩) 1 [-1] := by
      refine Kd.C_of_reads (enc := Value.int .i64) (d := (0 : Int)) (h1 := fun _ => rfl) ⟨rfl, by decide, fun _ => ⟨_, rfl, fun j hj => ?_⟩⟩
      obtain rfl : j = 0 := by omega
      show (w.alloc _).cell? ⟨w.heap.size, 0, none⟩ = _
      rw [World.cell?_alloc_at _ _ _ _ rfl]
      rfl
    have HRR := Lib.hid (Repeat_any _ 1 n _ hC (Nat.le_refl _) hn)
    have hB0 : Below w.heap.size w (w.alloc (.cells #[.int .i64 (-1)] 3)) := below_alloc (Below.refl _ _) _
    have HB0 := Lib.hid hB0
    clear hc hn h hC hB0 HB
    go_enter Try.func66, Try.ntmps66
    go_wp2_with (go_at_call 94; refine HRR.out.mono ?_; rintro e w2 ⟨v, rfl, ho, hb⟩; have HO := Aside0.mk (Kd.R_lower ho HB0.out.size); have HB := Aside0.mk (below_step HB0.out hb); clear ho hb)
    go_ret
    exact ⟨_, rfl, HO.out, HB.out⟩
  · cases h

end Go.Proofs.Ytfciajbahgjflaa.Print

namespace Go.Proofs.Ytfciajbahgjflaa.Print
open Go.RowKit Go.Proofs.YtfciajbahgjflaaW.PrintWords Go.Proofs.YtfciajbahgjflaaW.PrintLast Go.Proofs.YtfciajbahgjflaaW.PrintMore
attribute [local go_sem] max2_int min2_int max_two min_two max_three min_three max_four min_four   -- for this text's walks alone
set_option linter.unusedVariables false
set_option linter.unusedSimpArgs false

theorem impl_none.callsRR (a0 : Int) (r : List Int) (w : World) (h : impl_none.f a0 = some r) :
    Calls Try.prog 66 #[.int .i64 a0] w fun e w' => ∃ v0_ : Value, e = .returned v0_ ∧ Kd.RR (Kd.int .i64) 3 w' w.heap.size (fun _ => True) v0_ r ∧ Below w.heap.size w w' := by
  refine (impl_none.calls a0 r w h).mono ?_
  first
  | (rintro e w' ⟨v, he, ho, hb⟩; exact ⟨v, he, Kd.RR_of_R ho, hb⟩)
  | (rintro e w' ⟨v, u, he, ho, ho2, hb⟩; exact ⟨v, u, he, Kd.RR_of_R ho, Kd.RR_of_R ho2, hb⟩)

end Go.Proofs.Ytfciajbahgjflaa.Print

namespace Go.Proofs.Ytfciajbahgjflaa.Print
open Go.RowKit Go.Proofs.YtfciajbahgjflaaW.PrintWords Go.Proofs.YtfciajbahgjflaaW.PrintLast Go.Proofs.YtfciajbahgjflaaW.PrintMore
attribute [local go_sem] max2_int min2_int max_two min_two max_three min_three max_four min_four   -- for this text's walks alone
set_option linter.unusedVariables false
set_option linter.unusedSimpArgs false

/-! ### impl_onCore: function 68 (given) -/
open Go.Proofs.Ytfciajbahgjflaa.Walk
set_option maxHeartbeats 1000000 in
set_option maxRecDepth 100000 in
theorem Clip_Task (A : Option Addr) (n c : Nat) (w : World) (hn : n ≤ c) (hc : c ≤ 9223372036854775807) : Calls Try.prog 96 #[.slice A n c] w fun e w' => e = .returned (.slice A n n) ∧ Drawn0 w w' := by
  have hu := Try.underlying41
  go_enter Try.func96, Try.ntmps96
  go_wp2
  go_ret
  exact ⟨rfl, by repeat (first | exact Drawn0.refl _ | apply Drawn0.step)⟩
/-- The tasks of a processor among the first. -/
def onN (s : List (S43)) (a : List Int) (c : Int) : Nat → List (S43)
  | 0 => []
  | j + 1 => if a.getD j 0 = c then onN s a c j ++ [s.getD j z43] else onN s a c j
theorem onN_len (s : List (S43)) (a : List Int) (c : Int) : ∀ j, (onN s a c j).length ≤ j
  | 0 => Nat.le_refl _
  | j + 1 => by
    have := onN_len s a c j
    unfold onN
    split
    · rw [List.length_append, List.length_singleton]; omega
    · omega
def impl_onCore.f (l0 : List (S43)) (l1 : List Int) (a2 : Int) : Option (List (S43)) := if l1.length ≤ l0.length ∧ l0.length ≤ 1000000 then some (onN l0 l1 a2 l1.length) else none
set_option maxHeartbeats 2000000 in
set_option maxRecDepth 100000 in
theorem impl_onCore.calls (A0 : Option Addr) (c0 : Nat) (l0 : List (S43)) (A1 : Option Addr) (c1 : Nat) (l1 : List Int) (a2 : Int) (r : List (S43)) (w : World) (hr0 : Kd.C k43 w A0 l0.length l0) (hc0 : l0.length ≤ c0) (hr1 : Kd.C (Kd.int .i64) w A1 l1.length l1) (hc1 : l1.length ≤ c1) (h : impl_onCore.f l0 l1 a2 = some r) :
    Calls Try.prog 68 #[.slice A0 l0.length c0, .slice A1 l1.length c1, .int .i64 a2] w fun e w' => ∃ v0_ : Value, e = .returned v0_ ∧ Kd.RR k43 43 w' w.heap.size (fun _ => True) v0_ r ∧ Below w.heap.size w w' := by
  unfold impl_onCore.f at h
  split at h
  · rename_i hl
    obtain rfl := Option.some.inj h
    have hu := Try.underlying43
    have HL := Lib.hid hl
    have HR0 := Aside0.mk hr0
    have HR1 := Aside0.mk hr1
    have HB := Aside0.mk (Below.refl w.heap.size w)
    have hmx : l1.length ≤ 9223372036854775807 := hr1.2.1
    clear hr0 hc0 hr1 hc1 h hl
    go_enter Try.func68, Try.ntmps68
    go_wp2
    go_loopw [7, 12] (fun v7 v12 w' => ∃ j : Nat, v12 = .int .i64 j ∧ Aside0 (j ≤ l1.length) ∧ Aside0 (Kd.R k43 43 w' w.heap.size (fun _ => True) v7 (onN l0 l1 a2 j)) ∧ Aside0 (Below w.heap.size w w')) (fun v7 v12 _ => l1.length - (intOf v12).toNat)
    case atStart => exact ⟨0, rfl, ⟨Nat.zero_le _⟩, ⟨Kd.R_nil _ _ _ _ _⟩, HB⟩
    case round =>
      clear HB
      obtain ⟨j, rfl, ⟨HJ⟩, HO, HB⟩ := hrel
      by_cases hlt : j < l1.length
      · have b1 : decide ((j : Int) < (l1.length : Int)) = true := decide_eq_true (by omega)
        have hlt0 : j < l0.length := by have := HL.out; omega
        obtain ⟨ad1, e1, hx0⟩ := Kd.at_int HR1.out (j : Int) (by omega) (by omega)
        cases e1
        obtain ⟨ad0, e0, hy0, hy1, hy2⟩ := at_T43 HR0.out (j : Int) (by omega) (by omega)
        cases e0
        replace hx0 := (HB.out.cell (World.block_lt_of_cell? w _ hx0)).trans hx0
        replace hy0 := (HB.out.cell (World.block_lt_of_cell? w _ hy0)).trans hy0
        replace hy1 := (HB.out.cell (World.block_lt_of_cell? w _ hy1)).trans hy1
        replace hy2 := (HB.out.cell (World.block_lt_of_cell? w _ hy2)).trans hy2
        simp only [Int.toNat_natCast] at hx0 hy0 hy1 hy2
        have hrd : rd_T43 l0 (j : Int) = l0.getD j z43 := rfl
        have hrd1 : rd l1 (j : Int) = l1.getD j 0 := rfl
        rw [hrd] at hy0 hy1 hy2
        rw [hrd1] at hx0
        have q0 : 0 ≤ (j : Int) := by omega
        have q1 : (j : Int) < (l1.length : Int) := by omega
        have q2 : (j : Int) < (l0.length : Int) := by omega
        obtain ⟨y, hy⟩ : ∃ y, y = l0.getD j z43 := ⟨_, rfl⟩
        rw [← hy] at hy0 hy1 hy2
        have HY := Lib.hid hy
        obtain ⟨x, hx⟩ : ∃ x, x = l1.getD j 0 := ⟨_, rfl⟩
        rw [← hx] at hx0
        have hst : onN l0 l1 a2 (j + 1) = if x = a2 then onN l0 l1 a2 j ++ [y] else onN l0 l1 a2 j := by rw [hx, HY.out]; rfl
        clear hrd hrd1 hy hx
        by_cases hc : x = a2
        · have e1 : (x == a2) = true := beq_iff_eq.mpr hc
          have hn : onN l0 l1 a2 (j + 1) = onN l0 l1 a2 j ++ [y] := by rw [hst, if_pos hc]
          have HN := Lib.hid hn
          have hle := onN_len l0 l1 a2 j
          have HLE := Lib.hid hle
          clear hn hc hle hst
          obtain ⟨ya, yb, yc⟩ := y
          go_wp2_with ((with_reducible refine gate_builtin (b := .append) (xs := #[.tmp 20, .tmp 25]) rfl ?_); at_builtin; refine Kd.R_append k43 (w0 := w) w.heap.size rfl (.tmp 20) (.tmp 25) 41 43 (.agg #[(.int .i64 0), (.int .i64 0), (.int .i64 0)]) 24 rfl Try.underlying41 info43 rfl (by decide) (by omega) u7 (onN l0 l1 a2 j) (⟨ya, yb, yc⟩ : S43) [.int .i64 ya, .int .i64 yb, .int .i64 yc] (fun _ => True) (fun _ => False) rfl rfl ?aP (fun _ hk => hk.elim) ?aF ?aO ?aB ?aS ?aL ?_; (case aP => exact k43_mkM _ _ _ (⟨ya, yb, yc⟩ : S43)); (case aB => exact (by repeat (first | (with_reducible first | exact HB.out | apply below_alloc | apply pw_below_drewN | apply below_drew1) | exact HB.out))); (case aF => exact (fun _ _ => trivial)); (case aO => exact (by (with_reducible repeat (first | apply Kd.R_alloc | apply Kd.R_drewN | apply Kd.R_drew)); exact HO.out)); (case aS => exact (below_size (by repeat (first | (with_reducible first | exact HB.out | apply below_alloc | apply pw_below_drewN | apply below_drew1) | exact HB.out)))); (case aL => have := HLE.out; have := HL.out; omega); intro v107 w11 ho hb hg hat; rw [← HN.out] at ho; have n0_ := Aside0.mk (hb); have n1_ := Aside0.mk (ho); clear HB; clear HO; have HB := n0_; have HO := n1_; clear n0_ n1_; clear ho hb hg hat)
          go_roundw
          case rel => exact ⟨j + 1, by go_num, ⟨by omega⟩, ⟨by (with_reducible repeat (first | apply Kd.R_alloc | apply Kd.R_drewN | apply Kd.R_drew)); exact HO.out⟩, ⟨by repeat (first | (with_reducible first | exact HB.out | apply below_alloc | apply pw_below_drewN | apply below_drew1) | exact HB.out)⟩⟩
          case measure => simp [intOf]; omega
        · have e1 : (x == a2) = false := beq_eq_false_iff_ne.mpr hc
          have hn : onN l0 l1 a2 (j + 1) = onN l0 l1 a2 j := by rw [hst, if_neg hc]
          have HN := Lib.hid hn
          clear hn hc hst
          go_wp2
          go_roundw
          case rel => exact ⟨j + 1, by go_num, ⟨by omega⟩, ⟨by rw [HN.out]; (with_reducible repeat (first | apply Kd.R_alloc | apply Kd.R_drewN | apply Kd.R_drew)); exact HO.out⟩, ⟨by repeat (first | (with_reducible first | exact HB.out | apply below_alloc | apply pw_below_drewN | apply below_drew1) | exact HB.out)⟩⟩
          case measure => simp [intOf]; omega
      · have b1 : decide ((j : Int) < (l1.length : Int)) = false := decide_eq_false (by omega)
        obtain ⟨A, cap, rfl⟩ := Kd.R_slice HO.out
        have hcap := (Kd.R_reads' HO.out).2.1
        have hcm := r_capmax HO.out
        have hje : j = l1.length := by omega
        have HJE := Lib.hid hje
        clear hje
        go_wp2_with (go_at_call 96; refine (Clip_Task _ _ _ _ hcap hcm).mono ?_; rintro e w3 ⟨rfl, hd⟩; obtain ⟨m, rfl⟩ := hd.out; clear hd)
        go_ret
        refine ⟨_, rfl, ?_, ?_⟩
        · have ho := Kd.R_drewN HO.out m
          rw [HJE.out] at ho ⊢
          exact Kd.RR_clip ho (Nat.le_refl _)
        · exact pw_below_drewN HB.out m
  · cases h

end Go.Proofs.Ytfciajbahgjflaa.Print

namespace Go.Proofs.Ytfciajbahgjflaa.Print
open Go.RowKit Go.Proofs.YtfciajbahgjflaaW.PrintWords Go.Proofs.YtfciajbahgjflaaW.PrintLast Go.Proofs.YtfciajbahgjflaaW.PrintMore
attribute [local go_sem] max2_int min2_int max_two min_two max_three min_three max_four min_four   -- for this text's walks alone
set_option linter.unusedVariables false
set_option linter.unusedSimpArgs false

/-! ### impl_FirstFit: function 28 -/
mutual
def impl_FirstFit.j0 : Nat → List (S43) → Int → Bool → Option (List Int × Bool)
  | 0, _, _, _ => none
  | k + 1, x0, x1, x16 => if x16 = true then (some (([] : List Int), false)) else ((impl_none.f (x0.length : Int)).bind fun t103 => (impl_FirstFit.l0 k x0 x1 t103 (x0.length : Int) 0))
def impl_FirstFit.l0 : Nat → List (S43) → Int → List Int → Int → Int → Option (List Int × Bool)
  | 0, _, _, _, _, _ => none
  | k + 1, x0, x1, x6, x21, x22 => if x22 < x21 then (impl_FirstFit.l1 k x0 x1 x6 x22 0 x21 x22) else (some (x6, true))
def impl_FirstFit.l1 : Nat → List (S43) → Int → List Int → Int → Int → Int → Int → Option (List Int × Bool)
  | 0, _, _, _, _, _, _, _ => none
  | k + 1, x0, x1, x6, x7, x8, x21, x22 => if x8 < x1 then (if 0 ≤ x7 then (if x7 < (x6.length : Int) then (impl_FirstFit.j3 k x0 x1 x6 x7 x8 x21 x22 (decide ((rd x6 x7) < 0))) else (none)) else (none)) else (impl_FirstFit.j3 k x0 x1 x6 x7 x8 x21 x22 false)
def impl_FirstFit.j3 : Nat → List (S43) → Int → List Int → Int → Int → Int → Int → Bool → Option (List Int × Bool)
  | 0, _, _, _, _, _, _, _, _ => none
  | k + 1, x0, x1, x6, x7, x8, x21, x22, x34 => if x34 = true then ((impl_onCore.f x0 x6 x8).bind fun t108 => (if 0 ≤ x7 then (if x7 < (x0.length : Int) then ((some (([(⟨(rd_T43 x0 x7).f0, (rd_T43 x0 x7).f1, (rd_T43 x0 x7).f2⟩ : S43)] : List (S43)) : List (S43))).bind fun y112 => (if t108.length + y112.length < 5864062014805 then ((impl_feasible.f k (t108 ++ y112)).bind fun t118 => (if t118 = true then (if x7 < (x6.length : Int) then (impl_FirstFit.l1 k x0 x1 (x6.set (x7 : Int).toNat x8) x7 (wrap64 (x8 + 1)) x21 x22) else (none)) else (impl_FirstFit.l1 k x0 x1 x6 x7 (wrap64 (x8 + 1)) x21 x22))) else (none))) else (none)) else (none))) else (if 0 ≤ x7 then (if x7 < (x6.length : Int) then (if (rd x6 x7) < 0 then (some (([] : List Int), false)) else (impl_FirstFit.l0 k x0 x1 x6 x21 (wrap64 (x22 + 1)))) else (none)) else (none))
end
def impl_FirstFit.f (k : Nat) (l0 : List (S43)) (a1 : Int) : Option (List Int × Bool) := (impl_SetValid.f l0).bind fun t101 => (if t101 = true then ((impl_isCores.f a1).bind fun t102 => (impl_FirstFit.j0 k l0 a1 (!t102))) else (impl_FirstFit.j0 k l0 a1 true))
theorem impl_FirstFit.mono_l : ∀ k, (∀ y0 y1 y2, LeO (impl_FirstFit.j0 k y0 y1 y2) (impl_FirstFit.j0 (k + 1) y0 y1 y2)) ∧ (∀ y0 y1 y2 y3 y4, LeO (impl_FirstFit.l0 k y0 y1 y2 y3 y4) (impl_FirstFit.l0 (k + 1) y0 y1 y2 y3 y4)) ∧ (∀ y0 y1 y2 y3 y4 y5 y6, LeO (impl_FirstFit.l1 k y0 y1 y2 y3 y4 y5 y6) (impl_FirstFit.l1 (k + 1) y0 y1 y2 y3 y4 y5 y6)) ∧ (∀ y0 y1 y2 y3 y4 y5 y6 y7, LeO (impl_FirstFit.j3 k y0 y1 y2 y3 y4 y5 y6 y7) (impl_FirstFit.j3 (k + 1) y0 y1 y2 y3 y4 y5 y6 y7))
  | 0 => ⟨fun _ _ _ r h => by simp [impl_FirstFit.j0] at h, fun _ _ _ _ _ r h => by simp [impl_FirstFit.l0] at h, fun _ _ _ _ _ _ _ r h => by simp [impl_FirstFit.l1] at h, fun _ _ _ _ _ _ _ _ r h => by simp [impl_FirstFit.j3] at h⟩
  | k + 1 => by
    obtain ⟨ih0, ih1, ih2, ih3⟩ := impl_FirstFit.mono_l k
    refine ⟨?_, ?_, ?_, ?_⟩
    · intro y0 y1 y2
      unfold impl_FirstFit.j0
      repeat' first
      | (with_reducible exact ih0 _ _ _)
      | (with_reducible exact ih1 _ _ _ _ _)
      | (with_reducible exact ih2 _ _ _ _ _ _ _)
      | (with_reducible exact ih3 _ _ _ _ _ _ _ _)
      | (with_reducible exact impl_feasible.mono _ _)
      | (with_reducible exact LeO.refl _)
      | (with_reducible exact LeO.none _)
      | (with_reducible refine LeO.ite ?_ ?_)
      | (with_reducible refine LeO.bind ?_ (fun _ => ?_))
      | exact ih0 _ _ _
      | exact ih1 _ _ _ _ _
      | exact ih2 _ _ _ _ _ _ _
      | exact ih3 _ _ _ _ _ _ _ _
      | exact impl_feasible.mono _ _
      | exact LeO.none _
      | refine LeO.ite ?_ ?_
      | refine LeO.bind ?_ (fun _ => ?_)
    · intro y0 y1 y2 y3 y4
      unfold impl_FirstFit.l0
      repeat' first
      | (with_reducible exact ih0 _ _ _)
      | (with_reducible exact ih1 _ _ _ _ _)
      | (with_reducible exact ih2 _ _ _ _ _ _ _)
      | (with_reducible exact ih3 _ _ _ _ _ _ _ _)
      | (with_reducible exact impl_feasible.mono _ _)
      | (with_reducible exact LeO.refl _)
      | (with_reducible exact LeO.none _)
      | (with_reducible refine LeO.ite ?_ ?_)
      | (with_reducible refine LeO.bind ?_ (fun _ => ?_))
      | exact ih0 _ _ _
      | exact ih1 _ _ _ _ _
      | exact ih2 _ _ _ _ _ _ _
      | exact ih3 _ _ _ _ _ _ _ _
      | exact impl_feasible.mono _ _
      | exact LeO.none _
      | refine LeO.ite ?_ ?_
      | refine LeO.bind ?_ (fun _ => ?_)
    · intro y0 y1 y2 y3 y4 y5 y6
      unfold impl_FirstFit.l1
      repeat' first
      | (with_reducible exact ih0 _ _ _)
      | (with_reducible exact ih1 _ _ _ _ _)
      | (with_reducible exact ih2 _ _ _ _ _ _ _)
      | (with_reducible exact ih3 _ _ _ _ _ _ _ _)
      | (with_reducible exact impl_feasible.mono _ _)
      | (with_reducible exact LeO.refl _)
      | (with_reducible exact LeO.none _)
      | (with_reducible refine LeO.ite ?_ ?_)
      | (with_reducible refine LeO.bind ?_ (fun _ => ?_))
      | exact ih0 _ _ _
      | exact ih1 _ _ _ _ _
      | exact ih2 _ _ _ _ _ _ _
      | exact ih3 _ _ _ _ _ _ _ _
      | exact impl_feasible.mono _ _
      | exact LeO.none _
      | refine LeO.ite ?_ ?_
      | refine LeO.bind ?_ (fun _ => ?_)
    · intro y0 y1 y2 y3 y4 y5 y6 y7
      unfold impl_FirstFit.j3
      repeat' first
      | (with_reducible exact ih0 _ _ _)
      | (with_reducible exact ih1 _ _ _ _ _)
      | (with_reducible exact ih2 _ _ _ _ _ _ _)
      | (with_reducible exact ih3 _ _ _ _ _ _ _ _)
      | (with_reducible exact impl_feasible.mono _ _)
      | (with_reducible exact LeO.refl _)
      | (with_reducible exact LeO.none _)
      | (with_reducible refine LeO.ite ?_ ?_)
      | (with_reducible refine LeO.bind ?_ (fun _ => ?_))
      | exact ih0 _ _ _
      | exact ih1 _ _ _ _ _
      | exact ih2 _ _ _ _ _ _ _
      | exact ih3 _ _ _ _ _ _ _ _
      | exact impl_feasible.mono _ _
      | exact LeO.none _
      | refine LeO.ite ?_ ?_
      | refine LeO.bind ?_ (fun _ => ?_)
theorem impl_FirstFit.mono : ∀ a0 a1 k, LeO (impl_FirstFit.f k a0 a1) (impl_FirstFit.f (k + 1) a0 a1) := by
  intro a0 a1 k
  obtain ⟨ih0, ih1, ih2, ih3⟩ := impl_FirstFit.mono_l k
  unfold impl_FirstFit.f
  repeat' first
      | (with_reducible exact ih0 _ _ _)
      | (with_reducible exact ih1 _ _ _ _ _)
      | (with_reducible exact ih2 _ _ _ _ _ _ _)
      | (with_reducible exact ih3 _ _ _ _ _ _ _ _)
      | (with_reducible exact impl_feasible.mono _ _)
      | (with_reducible exact LeO.refl _)
      | (with_reducible exact LeO.none _)
      | (with_reducible refine LeO.ite ?_ ?_)
      | (with_reducible refine LeO.bind ?_ (fun _ => ?_))
      | exact ih0 _ _ _
      | exact ih1 _ _ _ _ _
      | exact ih2 _ _ _ _ _ _ _
      | exact ih3 _ _ _ _ _ _ _ _
      | exact impl_feasible.mono _ _
      | exact LeO.none _
      | refine LeO.ite ?_ ?_
      | refine LeO.bind ?_ (fun _ => ?_)
def impl_FirstFit.T10 : Bool × List (List Nat × List Nat) := (true, [([], []), ([], []), ([], []), ([0, 1, 2], [0, 1, 2]), ([], []), ([], []), ([4, 5], [4, 5]), ([6], [6]), ([7], [7]), ([3, 8, 3], [3, 8]), ([9, 9], [9])])
def impl_FirstFit.B10 : List Nat := [0, 0, 0, 7, 0, 0, 48, 112, 240, 511, 1023]
theorem impl_FirstFit.tab10 : rtab .any (opsOf Try.f28 10) = impl_FirstFit.T10 := by kernel_rfl
theorem impl_FirstFit.bits10 : waitsOk impl_FirstFit.T10.2 impl_FirstFit.B10 = true := by kernel_rfl
set_option maxHeartbeats 8000000 in
set_option maxRecDepth 100000 in
theorem impl_FirstFit.calls (k : Nat) (A0 : Option Addr) (c0 : Nat) (l0 : List (S43)) (a1 : Int) (r1 : List Int) (r2 : Bool) (w : World) (hr0 : Kd.C k43 w A0 l0.length l0) (hc0 : l0.length ≤ c0) (h : impl_FirstFit.f k l0 a1 = some (r1, r2)) :
    Calls Try.prog 28 #[.slice A0 l0.length c0, .int .i64 a1] w fun e w' => ∃ v0_ : Value, e = .returned (.tuple #[v0_, .bool r2]) ∧ Kd.RR (Kd.int .i64) 3 w' w.heap.size (fun _ => True) v0_ r1 ∧ Below w.heap.size w w' := by
  have hu43 := Try.underlying43
  have HR0 := Aside0.mk hr0
  have HC0 := Aside0.mk hc0
  clear hr0 hc0
  have HB := Aside0.mk (Below.refl w.heap.size w)
  have H : ((impl_SetValid.f l0).bind fun t101 => (if t101 = true then ((impl_isCores.f a1).bind fun t102 => (impl_FirstFit.j0 k l0 a1 (!t102))) else (impl_FirstFit.j0 k l0 a1 true))) = some (r1, r2) := h
  clear h
  have HC3 := Aside0.mk H
  clear H
  go_enter Try.func28, Try.ntmps28
  go_upto_region 1 with (fail)
  go_cut [16] (fun v16 wc => ∃ (kq : Nat) (x16_2 : Bool), v16 = .bool x16_2 ∧ Aside0 (impl_FirstFit.j0 kq l0 a1 x16_2 = some (r1, r2)) ∧ Aside0 (kq ≤ k) ∧ Aside0 (Below w.heap.size w wc))
  case first =>
    have H := HC3.out
    clear HC3
    replace H := Option.bind_eq_some_iff.mp H
    obtain ⟨t101, A40, H⟩ := H
    replace H : (if t101 = true then ((impl_isCores.f a1).bind fun t102 => (impl_FirstFit.j0 k l0 a1 (!t102))) else (impl_FirstFit.j0 k l0 a1 true)) = some (r1, r2) := H
    have A4 := Aside0.mk A40
    clear A40
    by_cases c5 : t101 = true
    · subst c5
      have H1 : ((impl_isCores.f a1).bind fun t102 => (impl_FirstFit.j0 k l0 a1 (!t102))) = some (r1, r2) := by rw [if_pos rfl] at H; exact H
      clear H
      have H := H1
      clear H1
      replace H := Option.bind_eq_some_iff.mp H
      obtain ⟨t102, A60, H⟩ := H
      replace H : (impl_FirstFit.j0 k l0 a1 (!t102)) = some (r1, r2) := H
      have A6 := Aside0.mk A60
      clear A60
      have H' := Aside0.mk H
      clear H
      go_wp2_with (first | ((with_reducible refine gate_callee (f := 64) rfl ?_); refine goesL_ (some 10) rfl rfl Try.func64 (by kernel_rfl) rfl #[.slice A0 l0.length c0] rfl (by (try simp only [List.map_toArray, List.map_cons, List.map_nil]); first | done | rfl | (simp only [List.length_drop, List.length_take]; rfl)) ?_; (with_reducible refine (impl_SetValid.calls _ _ l0 true _ ?side1 ?side2 A4.out).mono ?_); (case side1 => repeat (first | exact (Kd.C_below HR0.out HB.out) | (with_reducible refine Kd.C_alloc ?_ _) | (with_reducible refine Kd.C_drewN ?_ _) | (with_reducible refine Kd.C_drew ?_))); (case side2 => exact HC0.out); rintro e w7 ⟨rfl, hb⟩; refine ⟨_, rfl, ?_⟩; have n0_ := Aside0.mk (below_step (by repeat (first | (with_reducible first | exact HB.out | apply below_alloc | apply pw_below_drewN | apply below_drew1) | exact HB.out)) hb); clear HB; have HB := n0_; clear n0_; (try clear hb); (try clear hb2); (try clear hk); (try clear hi)) | (go_at_call 65; (with_reducible refine (impl_isCores.calls a1 t102 _ A6.out).mono ?_); rintro e w' ⟨rfl, ⟨nd, rfl⟩⟩))
      go_meet
      case rel => exact ⟨_, (!t102), (by first | rfl | (simp; done) | (simp [*]; done) | (simp only [i64_w, i32_w]; done) | (simp [*, i64_w, i32_w]; done)), H', ⟨by first | omega | exact Nat.le_refl _⟩, ⟨by repeat (first | (with_reducible first | exact HB.out | apply below_alloc | apply pw_below_drewN | apply below_drew1) | exact HB.out)⟩⟩
    · replace c5 := Bool.eq_false_iff.mpr c5
      subst c5
      have H1 : (impl_FirstFit.j0 k l0 a1 true) = some (r1, r2) := by rw [if_neg (show ¬ (false = true) by decide)] at H; exact H
      clear H
      have H := H1
      clear H1
      have H' := Aside0.mk H
      clear H
      go_wp2_with (first | ((with_reducible refine gate_callee (f := 64) rfl ?_); refine goesL_ (some 10) rfl rfl Try.func64 (by kernel_rfl) rfl #[.slice A0 l0.length c0] rfl (by (try simp only [List.map_toArray, List.map_cons, List.map_nil]); first | done | rfl | (simp only [List.length_drop, List.length_take]; rfl)) ?_; (with_reducible refine (impl_SetValid.calls _ _ l0 false _ ?side1 ?side2 A4.out).mono ?_); (case side1 => repeat (first | exact (Kd.C_below HR0.out HB.out) | (with_reducible refine Kd.C_alloc ?_ _) | (with_reducible refine Kd.C_drewN ?_ _) | (with_reducible refine Kd.C_drew ?_))); (case side2 => exact HC0.out); rintro e w8 ⟨rfl, hb⟩; refine ⟨_, rfl, ?_⟩; have n0_ := Aside0.mk (below_step (by repeat (first | (with_reducible first | exact HB.out | apply below_alloc | apply pw_below_drewN | apply below_drew1) | exact HB.out)) hb); clear HB; have HB := n0_; clear n0_; (try clear hb); (try clear hb2); (try clear hk); (try clear hi)))
      go_meet
      case rel => exact ⟨_, (true), (by first | rfl | (simp; done) | (simp [*]; done) | (simp only [i64_w, i32_w]; done) | (simp [*, i64_w, i32_w]; done)), H', ⟨by first | omega | exact Nat.le_refl _⟩, ⟨by repeat (first | (with_reducible first | exact HB.out | apply below_alloc | apply pw_below_drewN | apply below_drew1) | exact HB.out)⟩⟩
  case rest =>
    clear HC3
    try clear c2
    try clear p2
    try clear c5
    try clear c6
    obtain ⟨kq, x16_2, rfl, HA, HJ2, HB⟩ := hcut
    cases kq with
    | zero => exact absurd HA.out (by simp [impl_FirstFit.j0])
    | succ kj2 =>
      have H := HA.out
      clear HA
      simp only [impl_FirstFit.j0] at H
      by_cases c9 : x16_2 = true
      · subst c9
        have H1 : (some (([] : List Int), false)) = some (r1, r2) := by rw [if_pos rfl] at H; exact H
        clear H
        have H := H1
        clear H1
        simp only [Option.some.injEq, Prod.mk.injEq] at H
        obtain ⟨rfl, rfl⟩ := H
        go_wp2
        go_ret2
        exact ⟨_, by first | rfl | (simp [errW_none, errW_some] <;> rfl) | (simp [*, errW_none, errW_some] <;> rfl), by first | exact Kd.RR_nil _ _ _ _ _ | exact Kd.N_nil _ _ _ _ _ | exact Kd.V_nil _ _ _ _ _ | exact Kd.Q_nil _ _ _ _ _ | exact Kd.S_nil _ _ _ _ _, by repeat (first | (with_reducible first | exact HB.out | apply below_alloc | apply pw_below_drewN | apply below_drew1) | exact HB.out)⟩
      · replace c9 := Bool.eq_false_iff.mpr c9
        subst c9
        have H1 : ((impl_none.f (l0.length : Int)).bind fun t103 => (impl_FirstFit.l0 kj2 l0 a1 t103 (l0.length : Int) 0)) = some (r1, r2) := by rw [if_neg (show ¬ (false = true) by decide)] at H; exact H
        clear H
        have H := H1
        clear H1
        replace H := Option.bind_eq_some_iff.mp H
        obtain ⟨t103, A100, H⟩ := H
        replace H : (impl_FirstFit.l0 kj2 l0 a1 t103 (l0.length : Int) 0) = some (r1, r2) := H
        have A10 := Aside0.mk A100
        clear A100
        have H' := Aside0.mk H
        clear H
        go_wp2_with (first | ((with_reducible refine gate_callee (f := 66) rfl ?_); refine goesL_ (some 19) rfl rfl Try.func66 (by kernel_rfl) rfl #[.int .i64 (l0.length : Int)] rfl (by (try simp only [List.map_toArray, List.map_cons, List.map_nil]); first | done | rfl | (simp only [List.length_drop, List.length_take]; rfl)) ?_; (with_reducible refine (impl_none.callsRR (l0.length : Int) t103 _ A10.out).mono ?_); rintro e w11 ⟨v104, rfl, ho0, hb⟩; refine ⟨_, rfl, ?_⟩; have n0_ := Aside0.mk (Kd.RR_lower ho0 (below_size (by repeat (first | (with_reducible first | exact HB.out | apply below_alloc | apply pw_below_drewN | apply below_drew1) | exact HB.out)))); have n1_ := Aside0.mk (below_step (by repeat (first | (with_reducible first | exact HB.out | apply below_alloc | apply pw_below_drewN | apply below_drew1) | exact HB.out)) hb); clear HB; have HO105 := n0_; have HB := n1_; clear n0_ n1_; (try clear hb); (try clear hb2); (try clear hk); (try clear hi); (try clear ho0)))
        go_loopg [22] kj2 (fun kq v22 w' => ∃ (x6_2 : List Int) (x22_2 : Int), v22 = .int .i64 x22_2 ∧ Aside0 (impl_FirstFit.l0 kq l0 a1 x6_2 (l0.length : Int) x22_2 = some (r1, r2)) ∧ Aside0 (kq ≤ kj2) ∧ Aside0 (Kd.RR (Kd.int .i64) 3 w' w.heap.size (fun _ => True) v104 x6_2) ∧ Aside0 (Below w.heap.size w w'))
        case atStart => exact ⟨(t103), (0), (by first | rfl | (simp; done) | (simp [*]; done) | (simp only [i64_w, i32_w]; done) | (simp [*, i64_w, i32_w]; done)), H', ⟨Nat.le_refl _⟩, ⟨by (with_reducible repeat (first | apply Kd.RR_alloc | apply Kd.RR_drewN | apply Kd.RR_drew)); exact HO105.out⟩, ⟨by repeat (first | (with_reducible first | exact HB.out | apply below_alloc | apply pw_below_drewN | apply below_drew1) | exact HB.out)⟩⟩
        case round =>
          clear H'
          try clear c2
          try clear p2
          try clear c5
          try clear c6
          try clear c9
          try clear p2
          obtain ⟨x6_2, x22_2, rfl, HA, HK2, HO_6, HB⟩ := hrel
          cases gk with
          | zero => exact absurd HA.out (by simp [impl_FirstFit.l0])
          | succ k2 =>
            have H := HA.out
            clear HA
            simp only [impl_FirstFit.l0] at H
            by_cases c12 : x22_2 < (l0.length : Int)
            · rw [if_pos c12] at H
              have c12b0 : decide (x22_2 < (l0.length : Int)) = true := decide_eq_true c12
              clear c12
              have H' := Aside0.mk H
              clear H
              go_wp2
              go_loopg [8] k2 (fun kq v8 w' => ∃ (x6_3 : List Int) (x8_3 : Int), v8 = .int .i64 x8_3 ∧ Aside0 (impl_FirstFit.l1 kq l0 a1 x6_3 x22_2 x8_3 (l0.length : Int) x22_2 = some (r1, r2)) ∧ Aside0 (kq ≤ k2) ∧ Aside0 (Kd.RR (Kd.int .i64) 3 w' w.heap.size (fun _ => True) v104 x6_3) ∧ Aside0 (Below w.heap.size w w'))
              case atStart => exact ⟨(x6_2), (0), (by first | rfl | (simp; done) | (simp [*]; done) | (simp only [i64_w, i32_w]; done) | (simp [*, i64_w, i32_w]; done)), H', ⟨Nat.le_refl _⟩, ⟨by (with_reducible repeat (first | apply Kd.RR_alloc | apply Kd.RR_drewN | apply Kd.RR_drew)); exact HO_6.out⟩, ⟨by repeat (first | (with_reducible first | exact HB.out | apply below_alloc | apply pw_below_drewN | apply below_drew1) | exact HB.out)⟩⟩
              case round =>
                clear H'
                try clear c1
                try clear c2
                try clear p2
                try clear c5
                try clear c6
                try clear c9
                try clear c12
                try clear c12b0
                try clear p2
                obtain ⟨x6_3, x8_3, rfl, HA, HK3, HO_6, HB⟩ := hrel
                cases gk with
                | zero => exact absurd HA.out (by simp [impl_FirstFit.l1])
                | succ k3 =>
                  have H := HA.out
                  clear HA
                  simp only [impl_FirstFit.l1] at H
                  have HC13 := Aside0.mk H
                  clear H
                  go_upto_region 8 with (fail)
                  go_cut [34] (fun v34 wc => ∃ (kq : Nat) (x34_12 : Bool), v34 = .bool x34_12 ∧ Aside0 (impl_FirstFit.j3 kq l0 a1 x6_3 x22_2 x8_3 (l0.length : Int) x22_2 x34_12 = some (r1, r2)) ∧ Aside0 (kq ≤ k3) ∧ Aside0 (Kd.RR (Kd.int .i64) 3 wc w.heap.size (fun _ => True) v104 x6_3) ∧ Aside0 (Below w.heap.size w wc))
                  case first =>
                    have H := HC13.out
                    clear HC13
                    by_cases c14 : x8_3 < a1
                    · rw [if_pos c14] at H
                      have c14b0 : decide (x8_3 < a1) = true := decide_eq_true c14
                      clear c14
                      (first | rw [c14b0] | (simp only [i64_w, i32_w]; rw [c14b0]) | skip)
                      by_cases c15 : 0 ≤ x22_2
                      · rw [if_pos c15] at H
                        have c15b0 : decide (0 ≤ x22_2) = true := decide_eq_true c15
                        clear c15
                        by_cases c16 : x22_2 < (x6_3.length : Int)
                        · rw [if_pos c16] at H
                          have c16b0 : decide (x22_2 < (x6_3.length : Int)) = true := decide_eq_true c16
                          clear c16
                          have H' := Aside0.mk H
                          clear H
                          obtain ⟨Ao17, co17, eo17⟩ := Kd.RR_slice HO_6.out
                          subst eo17
                          have p106 : 0 ≤ (x22_2 : Int) := of_decide_eq_true (by first | (with_reducible assumption) | assumption)
                          have q106 : x22_2 < (x6_3.length : Int) := of_decide_eq_true (by first | (with_reducible assumption) | assumption)
                          obtain ⟨ad106, e106, hx106_0⟩ := Kd.at_int (Kd.RR_reads' HO_6.out).2.2 x22_2 p106 q106
                          cases e106
                          replace p106 := eq_true p106
                          replace q106 := eq_true q106
                          go_wp2
                          go_meet
                          case rel => exact ⟨_, (decide ((rd x6_3 x22_2) < 0)), (by first | rfl | (simp; done) | (simp [*]; done) | (simp only [i64_w, i32_w]; done) | (simp [*, i64_w, i32_w]; done)), H', ⟨by have := HJ2.out; have := HK2.out; have := HK3.out; first | omega | exact Nat.le_refl _⟩, ⟨by (with_reducible repeat (first | apply Kd.RR_alloc | apply Kd.RR_drewN | apply Kd.RR_drew)); exact HO_6.out⟩, ⟨by repeat (first | (with_reducible first | exact HB.out | apply below_alloc | apply pw_below_drewN | apply below_drew1) | exact HB.out)⟩⟩
                        · rw [if_neg c16] at H
                          exact absurd H (by simp)
                      · rw [if_neg c15] at H
                        exact absurd H (by simp)
                    · rw [if_neg c14] at H
                      have c14b0 : decide (x8_3 < a1) = false := decide_eq_false c14
                      clear c14
                      (first | rw [c14b0] | (simp only [i64_w, i32_w]; rw [c14b0]) | skip)
                      have H' := Aside0.mk H
                      clear H
                      go_wp2
                      go_meet
                      case rel => exact ⟨_, (false), (by first | rfl | (simp; done) | (simp [*]; done) | (simp only [i64_w, i32_w]; done) | (simp [*, i64_w, i32_w]; done)), H', ⟨by have := HJ2.out; have := HK2.out; have := HK3.out; first | omega | exact Nat.le_refl _⟩, ⟨by (with_reducible repeat (first | apply Kd.RR_alloc | apply Kd.RR_drewN | apply Kd.RR_drew)); exact HO_6.out⟩, ⟨by repeat (first | (with_reducible first | exact HB.out | apply below_alloc | apply pw_below_drewN | apply below_drew1) | exact HB.out)⟩⟩
                  case rest =>
                    clear HC13
                    try clear c1
                    try clear p1
                    try clear q1
                    try clear hx1
                    try clear c2
                    try clear p2
                    try clear c5
                    try clear c6
                    try clear c9
                    try clear p10
                    try clear q10
                    try clear hx10
                    try clear c12
                    try clear c12b0
                    try clear c14
                    try clear c14b0
                    try clear c15
                    try clear c15b0
                    try clear c16
                    try clear c16b0
                    try clear hx106_0
                    try clear p106
                    try clear p2
                    try clear q106
                    obtain ⟨kq, x34_12, rfl, HA, HJ12, HO_6, HB⟩ := hcut
                    cases kq with
                    | zero => exact absurd HA.out (by simp [impl_FirstFit.j3])
                    | succ kj12 =>
                      have H := HA.out
                      clear HA
                      simp only [impl_FirstFit.j3] at H
                      by_cases c18 : x34_12 = true
                      · subst c18
                        have H1 : ((impl_onCore.f l0 x6_3 x8_3).bind fun t108 => (if 0 ≤ x22_2 then (if x22_2 < (l0.length : Int) then ((some (([(⟨(rd_T43 l0 x22_2).f0, (rd_T43 l0 x22_2).f1, (rd_T43 l0 x22_2).f2⟩ : S43)] : List (S43)) : List (S43))).bind fun y112 => (if t108.length + y112.length < 5864062014805 then ((impl_feasible.f kj12 (t108 ++ y112)).bind fun t118 => (if t118 = true then (if x22_2 < (x6_3.length : Int) then (impl_FirstFit.l1 kj12 l0 a1 (x6_3.set (x22_2 : Int).toNat x8_3) x22_2 (wrap64 (x8_3 + 1)) (l0.length : Int) x22_2) else (none)) else (impl_FirstFit.l1 kj12 l0 a1 x6_3 x22_2 (wrap64 (x8_3 + 1)) (l0.length : Int) x22_2))) else (none))) else (none)) else (none))) = some (r1, r2) := by rw [if_pos rfl] at H; exact H
                        clear H
                        have H := H1
                        clear H1
                        replace H := Option.bind_eq_some_iff.mp H
                        obtain ⟨t108, A190, H⟩ := H
                        replace H : (if 0 ≤ x22_2 then (if x22_2 < (l0.length : Int) then ((some (([(⟨(rd_T43 l0 x22_2).f0, (rd_T43 l0 x22_2).f1, (rd_T43 l0 x22_2).f2⟩ : S43)] : List (S43)) : List (S43))).bind fun y112 => (if t108.length + y112.length < 5864062014805 then ((impl_feasible.f kj12 (t108 ++ y112)).bind fun t118 => (if t118 = true then (if x22_2 < (x6_3.length : Int) then (impl_FirstFit.l1 kj12 l0 a1 (x6_3.set (x22_2 : Int).toNat x8_3) x22_2 (wrap64 (x8_3 + 1)) (l0.length : Int) x22_2) else (none)) else (impl_FirstFit.l1 kj12 l0 a1 x6_3 x22_2 (wrap64 (x8_3 + 1)) (l0.length : Int) x22_2))) else (none))) else (none)) else (none)) = some (r1, r2) := H
                        have A19 := Aside0.mk A190
                        clear A190
                        by_cases c20 : 0 ≤ x22_2
                        · rw [if_pos c20] at H
                          have c20b0 : decide (0 ≤ x22_2) = true := decide_eq_true c20
                          clear c20
                          by_cases c21 : x22_2 < (l0.length : Int)
                          · rw [if_pos c21] at H
                            have c21b0 : decide (x22_2 < (l0.length : Int)) = true := decide_eq_true c21
                            clear c21
                            obtain ⟨y112, hy112⟩ : ∃ y_ : List (S43), y_ = (([(⟨(rd_T43 l0 x22_2).f0, (rd_T43 l0 x22_2).f1, (rd_T43 l0 x22_2).f2⟩ : S43)] : List (S43))) := ⟨_, rfl⟩
                            replace H : (if t108.length + y112.length < 5864062014805 then ((impl_feasible.f kj12 (t108 ++ y112)).bind fun t118 => (if t118 = true then (if x22_2 < (x6_3.length : Int) then (impl_FirstFit.l1 kj12 l0 a1 (x6_3.set (x22_2 : Int).toNat x8_3) x22_2 (wrap64 (x8_3 + 1)) (l0.length : Int) x22_2) else (none)) else (impl_FirstFit.l1 kj12 l0 a1 x6_3 x22_2 (wrap64 (x8_3 + 1)) (l0.length : Int) x22_2))) else (none)) = some (r1, r2) := by first | (rw [hy112]; with_reducible exact H) | (have H2_ := (Option.bind_some _ _).symm.trans H; rw [hy112]; with_reducible exact H2_) | (have H2_ := (Option.bind_some _ _).symm.trans H; with_reducible exact H2_) | with_reducible exact H | (rw [hy112]; exact H) | exact H
                            have Ny112 := Aside0.mk hy112
                            clear hy112
                            by_cases c22 : t108.length + y112.length < 5864062014805
                            · rw [if_pos c22] at H
                              have LMc22 := Aside0.mk c22
                              clear c22
                              obtain ⟨y115, hy115⟩ : ∃ y_ : List (S43), y_ = (t108 ++ y112) := ⟨_, rfl⟩
                              replace H : ((impl_feasible.f kj12 y115).bind fun t118 => (if t118 = true then (if x22_2 < (x6_3.length : Int) then (impl_FirstFit.l1 kj12 l0 a1 (x6_3.set (x22_2 : Int).toNat x8_3) x22_2 (wrap64 (x8_3 + 1)) (l0.length : Int) x22_2) else (none)) else (impl_FirstFit.l1 kj12 l0 a1 x6_3 x22_2 (wrap64 (x8_3 + 1)) (l0.length : Int) x22_2))) = some (r1, r2) := by first | (rw [hy115]; with_reducible exact H) | (have H2_ := (Option.bind_some _ _).symm.trans H; rw [hy115]; with_reducible exact H2_) | (have H2_ := (Option.bind_some _ _).symm.trans H; with_reducible exact H2_) | with_reducible exact H | (rw [hy115]; exact H) | exact H
                              have Ny115 := Aside0.mk hy115
                              clear hy115
                              replace H := Option.bind_eq_some_iff.mp H
                              obtain ⟨t118, A230, H⟩ := H
                              replace H : (if t118 = true then (if x22_2 < (x6_3.length : Int) then (impl_FirstFit.l1 kj12 l0 a1 (x6_3.set (x22_2 : Int).toNat x8_3) x22_2 (wrap64 (x8_3 + 1)) (l0.length : Int) x22_2) else (none)) else (impl_FirstFit.l1 kj12 l0 a1 x6_3 x22_2 (wrap64 (x8_3 + 1)) (l0.length : Int) x22_2)) = some (r1, r2) := H
                              have A23 := Aside0.mk A230
                              clear A230
                              by_cases c24 : t118 = true
                              · subst c24
                                have H1 : (if x22_2 < (x6_3.length : Int) then (impl_FirstFit.l1 kj12 l0 a1 (x6_3.set (x22_2 : Int).toNat x8_3) x22_2 (wrap64 (x8_3 + 1)) (l0.length : Int) x22_2) else (none)) = some (r1, r2) := by rw [if_pos rfl] at H; exact H
                                clear H
                                have H := H1
                                clear H1
                                by_cases c25 : x22_2 < (x6_3.length : Int)
                                · rw [if_pos c25] at H
                                  have c25b0 : decide (x22_2 < (x6_3.length : Int)) = true := decide_eq_true c25
                                  clear c25
                                  obtain ⟨y119, hy119⟩ : ∃ y_ : List Int, y_ = (x6_3.set (x22_2 : Int).toNat x8_3) := ⟨_, rfl⟩
                                  replace H : (impl_FirstFit.l1 kj12 l0 a1 y119 x22_2 (wrap64 (x8_3 + 1)) (l0.length : Int) x22_2) = some (r1, r2) := by first | (rw [hy119]; with_reducible exact H) | (have H2_ := (Option.bind_some _ _).symm.trans H; rw [hy119]; with_reducible exact H2_) | (have H2_ := (Option.bind_some _ _).symm.trans H; with_reducible exact H2_) | with_reducible exact H | (rw [hy119]; exact H) | exact H
                                  have Ny119 := Aside0.mk hy119
                                  clear hy119
                                  have H' := Aside0.mk H
                                  clear H
                                  obtain ⟨Ao27, co27, eo27⟩ := Kd.RR_slice HO_6.out
                                  subst eo27
                                  try go_wp2
                                  have n0_ := Aside0.mk (Kd.RR_drew HO_6.out)
                                  have n1_ := Aside0.mk (below_drew1 HB.out)
                                  clear HO_6
                                  clear HB
                                  have HO_6 := n0_
                                  have HB := n1_
                                  clear n0_ n1_
                                  have p111 : 0 ≤ (x22_2 : Int) := of_decide_eq_true (by first | (with_reducible assumption) | assumption)
                                  have q111 : x22_2 < (l0.length : Int) := of_decide_eq_true (by first | (with_reducible assumption) | assumption)
                                  obtain ⟨ad111, e111, hx111_0, hx111_1, hx111_2⟩ := at_T43 HR0.out x22_2 p111 q111
                                  have hw111_2 := hx111_2
                                  have hw111_1 := hx111_1
                                  have hw111_0 := hx111_0
                                  cases e111
                                  replace hx111_0 := (HB.out.cell (World.block_lt_of_cell? w _ hx111_0)).trans hx111_0
                                  replace hx111_1 := (HB.out.cell (World.block_lt_of_cell? w _ hx111_1)).trans hx111_1
                                  replace hx111_2 := (HB.out.cell (World.block_lt_of_cell? w _ hx111_2)).trans hx111_2
                                  replace p111 := eq_true p111
                                  replace q111 := eq_true q111
                                  refine start_ (n := 11) (S := fun w' => w'.cell? (ad111.add ((x22_2).toNat * 3)) = some (.int .i64 ((rd_T43 l0 x22_2).f0)) ∧ w'.cell? ⟨(ad111.add ((x22_2).toNat * 3)).block, (ad111.add ((x22_2).toNat * 3)).off + 1, none⟩ = some (.int .i64 ((rd_T43 l0 x22_2).f1)) ∧ w'.cell? ⟨(ad111.add ((x22_2).toNat * 3)).block, (ad111.add ((x22_2).toNat * 3)).off + 2, none⟩ = some (.int .i64 ((rd_T43 l0 x22_2).f2))) (ds := []) #[false, false, false, false, false, false, false, false, false, false, false] (by kernel_rfl) rfl rfl ⟨((HB.out.cell (World.block_lt_of_cell? w _ hw111_0)).trans hw111_0), ((HB.out.cell (World.block_lt_of_cell? w _ hw111_1)).trans hw111_1), ((HB.out.cell (World.block_lt_of_cell? w _ hw111_2)).trans hw111_2)⟩ (fun hHeld => ?_); refine with_tabW impl_FirstFit.tab10 impl_FirstFit.bits10 (fun HT_ HW_ => ?_)
                                  generalize wc.drew = w28 at HO_6 HB hx111_0 hx111_1 hx111_2 hHeld ⊢
                                  refine pure_ (i := 0) (N := some 37) (v := ?_) (a' := ?_) #[true, false, false, false, false, false, false, false, false, false, false] rfl rfl (any_of HT_.out (by kernel_rfl)) (fun _ _ _ h => h) (Or.inl ⟨by rfl, ?_⟩) ?_ ?_
                                  rotate_left
                                  · intro w'
                                    go_simp
                                    with_reducible rfl
                                  rotate_left
                                  · simp only [Act.put, List.setIfInBounds_toArray, List.set_cons_zero, List.set_cons_succ, i64_w, i32_w]
                                    rfl
                                  refine pure_ (i := 1) (N := some 38) (v := ?_) (a' := ?_) #[true, true, false, false, false, false, false, false, false, false, false] rfl rfl (any_of HT_.out (by kernel_rfl)) (fun _ _ _ h => h) (Or.inl ⟨by rfl, ?_⟩) ?_ ?_
                                  rotate_left
                                  · intro w'
                                    go_simp
                                    with_reducible rfl
                                  rotate_left
                                  · simp only [Act.put, List.setIfInBounds_toArray, List.set_cons_zero, List.set_cons_succ, i64_w, i32_w]
                                    rfl
                                  refine pure_ (i := 2) (N := some 39) (v := ?_) (a' := ?_) #[true, true, true, false, false, false, false, false, false, false, false] rfl rfl (any_of HT_.out (by kernel_rfl)) (fun _ _ _ h => h) (Or.inl ⟨by rfl, ?_⟩) ?_ ?_
                                  rotate_left
                                  · intro w'
                                    go_simp
                                    with_reducible rfl
                                  rotate_left
                                  · simp only [Act.put, List.setIfInBounds_toArray, List.set_cons_zero, List.set_cons_succ, i64_w, i32_w]
                                    rfl
                                  refine pure_ (i := 4) (N := some 41) (v := ?_) (a' := ?_) #[true, true, true, false, true, false, false, false, false, false, false] rfl rfl (any_of HT_.out (by kernel_rfl)) (fun _ _ _ h => h) (Or.inl ⟨by rfl, ?_⟩) ?_ ?_
                                  rotate_left
                                  · intro w'
                                    go_simp
                                    with_reducible rfl
                                  rotate_left
                                  · simp only [Act.put, List.setIfInBounds_toArray, List.set_cons_zero, List.set_cons_succ, i64_w, i32_w]
                                    rfl
                                  refine pure_ (i := 5) (N := some 42) (v := ?_) (a' := ?_) #[true, true, true, false, true, true, false, false, false, false, false] rfl rfl (any_of HT_.out (by kernel_rfl)) (fun _ _ _ h => h) (Or.inl ⟨by rfl, ?_⟩) ?_ ?_
                                  rotate_left
                                  · intro w'
                                    go_simp
                                    with_reducible rfl
                                  rotate_left
                                  · simp only [Act.put, List.setIfInBounds_toArray, List.set_cons_zero, List.set_cons_succ, i64_w, i32_w]
                                    rfl
                                  refine pure_ (i := 6) (N := some 43) (v := ?_) (a' := ?_) #[true, true, true, false, true, true, true, false, false, false, false] rfl rfl (any_of HT_.out (by kernel_rfl)) (fun _ _ _ h => h) (Or.inl ⟨by rfl, ?_⟩) ?_ ?_
                                  rotate_left
                                  · intro w'
                                    go_simp
                                    with_reducible rfl
                                  rotate_left
                                  · simp only [Act.put, List.setIfInBounds_toArray, List.set_cons_zero, List.set_cons_succ, i64_w, i32_w]
                                    rfl
                                  refine take_ (i := 7) (N := some 44) (v := ?_) (a' := ?_) #[true, true, true, false, true, true, true, true, false, false, false] rfl rfl (take_ofW HT_.out HW_.out (by kernel_rfl)) (fun _ _ _ h => h) (Or.inl ⟨by rfl, ?_⟩) hHeld ?_ ?_
                                  rotate_left
                                  · rintro w' ⟨s0, s1, s2⟩
                                    go_simp
                                    with_reducible rfl
                                  rotate_left
                                  · simp only [Act.put, List.setIfInBounds_toArray, List.set_cons_zero, List.set_cons_succ, i64_w, i32_w]
                                    rfl
                                  refine join_ (σ := Value × Value) 2 #[true, true, true, true, true, true, true, true, true, false, false] (fun s_ => [(40, s_.1), (45, s_.2)]) (fun s_ w' => (w'.cell? (ad111.add ((x22_2).toNat * 3)) = some (.int .i64 ((rd_T43 l0 x22_2).f0)) ∧ w'.cell? ⟨(ad111.add ((x22_2).toNat * 3)).block, (ad111.add ((x22_2).toNat * 3)).off + 1, none⟩ = some (.int .i64 ((rd_T43 l0 x22_2).f1)) ∧ w'.cell? ⟨(ad111.add ((x22_2).toNat * 3)).block, (ad111.add ((x22_2).toNat * 3)).off + 2, none⟩ = some (.int .i64 ((rd_T43 l0 x22_2).f2))) ∧ (Kd.RR k43 43 w' w.heap.size (fun k_ => some k_ ≠ (s_.2 : Value).ownBlock) s_.1 t108) ∧ (Kd.RR k43 43 w' w.heap.size (fun k_ => some k_ ≠ (s_.1 : Value).ownBlock) s_.2 y112) ∧ (Kd.RR (Kd.int .i64) 3 w' w.heap.size (fun _ => True) (.slice Ao27 x6_3.length co27) x6_3) ∧ (Below w.heap.size w w')) ?_ ?_
                                  rotate_left
                                  · intro hCont
                                    refine two_ (i := 3) (j := 8) (Ni := some 40) (Nj := some 45) #[true, true, true, true, true, true, true, true, false, false, false] #[true, true, true, false, true, true, true, true, true, false, false] rfl rfl rfl rfl (two_of HT_.out (by kernel_rfl)) (by decide) (by decide) (fun K hK => ?_) (fun K hK => ?_)
                                    · skip
                                      refine goes_ Try.func68 (by kernel_rfl) rfl #[.slice (some ad111) l0.length c0, .slice Ao27 x6_3.length co27, .int .i64 x8_3] (by rfl) rfl rfl (by (try simp only [List.map_toArray, List.map_cons, List.map_nil]); first | done | rfl | (simp only [List.length_drop, List.length_take]; rfl)) ?_
                                      with_reducible refine (impl_onCore.calls _ _ l0 _ _ x6_3 x8_3 t108 _ ?side1 ?side2 ?side3 ?side4 A19.out).mono ?_
                                      (case side1 => repeat (first | exact (Kd.C_below HR0.out HB.out) | (with_reducible refine Kd.C_alloc ?_ _) | (with_reducible refine Kd.C_drewN ?_ _) | (with_reducible refine Kd.C_drew ?_)))
                                      (case side2 => exact HC0.out)
                                      (case side3 => repeat (first | exact (Kd.RR_reads' HO_6.out).2.2 | (with_reducible refine Kd.C_alloc ?_ _) | (with_reducible refine Kd.C_drewN ?_ _) | (with_reducible refine Kd.C_drew ?_)))
                                      (case side4 => exact (Kd.RR_reads' HO_6.out).2.1)
                                      rintro e w29 ⟨v109, rfl, ho0, hb⟩
                                      refine ⟨_, rfl, ?_⟩
                                      have n0_ := Aside0.mk (Kd.RR_below (by (with_reducible repeat (first | apply Kd.RR_alloc | apply Kd.RR_drewN | apply Kd.RR_drew)); exact HO_6.out) hb)
                                      have n1_ := Aside0.mk (Kd.RR_lower ho0 (below_size (by repeat (first | (with_reducible first | exact HB.out | apply below_alloc | apply pw_below_drewN | apply below_drew1) | exact HB.out))))
                                      have n2_ := Aside0.mk (below_step (by repeat (first | (with_reducible first | exact HB.out | apply below_alloc | apply pw_below_drewN | apply below_drew1) | exact HB.out)) hb)
                                      clear HO_6
                                      clear HB
                                      have HO_6 := n0_
                                      have HO110 := n1_
                                      have HB := n2_
                                      clear n0_ n1_ n2_
                                      (try clear hb)
                                      (try clear hb2)
                                      (try clear hk)
                                      (try clear hi)
                                      (try clear ho0)
                                      refine hK.out _ _ ⟨((HB.out.cell (World.block_lt_of_cell? w _ hw111_0)).trans hw111_0), ((HB.out.cell (World.block_lt_of_cell? w _ hw111_1)).trans hw111_1), ((HB.out.cell (World.block_lt_of_cell? w _ hw111_2)).trans hw111_2)⟩ (fun hHeld => ?_)
                                      clear hK K
                                      refine norm_ (a' := ?_) ?_ ?_
                                      rotate_left
                                      · show Act.put _ (some 40) _ = _
                                        simp only [Act.put, List.setIfInBounds_toArray, List.set_cons_zero, List.set_cons_succ, i64_w, i32_w]
                                        rfl
                                      refine one_ (i := 8) (N := some 45) #[true, true, true, true, true, true, true, true, true, false, false] rfl rfl (one_of HT_.out (by kernel_rfl)) (by decide) (fun K hK => ?_)
                                      refine Kd.RR_lit_step k43 _ 43 ?hg (N := 45) ?hd (xs := ([(⟨(rd_T43 l0 x22_2).f0, (rd_T43 l0 x22_2).f1, (rd_T43 l0 x22_2).f2⟩ : S43)] : List (S43))) (inner := [.int .i64 ((rd_T43 l0 x22_2).f0), .int .i64 ((rd_T43 l0 x22_2).f1), .int .i64 ((rd_T43 l0 x22_2).f2)]) (ok := fun _ => True) (okp := fun _ => True) ?hr ?hp (fun _ hk => hk) trivial (Below.refl _ _) (Nat.le_refl _) (by simp) ?_; (case hd => rfl); (case hg => rfl); (case hr => first | (go_simp; done) | (go_simp; rfl)); (case hp => exact (Reps.c3 (show Kd.M k43 _ _ _ (⟨(rd_T43 l0 x22_2).f0, (rd_T43 l0 x22_2).f1, (rd_T43 l0 x22_2).f2⟩ : S43) [.int .i64 ((rd_T43 l0 x22_2).f0), .int .i64 ((rd_T43 l0 x22_2).f1), .int .i64 ((rd_T43 l0 x22_2).f2)] from (k43_mkM _ _ _ (⟨(rd_T43 l0 x22_2).f0, (rd_T43 l0 x22_2).f1, (rd_T43 l0 x22_2).f2⟩ : S43) )) (Reps.none _ _)))
                                      intro v113 w30 ho31 hb hg_ hnew_
                                      clear hg_ hnew_
                                      (first | rw [← Ny112.out] at ho31 | (simp only [Int.reduceToNat] at ho31; rw [← Ny112.out] at ho31))
                                      have n0_ := Aside0.mk (Kd.RR_below (by (with_reducible repeat (first | apply Kd.RR_alloc | apply Kd.RR_drewN | apply Kd.RR_drew)); exact HO_6.out) hb)
                                      have n1_ := Aside0.mk (Kd.RR_elder' (by (with_reducible repeat (first | apply Kd.RR_alloc | apply Kd.RR_drewN | apply Kd.RR_drew)); exact HO110.out) (Kd.RR_base ho31) hb)
                                      have n2_ := Aside0.mk (Kd.RR_lower (Kd.RR_new' ho31 (Kd.RR_lt (by (with_reducible repeat (first | apply Kd.RR_alloc | apply Kd.RR_drewN | apply Kd.RR_drew)); exact HO110.out))) (below_size (by repeat (first | (with_reducible first | exact HB.out | apply below_alloc | apply pw_below_drewN | apply below_drew1) | exact HB.out))))
                                      have n3_ := Aside0.mk (below_step (by repeat (first | (with_reducible first | exact HB.out | apply below_alloc | apply pw_below_drewN | apply below_drew1) | exact HB.out)) hb)
                                      clear HO_6
                                      clear HO110
                                      clear HB
                                      have HO_6 := n0_
                                      have HO110 := n1_
                                      have HO114 := n2_
                                      have HB := n3_
                                      clear n0_ n1_ n2_ n3_
                                      clear hb ho31
                                      refine hK.out _ _ ⟨((HB.out.cell (World.block_lt_of_cell? w _ hw111_0)).trans hw111_0), ((HB.out.cell (World.block_lt_of_cell? w _ hw111_1)).trans hw111_1), ((HB.out.cell (World.block_lt_of_cell? w _ hw111_2)).trans hw111_2)⟩ (fun hHeld => ?_)
                                      clear hK K
                                      refine norm_ (a' := ?_) ?_ ?_
                                      rotate_left
                                      · show Act.put _ (some 45) _ = _
                                        simp only [Act.put, List.setIfInBounds_toArray, List.set_cons_zero, List.set_cons_succ, i64_w, i32_w]
                                        rfl
                                      exact norm_ (by simp only [putAll, Act.put, List.setIfInBounds_toArray, List.set_cons_zero, List.set_cons_succ]) (hCont (v109, v113) _ ⟨hHeld, (by (with_reducible repeat (first | apply Kd.RR_alloc | apply Kd.RR_drewN | apply Kd.RR_drew)); exact Kd.RR_mono HO110.out (fun _ hk => hk.2)), (by (with_reducible repeat (first | apply Kd.RR_alloc | apply Kd.RR_drewN | apply Kd.RR_drew)); exact Kd.RR_mono HO114.out (fun _ hk => hk.2)), (by (with_reducible repeat (first | apply Kd.RR_alloc | apply Kd.RR_drewN | apply Kd.RR_drew)); exact HO_6.out), (by repeat (first | (with_reducible first | exact HB.out | apply below_alloc | apply pw_below_drewN | apply below_drew1) | exact HB.out))⟩)
                                    · skip
                                      refine Kd.RR_lit_step k43 _ 43 ?hg (N := 45) ?hd (xs := ([(⟨(rd_T43 l0 x22_2).f0, (rd_T43 l0 x22_2).f1, (rd_T43 l0 x22_2).f2⟩ : S43)] : List (S43))) (inner := [.int .i64 ((rd_T43 l0 x22_2).f0), .int .i64 ((rd_T43 l0 x22_2).f1), .int .i64 ((rd_T43 l0 x22_2).f2)]) (ok := fun _ => True) (okp := fun _ => True) ?hr ?hp (fun _ hk => hk) trivial (Below.refl _ _) (Nat.le_refl _) (by simp) ?_; (case hd => rfl); (case hg => rfl); (case hr => first | (go_simp; done) | (go_simp; rfl)); (case hp => exact (Reps.c3 (show Kd.M k43 _ _ _ (⟨(rd_T43 l0 x22_2).f0, (rd_T43 l0 x22_2).f1, (rd_T43 l0 x22_2).f2⟩ : S43) [.int .i64 ((rd_T43 l0 x22_2).f0), .int .i64 ((rd_T43 l0 x22_2).f1), .int .i64 ((rd_T43 l0 x22_2).f2)] from (k43_mkM _ _ _ (⟨(rd_T43 l0 x22_2).f0, (rd_T43 l0 x22_2).f1, (rd_T43 l0 x22_2).f2⟩ : S43) )) (Reps.none _ _)))
                                      intro v113 w29 ho30 hb hg_ hnew_
                                      clear hg_ hnew_
                                      (first | rw [← Ny112.out] at ho30 | (simp only [Int.reduceToNat] at ho30; rw [← Ny112.out] at ho30))
                                      have n0_ := Aside0.mk (Kd.RR_below (by (with_reducible repeat (first | apply Kd.RR_alloc | apply Kd.RR_drewN | apply Kd.RR_drew)); exact HO_6.out) hb)
                                      have n1_ := Aside0.mk (Kd.RR_lower ho30 (below_size (by repeat (first | (with_reducible first | exact HB.out | apply below_alloc | apply pw_below_drewN | apply below_drew1) | exact HB.out))))
                                      have n2_ := Aside0.mk (below_step (by repeat (first | (with_reducible first | exact HB.out | apply below_alloc | apply pw_below_drewN | apply below_drew1) | exact HB.out)) hb)
                                      clear HO_6
                                      clear HB
                                      have HO_6 := n0_
                                      have HO114 := n1_
                                      have HB := n2_
                                      clear n0_ n1_ n2_
                                      clear hb ho30
                                      refine hK.out _ _ ⟨((HB.out.cell (World.block_lt_of_cell? w _ hw111_0)).trans hw111_0), ((HB.out.cell (World.block_lt_of_cell? w _ hw111_1)).trans hw111_1), ((HB.out.cell (World.block_lt_of_cell? w _ hw111_2)).trans hw111_2)⟩ (fun hHeld => ?_)
                                      clear hK K
                                      refine norm_ (a' := ?_) ?_ ?_
                                      rotate_left
                                      · show Act.put _ (some 45) _ = _
                                        simp only [Act.put, List.setIfInBounds_toArray, List.set_cons_zero, List.set_cons_succ, i64_w, i32_w]
                                        rfl
                                      refine one_ (i := 3) (N := some 40) #[true, true, true, true, true, true, true, true, true, false, false] rfl rfl (one_of HT_.out (by kernel_rfl)) (by decide) (fun K hK => ?_)
                                      refine goes_ Try.func68 (by kernel_rfl) rfl #[.slice (some ad111) l0.length c0, .slice Ao27 x6_3.length co27, .int .i64 x8_3] (by rfl) rfl rfl (by (try simp only [List.map_toArray, List.map_cons, List.map_nil]); first | done | rfl | (simp only [List.length_drop, List.length_take]; rfl)) ?_
                                      with_reducible refine (impl_onCore.calls _ _ l0 _ _ x6_3 x8_3 t108 _ ?side1 ?side2 ?side3 ?side4 A19.out).mono ?_
                                      (case side1 => repeat (first | exact (Kd.C_below HR0.out HB.out) | (with_reducible refine Kd.C_alloc ?_ _) | (with_reducible refine Kd.C_drewN ?_ _) | (with_reducible refine Kd.C_drew ?_)))
                                      (case side2 => exact HC0.out)
                                      (case side3 => repeat (first | exact (Kd.RR_reads' HO_6.out).2.2 | (with_reducible refine Kd.C_alloc ?_ _) | (with_reducible refine Kd.C_drewN ?_ _) | (with_reducible refine Kd.C_drew ?_)))
                                      (case side4 => exact (Kd.RR_reads' HO_6.out).2.1)
                                      rintro e w31 ⟨v109, rfl, ho0, hb⟩
                                      refine ⟨_, rfl, ?_⟩
                                      have n0_ := Aside0.mk (Kd.RR_below (by (with_reducible repeat (first | apply Kd.RR_alloc | apply Kd.RR_drewN | apply Kd.RR_drew)); exact HO_6.out) hb)
                                      have n1_ := Aside0.mk (Kd.RR_elder' (by (with_reducible repeat (first | apply Kd.RR_alloc | apply Kd.RR_drewN | apply Kd.RR_drew)); exact HO114.out) (Kd.RR_base ho0) hb)
                                      have n2_ := Aside0.mk (Kd.RR_lower (Kd.RR_new' ho0 (Kd.RR_lt (by (with_reducible repeat (first | apply Kd.RR_alloc | apply Kd.RR_drewN | apply Kd.RR_drew)); exact HO114.out))) (below_size (by repeat (first | (with_reducible first | exact HB.out | apply below_alloc | apply pw_below_drewN | apply below_drew1) | exact HB.out))))
                                      have n3_ := Aside0.mk (below_step (by repeat (first | (with_reducible first | exact HB.out | apply below_alloc | apply pw_below_drewN | apply below_drew1) | exact HB.out)) hb)
                                      clear HO_6
                                      clear HO114
                                      clear HB
                                      have HO_6 := n0_
                                      have HO114 := n1_
                                      have HO110 := n2_
                                      have HB := n3_
                                      clear n0_ n1_ n2_ n3_
                                      (try clear hb)
                                      (try clear hb2)
                                      (try clear hk)
                                      (try clear hi)
                                      (try clear ho0)
                                      refine hK.out _ _ ⟨((HB.out.cell (World.block_lt_of_cell? w _ hw111_0)).trans hw111_0), ((HB.out.cell (World.block_lt_of_cell? w _ hw111_1)).trans hw111_1), ((HB.out.cell (World.block_lt_of_cell? w _ hw111_2)).trans hw111_2)⟩ (fun hHeld => ?_)
                                      clear hK K
                                      refine norm_ (a' := ?_) ?_ ?_
                                      rotate_left
                                      · show Act.put _ (some 40) _ = _
                                        simp only [Act.put, List.setIfInBounds_toArray, List.set_cons_zero, List.set_cons_succ, i64_w, i32_w]
                                        rfl
                                      exact norm_ (by simp only [putAll, Act.put, List.setIfInBounds_toArray, List.set_cons_zero, List.set_cons_succ]) (hCont (v109, v113) _ ⟨hHeld, (by (with_reducible repeat (first | apply Kd.RR_alloc | apply Kd.RR_drewN | apply Kd.RR_drew)); exact Kd.RR_mono HO110.out (fun _ hk => hk.2)), (by (with_reducible repeat (first | apply Kd.RR_alloc | apply Kd.RR_drewN | apply Kd.RR_drew)); exact Kd.RR_mono HO114.out (fun _ hk => hk.2)), (by (with_reducible repeat (first | apply Kd.RR_alloc | apply Kd.RR_drewN | apply Kd.RR_drew)); exact HO_6.out), (by repeat (first | (with_reducible first | exact HB.out | apply below_alloc | apply pw_below_drewN | apply below_drew1) | exact HB.out))⟩)
                                  rintro ⟨v109, v113⟩ w32 ⟨hS_, h0_, h1_, h2_, h3_⟩
                                  have n0_ : Aside0 (Kd.RR k43 43 w32 w.heap.size (fun k_ => some k_ ≠ (v113 : Value).ownBlock) v109 t108) := ⟨h0_⟩
                                  have n1_ : Aside0 (Kd.RR k43 43 w32 w.heap.size (fun k_ => some k_ ≠ (v109 : Value).ownBlock) v113 y112) := ⟨h1_⟩
                                  have n2_ : Aside0 (Kd.RR (Kd.int .i64) 3 w32 w.heap.size (fun _ => True) (.slice Ao27 x6_3.length co27) x6_3) := ⟨h2_⟩
                                  have n3_ : Aside0 (Below w.heap.size w w32) := ⟨h3_⟩
                                  clear HO_6
                                  clear HB
                                  clear h0_ h1_ h2_ h3_
                                  have HO110 := n0_
                                  have HO114 := n1_
                                  have HO_6 := n2_
                                  have HB := n3_
                                  clear n0_ n1_ n2_ n3_
                                  have hHeld : w32.cell? (ad111.add ((x22_2).toNat * 3)) = some (.int .i64 ((rd_T43 l0 x22_2).f0)) ∧ w32.cell? ⟨(ad111.add ((x22_2).toNat * 3)).block, (ad111.add ((x22_2).toNat * 3)).off + 1, none⟩ = some (.int .i64 ((rd_T43 l0 x22_2).f1)) ∧ w32.cell? ⟨(ad111.add ((x22_2).toNat * 3)).block, (ad111.add ((x22_2).toNat * 3)).off + 2, none⟩ = some (.int .i64 ((rd_T43 l0 x22_2).f2)) := hS_
                                  obtain ⟨Ao34, co34, eo34⟩ := Kd.RR_slice HO114.out
                                  (first | subst eo34 | (injection eo34 with f1_ f2_ f3_; have f4_ := f1_.symm; have f5_ := f3_.symm; clear f1_ f2_ f3_; subst f4_; subst f5_))
                                  refine norm_ (a' := ?_) ?_ ?_
                                  rotate_left
                                  · simp only [putAll, Act.put, List.setIfInBounds_toArray, List.set_cons_zero, List.set_cons_succ]
                                    rfl
                                  refine one_ (i := 9) (N := some 46) #[true, true, true, true, true, true, true, true, true, true, false] rfl rfl (one_of HT_.out (by kernel_rfl)) (by decide) (fun K hK => ?_)
                                  refine Kd.RR_append_rows_step k43 (w0 := w) w.heap.size (by rfl) (.tmp 40) (.tmp 45) 41 43 (.agg #[(.int .i64 0), (.int .i64 0), (.int .i64 0)]) 24 rfl Try.underlying41 info43 rfl (by decide) (by omega) v109 t108 y112 _ _ _ (fun k_ => some k_ ≠ (.slice Ao34 y112.length co34 : Value).ownBlock) (fun _ => False) rfl rfl ?aO ?aR (fun _ _ h => h) (fun _ h => h.elim) ?aF ?aB ?aS ?aL ?_
                                  (case aR => repeat (first | exact (Kd.RR_reads' HO114.out).2.2 | (with_reducible refine Kd.C_alloc ?_ _) | (with_reducible refine Kd.C_drewN ?_ _) | (with_reducible refine Kd.C_drew ?_)))
                                  (case aB => exact (by repeat (first | (with_reducible first | exact HB.out | apply below_alloc | apply pw_below_drewN | apply below_drew1) | exact HB.out)))
                                  (case aF => exact (fun k_ hk => Kd.fresh' (Kd.RR_lt (by (with_reducible repeat (first | apply Kd.RR_alloc | apply Kd.RR_drewN | apply Kd.RR_drew)); exact HO114.out)) k_ hk))
                                  (case aO => exact (by (with_reducible repeat (first | apply Kd.RR_alloc | apply Kd.RR_drewN | apply Kd.RR_drew)); exact HO110.out))
                                  (case aS => exact (below_size (by repeat (first | (with_reducible first | exact HB.out | apply below_alloc | apply pw_below_drewN | apply below_drew1) | exact HB.out))))
                                  (case aL => have := LMc22.out; omega)
                                  intro v116 w33 ho hb hg hat
                                  rw [← Ny115.out] at ho
                                  have n0_ := Aside0.mk (Kd.RR_over' (by (with_reducible repeat (first | apply Kd.RR_alloc | apply Kd.RR_drewN | apply Kd.RR_drew)); exact HO_6.out) (Kd.RR_typed (by (with_reducible repeat (first | apply Kd.RR_alloc | apply Kd.RR_drewN | apply Kd.RR_drew)); exact HO110.out)) (by decide) hg)
                                  have n1_ := Aside0.mk (Kd.RR_after (ok := (fun _ => True)) (by (with_reducible repeat (first | apply Kd.RR_alloc | apply Kd.RR_drewN | apply Kd.RR_drew)); exact Kd.RR_mono HO114.out (fun _ hk => ⟨trivial, hk⟩)) hg hat)
                                  have n2_ := Aside0.mk (hb)
                                  have n3_ := Aside0.mk (ho)
                                  clear HO_6
                                  clear HO114
                                  clear HB
                                  clear HO110
                                  have HO_6 := n0_
                                  have HO114 := n1_
                                  have HB := n2_
                                  have HO117 := n3_
                                  clear n0_ n1_ n2_ n3_
                                  clear ho hb hg hat
                                  obtain ⟨Ao35, co35, eo35⟩ := Kd.RR_slice HO117.out
                                  (first | subst eo35 | (injection eo35 with f1_ f2_ f3_; have f4_ := f1_.symm; have f5_ := f3_.symm; clear f1_ f2_ f3_; subst f4_; subst f5_))
                                  refine hK.out _ _ ⟨((HB.out.cell (World.block_lt_of_cell? w _ hw111_0)).trans hw111_0), ((HB.out.cell (World.block_lt_of_cell? w _ hw111_1)).trans hw111_1), ((HB.out.cell (World.block_lt_of_cell? w _ hw111_2)).trans hw111_2)⟩ (fun hHeld => ?_)
                                  clear hK K
                                  refine norm_ (a' := ?_) ?_ ?_
                                  rotate_left
                                  · show Act.put _ (some 46) _ = _
                                    simp only [Act.put, List.setIfInBounds_toArray, List.set_cons_zero, List.set_cons_succ, i64_w, i32_w]
                                    rfl
                                  refine one_ (i := 10) (N := some 47) #[true, true, true, true, true, true, true, true, true, true, true] rfl rfl (one_of HT_.out (by kernel_rfl)) (by decide) (fun K hK => ?_)
                                  refine goes_ Try.func67 (by kernel_rfl) rfl #[.slice Ao35 y115.length co35] (by rfl) rfl rfl (by (try simp only [List.map_toArray, List.map_cons, List.map_nil]); first | done | rfl | (simp only [List.length_drop, List.length_take]; rfl)) ?_
                                  with_reducible refine (impl_feasible.calls kj12 _ _ y115 true _ ?side1 ?side2 A23.out).mono ?_
                                  (case side1 => repeat (first | exact (Kd.RR_reads' HO117.out).2.2 | (with_reducible refine Kd.C_alloc ?_ _) | (with_reducible refine Kd.C_drewN ?_ _) | (with_reducible refine Kd.C_drew ?_)))
                                  (case side2 => exact (Kd.RR_reads' HO117.out).2.1)
                                  rintro e w36 ⟨rfl, hb⟩
                                  refine ⟨_, rfl, ?_⟩
                                  have n0_ := Aside0.mk (Kd.RR_below (by (with_reducible repeat (first | apply Kd.RR_alloc | apply Kd.RR_drewN | apply Kd.RR_drew)); exact HO_6.out) hb)
                                  have n1_ := Aside0.mk (Kd.RR_below (by (with_reducible repeat (first | apply Kd.RR_alloc | apply Kd.RR_drewN | apply Kd.RR_drew)); exact HO114.out) hb)
                                  have n2_ := Aside0.mk (Kd.RR_below (by (with_reducible repeat (first | apply Kd.RR_alloc | apply Kd.RR_drewN | apply Kd.RR_drew)); exact HO117.out) hb)
                                  have n3_ := Aside0.mk (below_step (by repeat (first | (with_reducible first | exact HB.out | apply below_alloc | apply pw_below_drewN | apply below_drew1) | exact HB.out)) hb)
                                  clear HO_6
                                  clear HO114
                                  clear HO117
                                  clear HB
                                  have HO_6 := n0_
                                  have HO114 := n1_
                                  have HO117 := n2_
                                  have HB := n3_
                                  clear n0_ n1_ n2_ n3_
                                  (try clear hb)
                                  (try clear hb2)
                                  (try clear hk)
                                  (try clear hi)
                                  refine hK.out _ _ ⟨((HB.out.cell (World.block_lt_of_cell? w _ hw111_0)).trans hw111_0), ((HB.out.cell (World.block_lt_of_cell? w _ hw111_1)).trans hw111_1), ((HB.out.cell (World.block_lt_of_cell? w _ hw111_2)).trans hw111_2)⟩ (fun hHeld => ?_)
                                  clear hK K
                                  refine norm_ (a' := ?_) ?_ ?_
                                  rotate_left
                                  · show Act.put _ (some 47) _ = _
                                    simp only [Act.put, List.setIfInBounds_toArray, List.set_cons_zero, List.set_cons_succ, i64_w, i32_w]
                                    rfl
                                  refine done_ (done_of HT_.out (by kernel_rfl)) ?_
                                  have p26 : 0 ≤ (x22_2 : Int) := of_decide_eq_true (by first | (with_reducible assumption) | assumption)
                                  have q26 : (x22_2 : Int) < ((x6_3.length : Int) : Int) := of_decide_eq_true (by first | (with_reducible assumption) | assumption)
                                  obtain ⟨go26, co26, eo26, gb26, gl26, cl26, HG26⟩ := Kd.RR_form HO_6.out (by omega)
                                  (first | cases eo26 | (injection eo26 with ea_ en_ ec_; (first | subst ea_ | (injection ea_ with ea_; subst ea_)); subst ec_; clear en_))
                                  have GB26 := Aside0.mk gb26
                                  have GG26 := Aside0.mk HG26
                                  clear gb26 gl26 HG26
                                  obtain ⟨hx26_0, hf26_0⟩ := Kd.RR_celln 0 HO_6.out (x22_2 : Int) p26 q26
                                  replace p26 := eq_true p26
                                  replace q26 := eq_true q26
                                  obtain ⟨hy37_, hz37_⟩ := Kd.RR_celln 0 HO_6.out (x22_2 : Int) (of_decide_eq_true (by first | (with_reducible assumption) | assumption)) (of_decide_eq_true (by first | (with_reducible assumption) | assumption))
                                  have HP37 := Kd.RR_putg HO_6.out (x22_2 : Int) x8_3
                                  try go_wp2_with (first | ((with_reducible refine gate_store (t := 3) (p := 51) rfl ?_); refine store_event (t := 3) (p := 51) (v := ?vo_w38) (w1 := (w36.setCell ⟨go26, (x22_2 : Int).toNat, none⟩ (.int .i64 x8_3))) ?hg ?ho ?hn ?hr ?_; (case ho => rfl); (case hg => rfl); (case hn => rfl); (case hr => first | (go_simp; done) | (go_simp; rfl)); intro w38 hw; have hg : w36.grownBy w38 (some go26) := (by rw [hw]; exact HP37.2); have hp_ : Kd.RR (Kd.int .i64) 3 w38 w.heap.size (fun _ => True) (.slice (some ⟨go26, 0, none⟩) x6_3.length co27) y119 := (by rw [hw, Ny119.out]; exact HP37.1); clear HP37; have n0_ := Aside0.mk (hp_); have n1_ := Aside0.mk (Kd.RR_over' (v := (.slice (some ⟨go26, 0, none⟩) x6_3.length co27)) (by (with_reducible repeat (first | apply Kd.RR_alloc | apply Kd.RR_drewN | apply Kd.RR_drew)); exact HO114.out) (Kd.RR_typed HO_6.out) (by decide) hg); have n2_ := Aside0.mk (Kd.RR_over' (v := (.slice (some ⟨go26, 0, none⟩) x6_3.length co27)) (by (with_reducible repeat (first | apply Kd.RR_alloc | apply Kd.RR_drewN | apply Kd.RR_drew)); exact HO117.out) (Kd.RR_typed HO_6.out) (by decide) hg); have n3_ := Aside0.mk ((by rw [hw]; exact below_set (HB.out) GB26.out : Below w.heap.size w w38)); clear HO_6; clear HO114; clear HO117; clear HB; have HO_6 := n0_; have HO114 := n1_; have HO117 := n2_; have HB := n3_; clear n0_ n1_ n2_ n3_; clear hg hw hp_))
                                  go_roundg kj12
                                  case measure => have := HJ2.out; have := HK2.out; have := HK3.out; have := HJ12.out; omega
                                  case rel => exact ⟨(y119), (wrap64 (x8_3 + 1)), (by first | rfl | (simp; done) | (simp [*]; done) | (simp only [i64_w, i32_w]; done) | (simp [*, i64_w, i32_w]; done)), H', ⟨by have := HJ2.out; have := HK2.out; have := HK3.out; have := HJ12.out; omega⟩, ⟨by (with_reducible repeat (first | apply Kd.RR_alloc | apply Kd.RR_drewN | apply Kd.RR_drew)); exact HO_6.out⟩, ⟨by repeat (first | (with_reducible first | exact HB.out | apply below_alloc | apply pw_below_drewN | apply below_drew1) | exact HB.out)⟩⟩
                                · rw [if_neg c25] at H
                                  exact absurd H (by simp)
                              · replace c24 := Bool.eq_false_iff.mpr c24
                                subst c24
                                have H1 : (impl_FirstFit.l1 kj12 l0 a1 x6_3 x22_2 (wrap64 (x8_3 + 1)) (l0.length : Int) x22_2) = some (r1, r2) := by rw [if_neg (show ¬ (false = true) by decide)] at H; exact H
                                clear H
                                have H := H1
                                clear H1
                                have H' := Aside0.mk H
                                clear H
                                obtain ⟨Ao39, co39, eo39⟩ := Kd.RR_slice HO_6.out
                                subst eo39
                                try go_wp2
                                have n0_ := Aside0.mk (Kd.RR_drew HO_6.out)
                                have n1_ := Aside0.mk (below_drew1 HB.out)
                                clear HO_6
                                clear HB
                                have HO_6 := n0_
                                have HB := n1_
                                clear n0_ n1_
                                have p111 : 0 ≤ (x22_2 : Int) := of_decide_eq_true (by first | (with_reducible assumption) | assumption)
                                have q111 : x22_2 < (l0.length : Int) := of_decide_eq_true (by first | (with_reducible assumption) | assumption)
                                obtain ⟨ad111, e111, hx111_0, hx111_1, hx111_2⟩ := at_T43 HR0.out x22_2 p111 q111
                                have hw111_2 := hx111_2
                                have hw111_1 := hx111_1
                                have hw111_0 := hx111_0
                                cases e111
                                replace hx111_0 := (HB.out.cell (World.block_lt_of_cell? w _ hx111_0)).trans hx111_0
                                replace hx111_1 := (HB.out.cell (World.block_lt_of_cell? w _ hx111_1)).trans hx111_1
                                replace hx111_2 := (HB.out.cell (World.block_lt_of_cell? w _ hx111_2)).trans hx111_2
                                replace p111 := eq_true p111
                                replace q111 := eq_true q111
                                refine start_ (n := 11) (S := fun w' => w'.cell? (ad111.add ((x22_2).toNat * 3)) = some (.int .i64 ((rd_T43 l0 x22_2).f0)) ∧ w'.cell? ⟨(ad111.add ((x22_2).toNat * 3)).block, (ad111.add ((x22_2).toNat * 3)).off + 1, none⟩ = some (.int .i64 ((rd_T43 l0 x22_2).f1)) ∧ w'.cell? ⟨(ad111.add ((x22_2).toNat * 3)).block, (ad111.add ((x22_2).toNat * 3)).off + 2, none⟩ = some (.int .i64 ((rd_T43 l0 x22_2).f2))) (ds := []) #[false, false, false, false, false, false, false, false, false, false, false] (by kernel_rfl) rfl rfl ⟨((HB.out.cell (World.block_lt_of_cell? w _ hw111_0)).trans hw111_0), ((HB.out.cell (World.block_lt_of_cell? w _ hw111_1)).trans hw111_1), ((HB.out.cell (World.block_lt_of_cell? w _ hw111_2)).trans hw111_2)⟩ (fun hHeld => ?_); refine with_tabW impl_FirstFit.tab10 impl_FirstFit.bits10 (fun HT_ HW_ => ?_)
                                generalize wc.drew = w40 at HO_6 HB hx111_0 hx111_1 hx111_2 hHeld ⊢
                                refine pure_ (i := 0) (N := some 37) (v := ?_) (a' := ?_) #[true, false, false, false, false, false, false, false, false, false, false] rfl rfl (any_of HT_.out (by kernel_rfl)) (fun _ _ _ h => h) (Or.inl ⟨by rfl, ?_⟩) ?_ ?_
                                rotate_left
                                · intro w'
                                  go_simp
                                  with_reducible rfl
                                rotate_left
                                · simp only [Act.put, List.setIfInBounds_toArray, List.set_cons_zero, List.set_cons_succ, i64_w, i32_w]
                                  rfl
                                refine pure_ (i := 1) (N := some 38) (v := ?_) (a' := ?_) #[true, true, false, false, false, false, false, false, false, false, false] rfl rfl (any_of HT_.out (by kernel_rfl)) (fun _ _ _ h => h) (Or.inl ⟨by rfl, ?_⟩) ?_ ?_
                                rotate_left
                                · intro w'
                                  go_simp
                                  with_reducible rfl
                                rotate_left
                                · simp only [Act.put, List.setIfInBounds_toArray, List.set_cons_zero, List.set_cons_succ, i64_w, i32_w]
                                  rfl
                                refine pure_ (i := 2) (N := some 39) (v := ?_) (a' := ?_) #[true, true, true, false, false, false, false, false, false, false, false] rfl rfl (any_of HT_.out (by kernel_rfl)) (fun _ _ _ h => h) (Or.inl ⟨by rfl, ?_⟩) ?_ ?_
                                rotate_left
                                · intro w'
                                  go_simp
                                  with_reducible rfl
                                rotate_left
                                · simp only [Act.put, List.setIfInBounds_toArray, List.set_cons_zero, List.set_cons_succ, i64_w, i32_w]
                                  rfl
                                refine pure_ (i := 4) (N := some 41) (v := ?_) (a' := ?_) #[true, true, true, false, true, false, false, false, false, false, false] rfl rfl (any_of HT_.out (by kernel_rfl)) (fun _ _ _ h => h) (Or.inl ⟨by rfl, ?_⟩) ?_ ?_
                                rotate_left
                                · intro w'
                                  go_simp
                                  with_reducible rfl
                                rotate_left
                                · simp only [Act.put, List.setIfInBounds_toArray, List.set_cons_zero, List.set_cons_succ, i64_w, i32_w]
                                  rfl
                                refine pure_ (i := 5) (N := some 42) (v := ?_) (a' := ?_) #[true, true, true, false, true, true, false, false, false, false, false] rfl rfl (any_of HT_.out (by kernel_rfl)) (fun _ _ _ h => h) (Or.inl ⟨by rfl, ?_⟩) ?_ ?_
                                rotate_left
                                · intro w'
                                  go_simp
                                  with_reducible rfl
                                rotate_left
                                · simp only [Act.put, List.setIfInBounds_toArray, List.set_cons_zero, List.set_cons_succ, i64_w, i32_w]
                                  rfl
                                refine pure_ (i := 6) (N := some 43) (v := ?_) (a' := ?_) #[true, true, true, false, true, true, true, false, false, false, false] rfl rfl (any_of HT_.out (by kernel_rfl)) (fun _ _ _ h => h) (Or.inl ⟨by rfl, ?_⟩) ?_ ?_
                                rotate_left
                                · intro w'
                                  go_simp
                                  with_reducible rfl
                                rotate_left
                                · simp only [Act.put, List.setIfInBounds_toArray, List.set_cons_zero, List.set_cons_succ, i64_w, i32_w]
                                  rfl
                                refine take_ (i := 7) (N := some 44) (v := ?_) (a' := ?_) #[true, true, true, false, true, true, true, true, false, false, false] rfl rfl (take_ofW HT_.out HW_.out (by kernel_rfl)) (fun _ _ _ h => h) (Or.inl ⟨by rfl, ?_⟩) hHeld ?_ ?_
                                rotate_left
                                · rintro w' ⟨s0, s1, s2⟩
                                  go_simp
                                  with_reducible rfl
                                rotate_left
                                · simp only [Act.put, List.setIfInBounds_toArray, List.set_cons_zero, List.set_cons_succ, i64_w, i32_w]
                                  rfl
                                refine join_ (σ := Value × Value) 2 #[true, true, true, true, true, true, true, true, true, false, false] (fun s_ => [(40, s_.1), (45, s_.2)]) (fun s_ w' => (w'.cell? (ad111.add ((x22_2).toNat * 3)) = some (.int .i64 ((rd_T43 l0 x22_2).f0)) ∧ w'.cell? ⟨(ad111.add ((x22_2).toNat * 3)).block, (ad111.add ((x22_2).toNat * 3)).off + 1, none⟩ = some (.int .i64 ((rd_T43 l0 x22_2).f1)) ∧ w'.cell? ⟨(ad111.add ((x22_2).toNat * 3)).block, (ad111.add ((x22_2).toNat * 3)).off + 2, none⟩ = some (.int .i64 ((rd_T43 l0 x22_2).f2))) ∧ (Kd.RR k43 43 w' w.heap.size (fun k_ => some k_ ≠ (s_.2 : Value).ownBlock) s_.1 t108) ∧ (Kd.RR k43 43 w' w.heap.size (fun k_ => some k_ ≠ (s_.1 : Value).ownBlock) s_.2 y112) ∧ (Kd.RR (Kd.int .i64) 3 w' w.heap.size (fun _ => True) (.slice Ao39 x6_3.length co39) x6_3) ∧ (Below w.heap.size w w')) ?_ ?_
                                rotate_left
                                · intro hCont
                                  refine two_ (i := 3) (j := 8) (Ni := some 40) (Nj := some 45) #[true, true, true, true, true, true, true, true, false, false, false] #[true, true, true, false, true, true, true, true, true, false, false] rfl rfl rfl rfl (two_of HT_.out (by kernel_rfl)) (by decide) (by decide) (fun K hK => ?_) (fun K hK => ?_)
                                  · skip
                                    refine goes_ Try.func68 (by kernel_rfl) rfl #[.slice (some ad111) l0.length c0, .slice Ao39 x6_3.length co39, .int .i64 x8_3] (by rfl) rfl rfl (by (try simp only [List.map_toArray, List.map_cons, List.map_nil]); first | done | rfl | (simp only [List.length_drop, List.length_take]; rfl)) ?_
                                    with_reducible refine (impl_onCore.calls _ _ l0 _ _ x6_3 x8_3 t108 _ ?side1 ?side2 ?side3 ?side4 A19.out).mono ?_
                                    (case side1 => repeat (first | exact (Kd.C_below HR0.out HB.out) | (with_reducible refine Kd.C_alloc ?_ _) | (with_reducible refine Kd.C_drewN ?_ _) | (with_reducible refine Kd.C_drew ?_)))
                                    (case side2 => exact HC0.out)
                                    (case side3 => repeat (first | exact (Kd.RR_reads' HO_6.out).2.2 | (with_reducible refine Kd.C_alloc ?_ _) | (with_reducible refine Kd.C_drewN ?_ _) | (with_reducible refine Kd.C_drew ?_)))
                                    (case side4 => exact (Kd.RR_reads' HO_6.out).2.1)
                                    rintro e w41 ⟨v109, rfl, ho0, hb⟩
                                    refine ⟨_, rfl, ?_⟩
                                    have n0_ := Aside0.mk (Kd.RR_below (by (with_reducible repeat (first | apply Kd.RR_alloc | apply Kd.RR_drewN | apply Kd.RR_drew)); exact HO_6.out) hb)
                                    have n1_ := Aside0.mk (Kd.RR_lower ho0 (below_size (by repeat (first | (with_reducible first | exact HB.out | apply below_alloc | apply pw_below_drewN | apply below_drew1) | exact HB.out))))
                                    have n2_ := Aside0.mk (below_step (by repeat (first | (with_reducible first | exact HB.out | apply below_alloc | apply pw_below_drewN | apply below_drew1) | exact HB.out)) hb)
                                    clear HO_6
                                    clear HB
                                    have HO_6 := n0_
                                    have HO110 := n1_
                                    have HB := n2_
                                    clear n0_ n1_ n2_
                                    (try clear hb)
                                    (try clear hb2)
                                    (try clear hk)
                                    (try clear hi)
                                    (try clear ho0)
                                    refine hK.out _ _ ⟨((HB.out.cell (World.block_lt_of_cell? w _ hw111_0)).trans hw111_0), ((HB.out.cell (World.block_lt_of_cell? w _ hw111_1)).trans hw111_1), ((HB.out.cell (World.block_lt_of_cell? w _ hw111_2)).trans hw111_2)⟩ (fun hHeld => ?_)
                                    clear hK K
                                    refine norm_ (a' := ?_) ?_ ?_
                                    rotate_left
                                    · show Act.put _ (some 40) _ = _
                                      simp only [Act.put, List.setIfInBounds_toArray, List.set_cons_zero, List.set_cons_succ, i64_w, i32_w]
                                      rfl
                                    refine one_ (i := 8) (N := some 45) #[true, true, true, true, true, true, true, true, true, false, false] rfl rfl (one_of HT_.out (by kernel_rfl)) (by decide) (fun K hK => ?_)
                                    refine Kd.RR_lit_step k43 _ 43 ?hg (N := 45) ?hd (xs := ([(⟨(rd_T43 l0 x22_2).f0, (rd_T43 l0 x22_2).f1, (rd_T43 l0 x22_2).f2⟩ : S43)] : List (S43))) (inner := [.int .i64 ((rd_T43 l0 x22_2).f0), .int .i64 ((rd_T43 l0 x22_2).f1), .int .i64 ((rd_T43 l0 x22_2).f2)]) (ok := fun _ => True) (okp := fun _ => True) ?hr ?hp (fun _ hk => hk) trivial (Below.refl _ _) (Nat.le_refl _) (by simp) ?_; (case hd => rfl); (case hg => rfl); (case hr => first | (go_simp; done) | (go_simp; rfl)); (case hp => exact (Reps.c3 (show Kd.M k43 _ _ _ (⟨(rd_T43 l0 x22_2).f0, (rd_T43 l0 x22_2).f1, (rd_T43 l0 x22_2).f2⟩ : S43) [.int .i64 ((rd_T43 l0 x22_2).f0), .int .i64 ((rd_T43 l0 x22_2).f1), .int .i64 ((rd_T43 l0 x22_2).f2)] from (k43_mkM _ _ _ (⟨(rd_T43 l0 x22_2).f0, (rd_T43 l0 x22_2).f1, (rd_T43 l0 x22_2).f2⟩ : S43) )) (Reps.none _ _)))
                                    intro v113 w42 ho43 hb hg_ hnew_
                                    clear hg_ hnew_
                                    (first | rw [← Ny112.out] at ho43 | (simp only [Int.reduceToNat] at ho43; rw [← Ny112.out] at ho43))
                                    have n0_ := Aside0.mk (Kd.RR_below (by (with_reducible repeat (first | apply Kd.RR_alloc | apply Kd.RR_drewN | apply Kd.RR_drew)); exact HO_6.out) hb)
                                    have n1_ := Aside0.mk (Kd.RR_elder' (by (with_reducible repeat (first | apply Kd.RR_alloc | apply Kd.RR_drewN | apply Kd.RR_drew)); exact HO110.out) (Kd.RR_base ho43) hb)
                                    have n2_ := Aside0.mk (Kd.RR_lower (Kd.RR_new' ho43 (Kd.RR_lt (by (with_reducible repeat (first | apply Kd.RR_alloc | apply Kd.RR_drewN | apply Kd.RR_drew)); exact HO110.out))) (below_size (by repeat (first | (with_reducible first | exact HB.out | apply below_alloc | apply pw_below_drewN | apply below_drew1) | exact HB.out))))
                                    have n3_ := Aside0.mk (below_step (by repeat (first | (with_reducible first | exact HB.out | apply below_alloc | apply pw_below_drewN | apply below_drew1) | exact HB.out)) hb)
                                    clear HO_6
                                    clear HO110
                                    clear HB
                                    have HO_6 := n0_
                                    have HO110 := n1_
                                    have HO114 := n2_
                                    have HB := n3_
                                    clear n0_ n1_ n2_ n3_
                                    clear hb ho43
                                    refine hK.out _ _ ⟨((HB.out.cell (World.block_lt_of_cell? w _ hw111_0)).trans hw111_0), ((HB.out.cell (World.block_lt_of_cell? w _ hw111_1)).trans hw111_1), ((HB.out.cell (World.block_lt_of_cell? w _ hw111_2)).trans hw111_2)⟩ (fun hHeld => ?_)
                                    clear hK K
                                    refine norm_ (a' := ?_) ?_ ?_
                                    rotate_left
                                    · show Act.put _ (some 45) _ = _
                                      simp only [Act.put, List.setIfInBounds_toArray, List.set_cons_zero, List.set_cons_succ, i64_w, i32_w]
                                      rfl
                                    exact norm_ (by simp only [putAll, Act.put, List.setIfInBounds_toArray, List.set_cons_zero, List.set_cons_succ]) (hCont (v109, v113) _ ⟨hHeld, (by (with_reducible repeat (first | apply Kd.RR_alloc | apply Kd.RR_drewN | apply Kd.RR_drew)); exact Kd.RR_mono HO110.out (fun _ hk => hk.2)), (by (with_reducible repeat (first | apply Kd.RR_alloc | apply Kd.RR_drewN | apply Kd.RR_drew)); exact Kd.RR_mono HO114.out (fun _ hk => hk.2)), (by (with_reducible repeat (first | apply Kd.RR_alloc | apply Kd.RR_drewN | apply Kd.RR_drew)); exact HO_6.out), (by repeat (first | (with_reducible first | exact HB.out | apply below_alloc | apply pw_below_drewN | apply below_drew1) | exact HB.out))⟩)
                                  · skip
                                    refine Kd.RR_lit_step k43 _ 43 ?hg (N := 45) ?hd (xs := ([(⟨(rd_T43 l0 x22_2).f0, (rd_T43 l0 x22_2).f1, (rd_T43 l0 x22_2).f2⟩ : S43)] : List (S43))) (inner := [.int .i64 ((rd_T43 l0 x22_2).f0), .int .i64 ((rd_T43 l0 x22_2).f1), .int .i64 ((rd_T43 l0 x22_2).f2)]) (ok := fun _ => True) (okp := fun _ => True) ?hr ?hp (fun _ hk => hk) trivial (Below.refl _ _) (Nat.le_refl _) (by simp) ?_; (case hd => rfl); (case hg => rfl); (case hr => first | (go_simp; done) | (go_simp; rfl)); (case hp => exact (Reps.c3 (show Kd.M k43 _ _ _ (⟨(rd_T43 l0 x22_2).f0, (rd_T43 l0 x22_2).f1, (rd_T43 l0 x22_2).f2⟩ : S43) [.int .i64 ((rd_T43 l0 x22_2).f0), .int .i64 ((rd_T43 l0 x22_2).f1), .int .i64 ((rd_T43 l0 x22_2).f2)] from (k43_mkM _ _ _ (⟨(rd_T43 l0 x22_2).f0, (rd_T43 l0 x22_2).f1, (rd_T43 l0 x22_2).f2⟩ : S43) )) (Reps.none _ _)))
                                    intro v113 w41 ho42 hb hg_ hnew_
                                    clear hg_ hnew_
                                    (first | rw [← Ny112.out] at ho42 | (simp only [Int.reduceToNat] at ho42; rw [← Ny112.out] at ho42))
                                    have n0_ := Aside0.mk (Kd.RR_below (by (with_reducible repeat (first | apply Kd.RR_alloc | apply Kd.RR_drewN | apply Kd.RR_drew)); exact HO_6.out) hb)
                                    have n1_ := Aside0.mk (Kd.RR_lower ho42 (below_size (by repeat (first | (with_reducible first | exact HB.out | apply below_alloc | apply pw_below_drewN | apply below_drew1) | exact HB.out))))
                                    have n2_ := Aside0.mk (below_step (by repeat (first | (with_reducible first | exact HB.out | apply below_alloc | apply pw_below_drewN | apply below_drew1) | exact HB.out)) hb)
                                    clear HO_6
                                    clear HB
                                    have HO_6 := n0_
                                    have HO114 := n1_
                                    have HB := n2_
                                    clear n0_ n1_ n2_
                                    clear hb ho42
                                    refine hK.out _ _ ⟨((HB.out.cell (World.block_lt_of_cell? w _ hw111_0)).trans hw111_0), ((HB.out.cell (World.block_lt_of_cell? w _ hw111_1)).trans hw111_1), ((HB.out.cell (World.block_lt_of_cell? w _ hw111_2)).trans hw111_2)⟩ (fun hHeld => ?_)
                                    clear hK K
                                    refine norm_ (a' := ?_) ?_ ?_
                                    rotate_left
                                    · show Act.put _ (some 45) _ = _
                                      simp only [Act.put, List.setIfInBounds_toArray, List.set_cons_zero, List.set_cons_succ, i64_w, i32_w]
                                      rfl
                                    refine one_ (i := 3) (N := some 40) #[true, true, true, true, true, true, true, true, true, false, false] rfl rfl (one_of HT_.out (by kernel_rfl)) (by decide) (fun K hK => ?_)
                                    refine goes_ Try.func68 (by kernel_rfl) rfl #[.slice (some ad111) l0.length c0, .slice Ao39 x6_3.length co39, .int .i64 x8_3] (by rfl) rfl rfl (by (try simp only [List.map_toArray, List.map_cons, List.map_nil]); first | done | rfl | (simp only [List.length_drop, List.length_take]; rfl)) ?_
                                    with_reducible refine (impl_onCore.calls _ _ l0 _ _ x6_3 x8_3 t108 _ ?side1 ?side2 ?side3 ?side4 A19.out).mono ?_
                                    (case side1 => repeat (first | exact (Kd.C_below HR0.out HB.out) | (with_reducible refine Kd.C_alloc ?_ _) | (with_reducible refine Kd.C_drewN ?_ _) | (with_reducible refine Kd.C_drew ?_)))
                                    (case side2 => exact HC0.out)
                                    (case side3 => repeat (first | exact (Kd.RR_reads' HO_6.out).2.2 | (with_reducible refine Kd.C_alloc ?_ _) | (with_reducible refine Kd.C_drewN ?_ _) | (with_reducible refine Kd.C_drew ?_)))
                                    (case side4 => exact (Kd.RR_reads' HO_6.out).2.1)
                                    rintro e w43 ⟨v109, rfl, ho0, hb⟩
                                    refine ⟨_, rfl, ?_⟩
                                    have n0_ := Aside0.mk (Kd.RR_below (by (with_reducible repeat (first | apply Kd.RR_alloc | apply Kd.RR_drewN | apply Kd.RR_drew)); exact HO_6.out) hb)
                                    have n1_ := Aside0.mk (Kd.RR_elder' (by (with_reducible repeat (first | apply Kd.RR_alloc | apply Kd.RR_drewN | apply Kd.RR_drew)); exact HO114.out) (Kd.RR_base ho0) hb)
                                    have n2_ := Aside0.mk (Kd.RR_lower (Kd.RR_new' ho0 (Kd.RR_lt (by (with_reducible repeat (first | apply Kd.RR_alloc | apply Kd.RR_drewN | apply Kd.RR_drew)); exact HO114.out))) (below_size (by repeat (first | (with_reducible first | exact HB.out | apply below_alloc | apply pw_below_drewN | apply below_drew1) | exact HB.out))))
                                    have n3_ := Aside0.mk (below_step (by repeat (first | (with_reducible first | exact HB.out | apply below_alloc | apply pw_below_drewN | apply below_drew1) | exact HB.out)) hb)
                                    clear HO_6
                                    clear HO114
                                    clear HB
                                    have HO_6 := n0_
                                    have HO114 := n1_
                                    have HO110 := n2_
                                    have HB := n3_
                                    clear n0_ n1_ n2_ n3_
                                    (try clear hb)
                                    (try clear hb2)
                                    (try clear hk)
                                    (try clear hi)
                                    (try clear ho0)
                                    refine hK.out _ _ ⟨((HB.out.cell (World.block_lt_of_cell? w _ hw111_0)).trans hw111_0), ((HB.out.cell (World.block_lt_of_cell? w _ hw111_1)).trans hw111_1), ((HB.out.cell (World.block_lt_of_cell? w _ hw111_2)).trans hw111_2)⟩ (fun hHeld => ?_)
                                    clear hK K
                                    refine norm_ (a' := ?_) ?_ ?_
                                    rotate_left
                                    · show Act.put _ (some 40) _ = _
                                      simp only [Act.put, List.setIfInBounds_toArray, List.set_cons_zero, List.set_cons_succ, i64_w, i32_w]
                                      rfl
                                    exact norm_ (by simp only [putAll, Act.put, List.setIfInBounds_toArray, List.set_cons_zero, List.set_cons_succ]) (hCont (v109, v113) _ ⟨hHeld, (by (with_reducible repeat (first | apply Kd.RR_alloc | apply Kd.RR_drewN | apply Kd.RR_drew)); exact Kd.RR_mono HO110.out (fun _ hk => hk.2)), (by (with_reducible repeat (first | apply Kd.RR_alloc | apply Kd.RR_drewN | apply Kd.RR_drew)); exact Kd.RR_mono HO114.out (fun _ hk => hk.2)), (by (with_reducible repeat (first | apply Kd.RR_alloc | apply Kd.RR_drewN | apply Kd.RR_drew)); exact HO_6.out), (by repeat (first | (with_reducible first | exact HB.out | apply below_alloc | apply pw_below_drewN | apply below_drew1) | exact HB.out))⟩)
                                rintro ⟨v109, v113⟩ w44 ⟨hS_, h0_, h1_, h2_, h3_⟩
                                have n0_ : Aside0 (Kd.RR k43 43 w44 w.heap.size (fun k_ => some k_ ≠ (v113 : Value).ownBlock) v109 t108) := ⟨h0_⟩
                                have n1_ : Aside0 (Kd.RR k43 43 w44 w.heap.size (fun k_ => some k_ ≠ (v109 : Value).ownBlock) v113 y112) := ⟨h1_⟩
                                have n2_ : Aside0 (Kd.RR (Kd.int .i64) 3 w44 w.heap.size (fun _ => True) (.slice Ao39 x6_3.length co39) x6_3) := ⟨h2_⟩
                                have n3_ : Aside0 (Below w.heap.size w w44) := ⟨h3_⟩
                                clear HO_6
                                clear HB
                                clear h0_ h1_ h2_ h3_
                                have HO110 := n0_
                                have HO114 := n1_
                                have HO_6 := n2_
                                have HB := n3_
                                clear n0_ n1_ n2_ n3_
                                have hHeld : w44.cell? (ad111.add ((x22_2).toNat * 3)) = some (.int .i64 ((rd_T43 l0 x22_2).f0)) ∧ w44.cell? ⟨(ad111.add ((x22_2).toNat * 3)).block, (ad111.add ((x22_2).toNat * 3)).off + 1, none⟩ = some (.int .i64 ((rd_T43 l0 x22_2).f1)) ∧ w44.cell? ⟨(ad111.add ((x22_2).toNat * 3)).block, (ad111.add ((x22_2).toNat * 3)).off + 2, none⟩ = some (.int .i64 ((rd_T43 l0 x22_2).f2)) := hS_
                                obtain ⟨Ao46, co46, eo46⟩ := Kd.RR_slice HO114.out
                                (first | subst eo46 | (injection eo46 with f1_ f2_ f3_; have f4_ := f1_.symm; have f5_ := f3_.symm; clear f1_ f2_ f3_; subst f4_; subst f5_))
                                refine norm_ (a' := ?_) ?_ ?_
                                rotate_left
                                · simp only [putAll, Act.put, List.setIfInBounds_toArray, List.set_cons_zero, List.set_cons_succ]
                                  rfl
                                refine one_ (i := 9) (N := some 46) #[true, true, true, true, true, true, true, true, true, true, false] rfl rfl (one_of HT_.out (by kernel_rfl)) (by decide) (fun K hK => ?_)
                                refine Kd.RR_append_rows_step k43 (w0 := w) w.heap.size (by rfl) (.tmp 40) (.tmp 45) 41 43 (.agg #[(.int .i64 0), (.int .i64 0), (.int .i64 0)]) 24 rfl Try.underlying41 info43 rfl (by decide) (by omega) v109 t108 y112 _ _ _ (fun k_ => some k_ ≠ (.slice Ao46 y112.length co46 : Value).ownBlock) (fun _ => False) rfl rfl ?aO ?aR (fun _ _ h => h) (fun _ h => h.elim) ?aF ?aB ?aS ?aL ?_
                                (case aR => repeat (first | exact (Kd.RR_reads' HO114.out).2.2 | (with_reducible refine Kd.C_alloc ?_ _) | (with_reducible refine Kd.C_drewN ?_ _) | (with_reducible refine Kd.C_drew ?_)))
                                (case aB => exact (by repeat (first | (with_reducible first | exact HB.out | apply below_alloc | apply pw_below_drewN | apply below_drew1) | exact HB.out)))
                                (case aF => exact (fun k_ hk => Kd.fresh' (Kd.RR_lt (by (with_reducible repeat (first | apply Kd.RR_alloc | apply Kd.RR_drewN | apply Kd.RR_drew)); exact HO114.out)) k_ hk))
                                (case aO => exact (by (with_reducible repeat (first | apply Kd.RR_alloc | apply Kd.RR_drewN | apply Kd.RR_drew)); exact HO110.out))
                                (case aS => exact (below_size (by repeat (first | (with_reducible first | exact HB.out | apply below_alloc | apply pw_below_drewN | apply below_drew1) | exact HB.out))))
                                (case aL => have := LMc22.out; omega)
                                intro v116 w45 ho hb hg hat
                                rw [← Ny115.out] at ho
                                have n0_ := Aside0.mk (Kd.RR_over' (by (with_reducible repeat (first | apply Kd.RR_alloc | apply Kd.RR_drewN | apply Kd.RR_drew)); exact HO_6.out) (Kd.RR_typed (by (with_reducible repeat (first | apply Kd.RR_alloc | apply Kd.RR_drewN | apply Kd.RR_drew)); exact HO110.out)) (by decide) hg)
                                have n1_ := Aside0.mk (Kd.RR_after (ok := (fun _ => True)) (by (with_reducible repeat (first | apply Kd.RR_alloc | apply Kd.RR_drewN | apply Kd.RR_drew)); exact Kd.RR_mono HO114.out (fun _ hk => ⟨trivial, hk⟩)) hg hat)
                                have n2_ := Aside0.mk (hb)
                                have n3_ := Aside0.mk (ho)
                                clear HO_6
                                clear HO114
                                clear HB
                                clear HO110
                                have HO_6 := n0_
                                have HO114 := n1_
                                have HB := n2_
                                have HO117 := n3_
                                clear n0_ n1_ n2_ n3_
                                clear ho hb hg hat
                                obtain ⟨Ao47, co47, eo47⟩ := Kd.RR_slice HO117.out
                                (first | subst eo47 | (injection eo47 with f1_ f2_ f3_; have f4_ := f1_.symm; have f5_ := f3_.symm; clear f1_ f2_ f3_; subst f4_; subst f5_))
                                refine hK.out _ _ ⟨((HB.out.cell (World.block_lt_of_cell? w _ hw111_0)).trans hw111_0), ((HB.out.cell (World.block_lt_of_cell? w _ hw111_1)).trans hw111_1), ((HB.out.cell (World.block_lt_of_cell? w _ hw111_2)).trans hw111_2)⟩ (fun hHeld => ?_)
                                clear hK K
                                refine norm_ (a' := ?_) ?_ ?_
                                rotate_left
                                · show Act.put _ (some 46) _ = _
                                  simp only [Act.put, List.setIfInBounds_toArray, List.set_cons_zero, List.set_cons_succ, i64_w, i32_w]
                                  rfl
                                refine one_ (i := 10) (N := some 47) #[true, true, true, true, true, true, true, true, true, true, true] rfl rfl (one_of HT_.out (by kernel_rfl)) (by decide) (fun K hK => ?_)
                                refine goes_ Try.func67 (by kernel_rfl) rfl #[.slice Ao47 y115.length co47] (by rfl) rfl rfl (by (try simp only [List.map_toArray, List.map_cons, List.map_nil]); first | done | rfl | (simp only [List.length_drop, List.length_take]; rfl)) ?_
                                with_reducible refine (impl_feasible.calls kj12 _ _ y115 false _ ?side1 ?side2 A23.out).mono ?_
                                (case side1 => repeat (first | exact (Kd.RR_reads' HO117.out).2.2 | (with_reducible refine Kd.C_alloc ?_ _) | (with_reducible refine Kd.C_drewN ?_ _) | (with_reducible refine Kd.C_drew ?_)))
                                (case side2 => exact (Kd.RR_reads' HO117.out).2.1)
                                rintro e w48 ⟨rfl, hb⟩
                                refine ⟨_, rfl, ?_⟩
                                have n0_ := Aside0.mk (Kd.RR_below (by (with_reducible repeat (first | apply Kd.RR_alloc | apply Kd.RR_drewN | apply Kd.RR_drew)); exact HO_6.out) hb)
                                have n1_ := Aside0.mk (Kd.RR_below (by (with_reducible repeat (first | apply Kd.RR_alloc | apply Kd.RR_drewN | apply Kd.RR_drew)); exact HO114.out) hb)
                                have n2_ := Aside0.mk (Kd.RR_below (by (with_reducible repeat (first | apply Kd.RR_alloc | apply Kd.RR_drewN | apply Kd.RR_drew)); exact HO117.out) hb)
                                have n3_ := Aside0.mk (below_step (by repeat (first | (with_reducible first | exact HB.out | apply below_alloc | apply pw_below_drewN | apply below_drew1) | exact HB.out)) hb)
                                clear HO_6
                                clear HO114
                                clear HO117
                                clear HB
                                have HO_6 := n0_
                                have HO114 := n1_
                                have HO117 := n2_
                                have HB := n3_
                                clear n0_ n1_ n2_ n3_
                                (try clear hb)
                                (try clear hb2)
                                (try clear hk)
                                (try clear hi)
                                refine hK.out _ _ ⟨((HB.out.cell (World.block_lt_of_cell? w _ hw111_0)).trans hw111_0), ((HB.out.cell (World.block_lt_of_cell? w _ hw111_1)).trans hw111_1), ((HB.out.cell (World.block_lt_of_cell? w _ hw111_2)).trans hw111_2)⟩ (fun hHeld => ?_)
                                clear hK K
                                refine norm_ (a' := ?_) ?_ ?_
                                rotate_left
                                · show Act.put _ (some 47) _ = _
                                  simp only [Act.put, List.setIfInBounds_toArray, List.set_cons_zero, List.set_cons_succ, i64_w, i32_w]
                                  rfl
                                refine done_ (done_of HT_.out (by kernel_rfl)) ?_
                                try go_wp2
                                go_roundg kj12
                                case measure => have := HJ2.out; have := HK2.out; have := HK3.out; have := HJ12.out; omega
                                case rel => exact ⟨(x6_3), (wrap64 (x8_3 + 1)), (by first | rfl | (simp; done) | (simp [*]; done) | (simp only [i64_w, i32_w]; done) | (simp [*, i64_w, i32_w]; done)), H', ⟨by have := HJ2.out; have := HK2.out; have := HK3.out; have := HJ12.out; omega⟩, ⟨by (with_reducible repeat (first | apply Kd.RR_alloc | apply Kd.RR_drewN | apply Kd.RR_drew)); exact HO_6.out⟩, ⟨by repeat (first | (with_reducible first | exact HB.out | apply below_alloc | apply pw_below_drewN | apply below_drew1) | exact HB.out)⟩⟩
                            · rw [if_neg c22] at H
                              exact absurd H (by simp)
                          · rw [if_neg c21] at H
                            exact absurd H (by simp)
                        · rw [if_neg c20] at H
                          exact absurd H (by simp)
                      · replace c18 := Bool.eq_false_iff.mpr c18
                        subst c18
                        have H1 : (if 0 ≤ x22_2 then (if x22_2 < (x6_3.length : Int) then (if (rd x6_3 x22_2) < 0 then (some (([] : List Int), false)) else (impl_FirstFit.l0 kj12 l0 a1 x6_3 (l0.length : Int) (wrap64 (x22_2 + 1)))) else (none)) else (none)) = some (r1, r2) := by rw [if_neg (show ¬ (false = true) by decide)] at H; exact H
                        clear H
                        have H := H1
                        clear H1
                        by_cases c49 : 0 ≤ x22_2
                        · rw [if_pos c49] at H
                          have c49b0 : decide (0 ≤ x22_2) = true := decide_eq_true c49
                          clear c49
                          by_cases c50 : x22_2 < (x6_3.length : Int)
                          · rw [if_pos c50] at H
                            have c50b0 : decide (x22_2 < (x6_3.length : Int)) = true := decide_eq_true c50
                            clear c50
                            by_cases c51 : (rd x6_3 x22_2) < 0
                            · rw [if_pos c51] at H
                              have c51b0 : decide ((rd x6_3 x22_2) < 0) = true := decide_eq_true c51
                              clear c51
                              simp only [Option.some.injEq, Prod.mk.injEq] at H
                              obtain ⟨rfl, rfl⟩ := H
                              obtain ⟨Ao52, co52, eo52⟩ := Kd.RR_slice HO_6.out
                              subst eo52
                              have p107 : 0 ≤ (x22_2 : Int) := of_decide_eq_true (by first | (with_reducible assumption) | assumption)
                              have q107 : x22_2 < (x6_3.length : Int) := of_decide_eq_true (by first | (with_reducible assumption) | assumption)
                              obtain ⟨ad107, e107, hx107_0⟩ := Kd.at_int (Kd.RR_reads' HO_6.out).2.2 x22_2 p107 q107
                              cases e107
                              replace p107 := eq_true p107
                              replace q107 := eq_true q107
                              go_wp2
                              go_ret2
                              exact ⟨_, by first | rfl | (simp [errW_none, errW_some] <;> rfl) | (simp [*, errW_none, errW_some] <;> rfl), by first | exact Kd.RR_nil _ _ _ _ _ | exact Kd.N_nil _ _ _ _ _ | exact Kd.V_nil _ _ _ _ _ | exact Kd.Q_nil _ _ _ _ _ | exact Kd.S_nil _ _ _ _ _, by repeat (first | (with_reducible first | exact HB.out | apply below_alloc | apply pw_below_drewN | apply below_drew1) | exact HB.out)⟩
                            · rw [if_neg c51] at H
                              have c51b0 : decide ((rd x6_3 x22_2) < 0) = false := decide_eq_false c51
                              clear c51
                              have H' := Aside0.mk H
                              clear H
                              obtain ⟨Ao53, co53, eo53⟩ := Kd.RR_slice HO_6.out
                              subst eo53
                              have p107 : 0 ≤ (x22_2 : Int) := of_decide_eq_true (by first | (with_reducible assumption) | assumption)
                              have q107 : x22_2 < (x6_3.length : Int) := of_decide_eq_true (by first | (with_reducible assumption) | assumption)
                              obtain ⟨ad107, e107, hx107_0⟩ := Kd.at_int (Kd.RR_reads' HO_6.out).2.2 x22_2 p107 q107
                              cases e107
                              replace p107 := eq_true p107
                              replace q107 := eq_true q107
                              go_wp2
                              go_roundg kj12
                              case measure => have := HJ2.out; have := HK2.out; have := HK3.out; have := HJ12.out; omega
                              case rel => exact ⟨(x6_3), (wrap64 (x22_2 + 1)), (by first | rfl | (simp; done) | (simp [*]; done) | (simp only [i64_w, i32_w]; done) | (simp [*, i64_w, i32_w]; done)), H', ⟨by have := HJ2.out; have := HK2.out; have := HK3.out; have := HJ12.out; omega⟩, ⟨by (with_reducible repeat (first | apply Kd.RR_alloc | apply Kd.RR_drewN | apply Kd.RR_drew)); exact HO_6.out⟩, ⟨by repeat (first | (with_reducible first | exact HB.out | apply below_alloc | apply pw_below_drewN | apply below_drew1) | exact HB.out)⟩⟩
                          · rw [if_neg c50] at H
                            exact absurd H (by simp)
                        · rw [if_neg c49] at H
                          exact absurd H (by simp)
            · rw [if_neg c12] at H
              have c12b0 : decide (x22_2 < (l0.length : Int)) = false := decide_eq_false c12
              clear c12
              simp only [Option.some.injEq, Prod.mk.injEq] at H
              obtain ⟨rfl, rfl⟩ := H
              go_wp2
              go_ret2
              exact ⟨_, by first | rfl | (simp [errW_none, errW_some] <;> rfl) | (simp [*, errW_none, errW_some] <;> rfl), by (with_reducible repeat (first | apply Kd.RR_alloc | apply Kd.RR_drewN | apply Kd.RR_drew)); exact HO_6.out, by repeat (first | (with_reducible first | exact HB.out | apply below_alloc | apply pw_below_drewN | apply below_drew1) | exact HB.out)⟩

end Go.Proofs.Ytfciajbahgjflaa.Print

namespace Go.Proofs.Ytfciajbahgjflaa.Print
open Go.RowKit Go.Proofs.YtfciajbahgjflaaW.PrintWords Go.Proofs.YtfciajbahgjflaaW.PrintLast Go.Proofs.YtfciajbahgjflaaW.PrintMore
attribute [local go_sem] max2_int min2_int max_two min_two max_three min_three max_four min_four   -- for this text's walks alone
set_option linter.unusedVariables false
set_option linter.unusedSimpArgs false

/-! ### impl_onCore: function 68 (given) -/
open Go.Proofs.Ytfciajbahgjflaa.Walk
set_option maxHeartbeats 1000000 in
set_option maxRecDepth 100000 in
set_option maxHeartbeats 2000000 in
set_option maxRecDepth 100000 in
theorem impl_onCore.callsV (A0 : Option Addr) (c0 : Nat) (l0 : List (S43)) (A1 : Option Addr) (c1 : Nat) (l1 : List Int) (a2 : Int) (r : List (S43)) (w : World) (hr0 : Kd.C k43 w A0 l0.length l0) (hc0 : l0.length ≤ c0) (hr1 : Kd.C (Kd.int .i64) w A1 l1.length l1) (hc1 : l1.length ≤ c1) (h : impl_onCore.f l0 l1 a2 = some r) :
    Calls Try.prog 68 #[.slice A0 l0.length c0, .slice A1 l1.length c1, .int .i64 a2] w fun e w' => ∃ v0_ : Value, e = .returned v0_ ∧ Kd.V k43 43 w' w.heap.size (fun k_ => (w.heap.size ≤ k_)) v0_ r ∧ Below w.heap.size w w' := by
  unfold impl_onCore.f at h
  split at h
  · rename_i hl
    obtain rfl := Option.some.inj h
    have hu := Try.underlying43
    have HL := Lib.hid hl
    have HR0 := Aside0.mk hr0
    have HR1 := Aside0.mk hr1
    have HB := Aside0.mk (Below.refl w.heap.size w)
    have hmx : l1.length ≤ 9223372036854775807 := hr1.2.1
    clear hr0 hc0 hr1 hc1 h hl
    go_enter Try.func68, Try.ntmps68
    go_wp2
    go_loopw [7, 12] (fun v7 v12 w' => ∃ j : Nat, v12 = .int .i64 j ∧ Aside0 (j ≤ l1.length) ∧ Aside0 (Kd.R k43 43 w' w.heap.size (fun _ => True) v7 (onN l0 l1 a2 j)) ∧ Aside0 (Below w.heap.size w w')) (fun v7 v12 _ => l1.length - (intOf v12).toNat)
    case atStart => exact ⟨0, rfl, ⟨Nat.zero_le _⟩, ⟨Kd.R_nil _ _ _ _ _⟩, HB⟩
    case round =>
      clear HB
      obtain ⟨j, rfl, ⟨HJ⟩, HO, HB⟩ := hrel
      by_cases hlt : j < l1.length
      · have b1 : decide ((j : Int) < (l1.length : Int)) = true := decide_eq_true (by omega)
        have hlt0 : j < l0.length := by have := HL.out; omega
        obtain ⟨ad1, e1, hx0⟩ := Kd.at_int HR1.out (j : Int) (by omega) (by omega)
        cases e1
        obtain ⟨ad0, e0, hy0, hy1, hy2⟩ := at_T43 HR0.out (j : Int) (by omega) (by omega)
        cases e0
        replace hx0 := (HB.out.cell (World.block_lt_of_cell? w _ hx0)).trans hx0
        replace hy0 := (HB.out.cell (World.block_lt_of_cell? w _ hy0)).trans hy0
        replace hy1 := (HB.out.cell (World.block_lt_of_cell? w _ hy1)).trans hy1
        replace hy2 := (HB.out.cell (World.block_lt_of_cell? w _ hy2)).trans hy2
        simp only [Int.toNat_natCast] at hx0 hy0 hy1 hy2
        have hrd : rd_T43 l0 (j : Int) = l0.getD j z43 := rfl
        have hrd1 : rd l1 (j : Int) = l1.getD j 0 := rfl
        rw [hrd] at hy0 hy1 hy2
        rw [hrd1] at hx0
        have q0 : 0 ≤ (j : Int) := by omega
        have q1 : (j : Int) < (l1.length : Int) := by omega
        have q2 : (j : Int) < (l0.length : Int) := by omega
        obtain ⟨y, hy⟩ : ∃ y, y = l0.getD j z43 := ⟨_, rfl⟩
        rw [← hy] at hy0 hy1 hy2
        have HY := Lib.hid hy
        obtain ⟨x, hx⟩ : ∃ x, x = l1.getD j 0 := ⟨_, rfl⟩
        rw [← hx] at hx0
        have hst : onN l0 l1 a2 (j + 1) = if x = a2 then onN l0 l1 a2 j ++ [y] else onN l0 l1 a2 j := by rw [hx, HY.out]; rfl
        clear hrd hrd1 hy hx
        by_cases hc : x = a2
        · have e1 : (x == a2) = true := beq_iff_eq.mpr hc
          have hn : onN l0 l1 a2 (j + 1) = onN l0 l1 a2 j ++ [y] := by rw [hst, if_pos hc]
          have HN := Lib.hid hn
          have hle := onN_len l0 l1 a2 j
          have HLE := Lib.hid hle
          clear hn hc hle hst
          obtain ⟨ya, yb, yc⟩ := y
          go_wp2_with ((with_reducible refine gate_builtin (b := .append) (xs := #[.tmp 20, .tmp 25]) rfl ?_); at_builtin; refine Kd.R_append k43 (w0 := w) w.heap.size rfl (.tmp 20) (.tmp 25) 41 43 (.agg #[(.int .i64 0), (.int .i64 0), (.int .i64 0)]) 24 rfl Try.underlying41 info43 rfl (by decide) (by omega) u7 (onN l0 l1 a2 j) (⟨ya, yb, yc⟩ : S43) [.int .i64 ya, .int .i64 yb, .int .i64 yc] (fun _ => True) (fun _ => False) rfl rfl ?aP (fun _ hk => hk.elim) ?aF ?aO ?aB ?aS ?aL ?_; (case aP => exact k43_mkM _ _ _ (⟨ya, yb, yc⟩ : S43)); (case aB => exact (by repeat (first | (with_reducible first | exact HB.out | apply below_alloc | apply pw_below_drewN | apply below_drew1) | exact HB.out))); (case aF => exact (fun _ _ => trivial)); (case aO => exact (by (with_reducible repeat (first | apply Kd.R_alloc | apply Kd.R_drewN | apply Kd.R_drew)); exact HO.out)); (case aS => exact (below_size (by repeat (first | (with_reducible first | exact HB.out | apply below_alloc | apply pw_below_drewN | apply below_drew1) | exact HB.out)))); (case aL => have := HLE.out; have := HL.out; omega); intro v107 w11 ho hb hg hat; rw [← HN.out] at ho; have n0_ := Aside0.mk (hb); have n1_ := Aside0.mk (ho); clear HB; clear HO; have HB := n0_; have HO := n1_; clear n0_ n1_; clear ho hb hg hat)
          go_roundw
          case rel => exact ⟨j + 1, by go_num, ⟨by omega⟩, ⟨by (with_reducible repeat (first | apply Kd.R_alloc | apply Kd.R_drewN | apply Kd.R_drew)); exact HO.out⟩, ⟨by repeat (first | (with_reducible first | exact HB.out | apply below_alloc | apply pw_below_drewN | apply below_drew1) | exact HB.out)⟩⟩
          case measure => simp [intOf]; omega
        · have e1 : (x == a2) = false := beq_eq_false_iff_ne.mpr hc
          have hn : onN l0 l1 a2 (j + 1) = onN l0 l1 a2 j := by rw [hst, if_neg hc]
          have HN := Lib.hid hn
          clear hn hc hst
          go_wp2
          go_roundw
          case rel => exact ⟨j + 1, by go_num, ⟨by omega⟩, ⟨by rw [HN.out]; (with_reducible repeat (first | apply Kd.R_alloc | apply Kd.R_drewN | apply Kd.R_drew)); exact HO.out⟩, ⟨by repeat (first | (with_reducible first | exact HB.out | apply below_alloc | apply pw_below_drewN | apply below_drew1) | exact HB.out)⟩⟩
          case measure => simp [intOf]; omega
      · have b1 : decide ((j : Int) < (l1.length : Int)) = false := decide_eq_false (by omega)
        obtain ⟨A, cap, rfl⟩ := Kd.R_slice HO.out
        have hcap := (Kd.R_reads' HO.out).2.1
        have hcm := r_capmax HO.out
        have hje : j = l1.length := by omega
        have HJE := Lib.hid hje
        clear hje
        go_wp2_with (go_at_call 96; refine (Clip_Task _ _ _ _ hcap hcm).mono ?_; rintro e w3 ⟨rfl, hd⟩; obtain ⟨m, rfl⟩ := hd.out; clear hd)
        go_ret
        refine ⟨_, rfl, ?_, ?_⟩
        · have ho := Kd.R_drewN HO.out m
          rw [HJE.out] at ho ⊢
          exact v_of_r (fun W W' x c h => h) ho (by simp) (by simp)
        · exact pw_below_drewN HB.out m
  · cases h

end Go.Proofs.Ytfciajbahgjflaa.Print
