/- Functions of the translation as plain Lean functions, and their contracts. No condition. -/
import Derived.Test.YtonifhkplniblaaYFnExactRunResourcesPB
import Derived.BigQuiet
import Derived.Deep.DeepMust
import Derived.Deep.QuietTactic
import Derived.Lib.Hide
import Derived.Lib.LazyBuf
import Derived.Test.YtonifhkplniblaaYFnExactRunResourcesWalk
import Derived.Test.YtonifhkplniblaaYFnExactRunResourcesP0
import Derived.Test.YtonifhkplniblaaYFnExactRunResourcesP1
namespace Go.Proofs.Ytonifhkplniblaa.Print
open Go.RowKit Go.Proofs.YtonifhkplniblaaW.PrintWords Go.Proofs.YtonifhkplniblaaW.PrintLast Go.Proofs.YtonifhkplniblaaW.PrintMore
attribute [local go_sem] max2_int min2_int max_two min_two max_three min_three max_four min_four   -- for this text's walks alone
set_option linter.unusedVariables false
set_option linter.unusedSimpArgs false

/-! ### laws_toSection: function 136 -/
def laws_toSection.f (a0_0 : Int) (a0_1 : Int) (a0_2 : Int) : Option (Int × Int × Int) := some (a0_0, a0_1, a0_2)
set_option maxHeartbeats 8000000 in
set_option maxRecDepth 100000 in
theorem laws_toSection.calls (a0_0 : Int) (a0_1 : Int) (a0_2 : Int) (r1 : Int) (r2 : Int) (r3 : Int) (w : World) (h : laws_toSection.f a0_0 a0_1 a0_2 = some (r1, r2, r3)) :
    Calls Try.prog 136 #[.agg #[.int .i64 a0_0, .int .i64 a0_1, .int .i64 a0_2]] w fun e w' => e = .returned (.agg #[.int .i64 r1, .int .i64 r2, .int .i64 r3]) ∧ Below w.heap.size w w' := by
  have hu160 := Try.underlying160
  have hu64 := Try.underlying64
  have HB := Aside0.mk (Below.refl w.heap.size w)
  have H : (some (a0_0, a0_1, a0_2)) = some (r1, r2, r3) := h
  clear h
  simp only [Option.some.injEq, Prod.mk.injEq] at H
  obtain ⟨rfl, rfl, rfl⟩ := H
  go_enter Try.func136, Try.ntmps136
  go_wp2_with (first | ((with_reducible refine gate_dst (N := 1) rfl ?_); refine box_event ?hg (N := 1) ?hd (cs := #[.int .i64 a0_0, .int .i64 a0_1, .int .i64 a0_2]) (t := 160) ?hr ?_; (case hd => rfl); (case hg => rfl); (case hr => first | (go_simp; done) | (go_simp; rfl)); intro gb101 hg w2 hbox hb; have n0_ := Aside0.mk (below_step (by repeat (first | (with_reducible first | exact HB.out | apply below_alloc | apply pw_below_drewN | apply below_drew1) | exact HB.out)) hb); have n1_ := Aside0.mk (hbox); have n2_ := Aside0.mk ((by rw [hg]; exact (below_size (by repeat (first | (with_reducible first | exact HB.out | apply below_alloc | apply pw_below_drewN | apply below_drew1) | exact HB.out))) : w.heap.size ≤ gb101)); have n3_ := Aside0.mk ((by rw [hg]; exact (below_size (by repeat (first | (with_reducible first | exact HB.out | apply below_alloc | apply pw_below_drewN | apply below_drew1) | exact HB.out))) : w.heap.size ≤ gb101)); clear HB; have HB := n0_; have BK101 := n1_; have GW101 := n2_; have GE101 := n3_; clear n0_ n1_ n2_ n3_; clear hb hbox hg) | ((with_reducible refine gate_dst (N := 2) rfl ?_); refine box_event ?hg (N := 2) ?hd (cs := #[.int .i64 0, .int .i64 0, .int .i64 0]) (t := 64) ?hr ?_; (case hd => rfl); (case hg => rfl); (case hr => first | (go_simp; done) | (go_simp; rfl)); intro gb102 hg w3 hbox hb; have n0_ := Aside0.mk (blk_below (g := gb101) (o := .cells #[.int .i64 a0_0, .int .i64 a0_1, .int .i64 a0_2] 160 (0, 0)) (by (with_reducible repeat (first | refine blk_drewN ?_ _ | refine blk_drew ?_ | refine blk_alloc ?_ _)); exact BK101.out) hb); have n1_ := Aside0.mk (below_step (by repeat (first | (with_reducible first | exact HB.out | apply below_alloc | apply pw_below_drewN | apply below_drew1 | refine below_set ?_ GE101.out) | exact HB.out)) hb); have n2_ := Aside0.mk (hbox); have n3_ := Aside0.mk ((by rw [hg]; exact (below_size (by repeat (first | (with_reducible first | exact HB.out | apply below_alloc | apply pw_below_drewN | apply below_drew1 | refine below_set ?_ GE101.out) | exact HB.out))) : w.heap.size ≤ gb102)); have n4_ := Aside0.mk ((by rw [hg]; exact (below_size (by repeat (first | (with_reducible first | exact HB.out | apply below_alloc | apply pw_below_drewN | apply below_drew1 | refine below_set ?_ GE101.out) | exact HB.out))) : w.heap.size ≤ gb102)); have n5_ := Aside0.mk ((by rw [hg]; exact Nat.ne_of_lt (blk_lt (g := gb101) (o := .cells #[.int .i64 a0_0, .int .i64 a0_1, .int .i64 a0_2] 160 (0, 0)) (by (with_reducible repeat (first | refine blk_drewN ?_ _ | refine blk_drew ?_ | refine blk_alloc ?_ _)); exact BK101.out)) : gb101 ≠ gb102)); have n6_ := Aside0.mk ((by rw [hg]; exact Nat.ne_of_gt (blk_lt (g := gb101) (o := .cells #[.int .i64 a0_0, .int .i64 a0_1, .int .i64 a0_2] 160 (0, 0)) (by (with_reducible repeat (first | refine blk_drewN ?_ _ | refine blk_drew ?_ | refine blk_alloc ?_ _)); exact BK101.out)) : gb102 ≠ gb101)); clear BK101; clear HB; have BK101 := n0_; have HB := n1_; have BK102 := n2_; have GW102 := n3_; have GE102 := n4_; have NB101_102 := n5_; have NB102_101 := n6_; clear n0_ n1_ n2_ n3_ n4_ n5_ n6_; clear hb hbox hg) | ((with_reducible refine gate_dst (N := 3) rfl ?_); refine box_event ?hg (N := 3) ?hd (cs := #[.int .i64 0, .int .i64 0, .int .i64 0]) (t := 64) ?hr ?_; (case hd => rfl); (case hg => rfl); (case hr => first | (go_simp; done) | (go_simp; rfl)); intro gb103 hg w4 hbox hb; have n0_ := Aside0.mk (blk_below (g := gb101) (o := .cells #[.int .i64 a0_0, .int .i64 a0_1, .int .i64 a0_2] 160 (0, 0)) (by (with_reducible repeat (first | refine blk_drewN ?_ _ | refine blk_drew ?_ | refine blk_alloc ?_ _)); exact BK101.out) hb); have n1_ := Aside0.mk (blk_below (g := gb102) (o := .cells #[.int .i64 0, .int .i64 0, .int .i64 0] 64 (0, 0)) (by (with_reducible repeat (first | refine blk_drewN ?_ _ | refine blk_drew ?_ | refine blk_alloc ?_ _)); exact BK102.out) hb); have n2_ := Aside0.mk (below_step (by repeat (first | (with_reducible first | exact HB.out | apply below_alloc | apply pw_below_drewN | apply below_drew1 | refine below_set ?_ GE101.out | refine below_set ?_ GE102.out) | exact HB.out)) hb); have n3_ := Aside0.mk (hbox); have n4_ := Aside0.mk ((by rw [hg]; exact (below_size (by repeat (first | (with_reducible first | exact HB.out | apply below_alloc | apply pw_below_drewN | apply below_drew1 | refine below_set ?_ GE101.out | refine below_set ?_ GE102.out) | exact HB.out))) : w.heap.size ≤ gb103)); have n5_ := Aside0.mk ((by rw [hg]; exact (below_size (by repeat (first | (with_reducible first | exact HB.out | apply below_alloc | apply pw_below_drewN | apply below_drew1 | refine below_set ?_ GE101.out | refine below_set ?_ GE102.out) | exact HB.out))) : w.heap.size ≤ gb103)); have n6_ := Aside0.mk ((by rw [hg]; exact Nat.ne_of_lt (blk_lt (g := gb101) (o := .cells #[.int .i64 a0_0, .int .i64 a0_1, .int .i64 a0_2] 160 (0, 0)) (by (with_reducible repeat (first | refine blk_drewN ?_ _ | refine blk_drew ?_ | refine blk_alloc ?_ _)); exact BK101.out)) : gb101 ≠ gb103)); have n7_ := Aside0.mk ((by rw [hg]; exact Nat.ne_of_gt (blk_lt (g := gb101) (o := .cells #[.int .i64 a0_0, .int .i64 a0_1, .int .i64 a0_2] 160 (0, 0)) (by (with_reducible repeat (first | refine blk_drewN ?_ _ | refine blk_drew ?_ | refine blk_alloc ?_ _)); exact BK101.out)) : gb103 ≠ gb101)); have n8_ := Aside0.mk ((by rw [hg]; exact Nat.ne_of_lt (blk_lt (g := gb102) (o := .cells #[.int .i64 0, .int .i64 0, .int .i64 0] 64 (0, 0)) (by (with_reducible repeat (first | refine blk_drewN ?_ _ | refine blk_drew ?_ | refine blk_alloc ?_ _)); exact BK102.out)) : gb102 ≠ gb103)); have n9_ := Aside0.mk ((by rw [hg]; exact Nat.ne_of_gt (blk_lt (g := gb102) (o := .cells #[.int .i64 0, .int .i64 0, .int .i64 0] 64 (0, 0)) (by (with_reducible repeat (first | refine blk_drewN ?_ _ | refine blk_drew ?_ | refine blk_alloc ?_ _)); exact BK102.out)) : gb103 ≠ gb102)); clear BK101; clear BK102; clear HB; have BK101 := n0_; have BK102 := n1_; have HB := n2_; have BK103 := n3_; have GW103 := n4_; have GE103 := n5_; have NB101_103 := n6_; have NB103_101 := n7_; have NB102_103 := n8_; have NB103_102 := n9_; clear n0_ n1_ n2_ n3_ n4_ n5_ n6_ n7_ n8_ n9_; clear hb hbox hg; have hnb5 := NB101_102.out; have hnc5 := NB102_101.out; have hnb6 := NB101_103.out; have hnc6 := NB103_101.out; have hcz7_0 : w4.cell? ⟨gb101, 0, none⟩ = some (.int .i64 a0_0) := (blk_cell BK101.out 0).trans rfl; have hcz7_1 : w4.cell? ⟨gb101, 1, none⟩ = some (.int .i64 a0_1) := (blk_cell BK101.out 1).trans rfl; have hcz7_2 : w4.cell? ⟨gb101, 2, none⟩ = some (.int .i64 a0_2) := (blk_cell BK101.out 2).trans rfl; have hfz7_0 := blk_frozen BK101.out 0; have hfz7_1 := blk_frozen BK101.out 1; have hfz7_2 := blk_frozen BK101.out 2; have hnb8 := NB103_102.out; have hnc8 := NB102_103.out; have hcz9_0 : w4.cell? ⟨gb103, 0, none⟩ = some (.int .i64 0) := (blk_cell BK103.out 0).trans rfl; have hcz9_1 : w4.cell? ⟨gb103, 1, none⟩ = some (.int .i64 0) := (blk_cell BK103.out 1).trans rfl; have hcz9_2 : w4.cell? ⟨gb103, 2, none⟩ = some (.int .i64 0) := (blk_cell BK103.out 2).trans rfl; have hfz9_0 := blk_frozen BK103.out 0; have hfz9_1 := blk_frozen BK103.out 1; have hfz9_2 := blk_frozen BK103.out 2; have hcz10_0 : w4.cell? ⟨gb102, 0, none⟩ = some (.int .i64 0) := (blk_cell BK102.out 0).trans rfl; have hcz10_1 : w4.cell? ⟨gb102, 1, none⟩ = some (.int .i64 0) := (blk_cell BK102.out 1).trans rfl; have hcz10_2 : w4.cell? ⟨gb102, 2, none⟩ = some (.int .i64 0) := (blk_cell BK102.out 2).trans rfl; have hfz10_0 := blk_frozen BK102.out 0; have hfz10_1 := blk_frozen BK102.out 1; have hfz10_2 := blk_frozen BK102.out 2))
  refine bodyPost_ret (results_cell_row rfl _ _ gb102 64 #[.int .i64 a0_0, .int .i64 a0_1, .int .i64 a0_2] (0, 0) _ rfl (by (with_reducible repeat (first | refine blk_drewN ?_ _ | refine blk_drew ?_ | refine blk_alloc ?_ _)); refine blk_put (cs := #[.int .i64 a0_0, .int .i64 a0_1, .int .i64 0]) ?_ 2 _ rfl; (with_reducible repeat (first | refine blk_drewN ?_ _ | refine blk_drew ?_ | refine blk_alloc ?_ _)); refine blk_put (cs := #[.int .i64 a0_0, .int .i64 0, .int .i64 0]) ?_ 1 _ rfl; (with_reducible repeat (first | refine blk_drewN ?_ _ | refine blk_drew ?_ | refine blk_alloc ?_ _)); refine blk_put (cs := #[.int .i64 0, .int .i64 0, .int .i64 0]) ?_ 0 _ rfl; (with_reducible repeat (first | refine blk_drewN ?_ _ | refine blk_drew ?_ | refine blk_alloc ?_ _)); refine blk_far ?_ NB102_103.out _; (with_reducible repeat (first | refine blk_drewN ?_ _ | refine blk_drew ?_ | refine blk_alloc ?_ _)); refine blk_far ?_ NB102_103.out _; (with_reducible repeat (first | refine blk_drewN ?_ _ | refine blk_drew ?_ | refine blk_alloc ?_ _)); refine blk_far ?_ NB102_103.out _; (with_reducible repeat (first | refine blk_drewN ?_ _ | refine blk_drew ?_ | refine blk_alloc ?_ _)); exact BK102.out) Try.underlying64 rfl (by kernel_rfl)) rfl ?_
  exact ⟨by first | rfl | (simp [errW_none, errW_some] <;> rfl) | (simp [*, errW_none, errW_some] <;> rfl), by repeat (first | (with_reducible first | exact HB.out | apply below_alloc | apply pw_below_drewN | apply below_drew1 | refine below_set ?_ GE101.out | refine below_set ?_ GE102.out | refine below_set ?_ GE103.out) | exact HB.out)⟩



/-! ### laws_toSectionS: function 60 -/
def laws_toSectionS.l0 : Nat → List (S160) → List (S64) → Int → Option ((List (S64)))
  | 0, _, _, _ => none
  | k + 1, x0, x3, x4 => if x4 < (x0.length : Int) then (if 0 ≤ x4 then ((laws_toSection.f ((rd_T160 x0 x4).f0) ((rd_T160 x0 x4).f1) ((rd_T160 x0 x4).f2)).bind fun bt105 => (if x4 < (x3.length : Int) then (laws_toSectionS.l0 k x0 (x3.set (x4 : Int).toNat (⟨bt105.1, bt105.2.1, bt105.2.2⟩ : S64)) (wrap64 (x4 + 1))) else (none))) else (none)) else (some x3)
def laws_toSectionS.f (k : Nat) (l0 : List (S160)) : Option ((List (S64))) := if 0 ≤ (l0.length : Int) then (if ((l0.length : Int) : Int).toNat ≤ 11728124029610 then (laws_toSectionS.l0 k l0 (List.replicate ((l0.length : Int) : Int).toNat z64) 0) else (none)) else (none)
theorem laws_toSectionS.mono_l : ∀ k, (∀ y0 y1 y2, LeO (laws_toSectionS.l0 k y0 y1 y2) (laws_toSectionS.l0 (k + 1) y0 y1 y2))
  | 0 => fun _ _ _ r h => by simp [laws_toSectionS.l0] at h
  | k + 1 => by
    have ih0 := laws_toSectionS.mono_l k
    · intro y0 y1 y2
      unfold laws_toSectionS.l0
      repeat' first
      | (with_reducible exact ih0 _ _ _)
      | (with_reducible exact LeO.refl _)
      | (with_reducible exact LeO.none _)
      | (with_reducible refine LeO.ite ?_ ?_)
      | (with_reducible refine LeO.bind ?_ (fun _ => ?_))
      | exact ih0 _ _ _
      | exact LeO.none _
      | refine LeO.ite ?_ ?_
      | refine LeO.bind ?_ (fun _ => ?_)
theorem laws_toSectionS.mono : ∀ a0 k, LeO (laws_toSectionS.f k a0) (laws_toSectionS.f (k + 1) a0) := by
  intro a0 k
  have ih0 := laws_toSectionS.mono_l k
  unfold laws_toSectionS.f
  repeat' first
      | (with_reducible exact ih0 _ _ _)
      | (with_reducible exact LeO.refl _)
      | (with_reducible exact LeO.none _)
      | (with_reducible refine LeO.ite ?_ ?_)
      | (with_reducible refine LeO.bind ?_ (fun _ => ?_))
      | exact ih0 _ _ _
      | exact LeO.none _
      | refine LeO.ite ?_ ?_
      | refine LeO.bind ?_ (fun _ => ?_)
set_option maxHeartbeats 8000000 in
set_option maxRecDepth 100000 in
theorem laws_toSectionS.calls (k : Nat) (A0 : Option Addr) (c0 : Nat) (l0 : List (S160)) (r : List (S64)) (w : World) (hr0 : Kd.C k160 w A0 l0.length l0) (hc0 : l0.length ≤ c0) (h : laws_toSectionS.f k l0 = some r) :
    Calls Try.prog 60 #[.slice A0 l0.length c0] w fun e w' => ∃ v0_ : Value, e = .returned (v0_) ∧ Kd.R k64 64 w' w.heap.size (fun _ => True) v0_ r ∧ Below w.heap.size w w' := by
  have hu160 := Try.underlying160
  have hu64 := Try.underlying64
  have HR0 := Aside0.mk hr0
  have HC0 := Aside0.mk hc0
  clear hr0 hc0
  have HB := Aside0.mk (Below.refl w.heap.size w)
  have H : (if 0 ≤ (l0.length : Int) then (if ((l0.length : Int) : Int).toNat ≤ 11728124029610 then (laws_toSectionS.l0 k l0 (List.replicate ((l0.length : Int) : Int).toNat z64) 0) else (none)) else (none)) = some r := h
  clear h
  by_cases c2 : 0 ≤ (l0.length : Int)
  · rw [if_pos c2] at H
    have c2b0 := eq_true c2
    have c2b1 : decide (0 ≤ (l0.length : Int)) = true := decide_eq_true c2
    clear c2
    by_cases c3 : ((l0.length : Int) : Int).toNat ≤ 11728124029610
    · rw [if_pos c3] at H
      have c3b0 := eq_true c3
      have c3b1 : decide (((l0.length : Int) : Int).toNat ≤ 11728124029610) = true := decide_eq_true c3
      clear c3
      obtain ⟨y101, hy101⟩ : ∃ y_ : List (S64), y_ = (List.replicate ((l0.length : Int) : Int).toNat z64) := ⟨_, rfl⟩
      replace H : (laws_toSectionS.l0 k l0 y101 0) = some r := by first | (rw [hy101]; with_reducible exact H) | (have H2_ := (Option.bind_some _ _).symm.trans H; rw [hy101]; with_reducible exact H2_) | (have H2_ := (Option.bind_some _ _).symm.trans H; with_reducible exact H2_) | with_reducible exact H | (rw [hy101]; exact H) | exact H
      have Ny101 := Aside0.mk hy101
      clear hy101
      have H' := Aside0.mk H
      clear H
      go_enter Try.func60, Try.ntmps60
      go_wp2_with (first | ((with_reducible refine gate_dst (N := 7) rfl ?_); refine Kd.R_make k64 _ 64 rfl (N := 7) rfl 65 _ _ rfl (l0.length : Int) rfl rfl Try.underlying65 (.agg #[(.int .i64 0), (.int .i64 0), (.int .i64 0)]) 24 info64 rfl (by decide) (by omega) z64 (ok := fun _ => True) (okp := fun _ => True) (k64_mkM _ _ _ z64 ) (fun _ hk => hk) trivial (of_decide_eq_true (by first | (with_reducible assumption) | assumption)) (Nat.le_trans (Nat.mul_le_mul_right _ (of_decide_eq_true (by first | (with_reducible assumption) | assumption) : (l0.length : Int).toNat ≤ 11728124029610)) (by omega)) (Below.refl _ _) (Nat.le_refl _) ?_; intro v102 w4 ho5 hb hg_ hnew_; clear hg_ hnew_; (first | rw [← Ny101.out] at ho5 | (simp only [Int.reduceToNat] at ho5; rw [← Ny101.out] at ho5)); have n0_ := Aside0.mk (Kd.R_lower ho5 (below_size (by repeat (first | (with_reducible first | exact HB.out | apply below_alloc | apply pw_below_drewN | apply below_drew1) | exact HB.out)))); have n1_ := Aside0.mk (below_step (by repeat (first | (with_reducible first | exact HB.out | apply below_alloc | apply pw_below_drewN | apply below_drew1) | exact HB.out)) hb); clear HB; have HO103 := n0_; have HB := n1_; clear n0_ n1_; clear hb ho5))
      go_loopg [4] k (fun kq v4 w' => ∃ (x3_1 : List (S64)) (x4_1 : Int), v4 = .int .i64 x4_1 ∧ Aside0 (laws_toSectionS.l0 kq l0 x3_1 x4_1 = some r) ∧ Aside0 (kq ≤ k) ∧ Aside0 (Kd.R k64 64 w' w.heap.size (fun _ => True) v102 x3_1) ∧ Aside0 (Below w.heap.size w w'))
      case atStart => exact ⟨(y101), (0), (by first | rfl | (simp; done) | (simp [*]; done) | (simp only [i64_w, i32_w]; done) | (simp [*, i64_w, i32_w]; done)), H', ⟨Nat.le_refl _⟩, ⟨by (with_reducible repeat (first | apply Kd.R_alloc | apply Kd.R_drewN | apply Kd.R_drew)); exact HO103.out⟩, ⟨by repeat (first | (with_reducible first | exact HB.out | apply below_alloc | apply pw_below_drewN | apply below_drew1) | exact HB.out)⟩⟩
      case round =>
        clear H'
        try clear c2
        try clear c2b0
        try clear c2b1
        try clear p2
        try clear c3
        try clear c3b0
        try clear c3b1
        obtain ⟨x3_1, x4_1, rfl, HA, HK1, HO_3, HB⟩ := hrel
        cases gk with
        | zero => exact absurd HA.out (by simp [laws_toSectionS.l0])
        | succ k1 =>
          have H := HA.out
          clear HA
          simp only [laws_toSectionS.l0] at H
          by_cases c6 : x4_1 < (l0.length : Int)
          · rw [if_pos c6] at H
            have c6b0 : decide (x4_1 < (l0.length : Int)) = true := decide_eq_true c6
            clear c6
            by_cases c7 : 0 ≤ x4_1
            · rw [if_pos c7] at H
              have c7b0 : decide (0 ≤ x4_1) = true := decide_eq_true c7
              clear c7
              replace H := Option.bind_eq_some_iff.mp H
              obtain ⟨⟨t105, t106, t107⟩, A80, H⟩ := H
              replace H : (if x4_1 < (x3_1.length : Int) then (laws_toSectionS.l0 k1 l0 (x3_1.set (x4_1 : Int).toNat (⟨t105, t106, t107⟩ : S64)) (wrap64 (x4_1 + 1))) else (none)) = some r := H
              have A8 := Aside0.mk A80
              clear A80
              by_cases c9 : x4_1 < (x3_1.length : Int)
              · rw [if_pos c9] at H
                have c9b0 : decide (x4_1 < (x3_1.length : Int)) = true := decide_eq_true c9
                clear c9
                obtain ⟨y108, hy108⟩ : ∃ y_ : List (S64), y_ = (x3_1.set (x4_1 : Int).toNat (⟨t105, t106, t107⟩ : S64)) := ⟨_, rfl⟩
                replace H : (laws_toSectionS.l0 k1 l0 y108 (wrap64 (x4_1 + 1))) = some r := by first | (rw [hy108]; with_reducible exact H) | (have H2_ := (Option.bind_some _ _).symm.trans H; rw [hy108]; with_reducible exact H2_) | (have H2_ := (Option.bind_some _ _).symm.trans H; with_reducible exact H2_) | with_reducible exact H | (rw [hy108]; exact H) | exact H
                have Ny108 := Aside0.mk hy108
                clear hy108
                have H' := Aside0.mk H
                clear H
                have p104 : 0 ≤ (x4_1 : Int) := of_decide_eq_true (by first | (with_reducible assumption) | assumption)
                have q104 : x4_1 < (l0.length : Int) := of_decide_eq_true (by first | (with_reducible assumption) | assumption)
                obtain ⟨ad104, e104, hx104_0, hx104_1, hx104_2⟩ := at_T160 HR0.out x4_1 p104 q104
                cases e104
                replace hx104_0 := (HB.out.cell (World.block_lt_of_cell? w _ hx104_0)).trans hx104_0
                replace hx104_1 := (HB.out.cell (World.block_lt_of_cell? w _ hx104_1)).trans hx104_1
                replace hx104_2 := (HB.out.cell (World.block_lt_of_cell? w _ hx104_2)).trans hx104_2
                replace p104 := eq_true p104
                replace q104 := eq_true q104
                go_wp2_with (first | ((with_reducible refine gate_callee (f := 136) rfl ?_); refine goesL_ (some 20) rfl rfl Try.func136 (by kernel_rfl) rfl #[.agg #[.int .i64 ((rd_T160 l0 x4_1).f0), .int .i64 ((rd_T160 l0 x4_1).f1), .int .i64 ((rd_T160 l0 x4_1).f2)]] rfl (by (try simp only [List.map_toArray, List.map_cons, List.map_nil]); first | done | rfl | (simp only [List.length_drop, List.length_take]; rfl)) ?_; (with_reducible refine (laws_toSection.calls ((rd_T160 l0 x4_1).f0) ((rd_T160 l0 x4_1).f1) ((rd_T160 l0 x4_1).f2) t105 t106 t107 _ A8.out).mono ?_); rintro e w11 ⟨rfl, hb⟩; refine ⟨_, rfl, ?_⟩; have n0_ := Aside0.mk (Kd.R_below (by (with_reducible repeat (first | apply Kd.R_alloc | apply Kd.R_drewN | apply Kd.R_drew)); exact HO_3.out) hb); have n1_ := Aside0.mk (below_step (by repeat (first | (with_reducible first | exact HB.out | apply below_alloc | apply pw_below_drewN | apply below_drew1) | exact HB.out)) hb); clear HO_3; clear HB; have HO_3 := n0_; have HB := n1_; clear n0_ n1_; (try clear hb); (try clear hb2); (try clear hk); (try clear hi); have p10 : 0 ≤ (x4_1 : Int) := of_decide_eq_true (by first | (with_reducible assumption) | assumption); have q10 : (x4_1 : Int) < ((x3_1.length : Int) : Int) := of_decide_eq_true (by first | (with_reducible assumption) | assumption); obtain ⟨go10, co10, eo10, gb10, gl10, cl10, HG10⟩ := Kd.R_form HO_3.out (by omega); (first | cases eo10 | (injection eo10 with ea_ en_ ec_; (first | subst ea_ | (injection ea_ with ea_; subst ea_)); subst ec_; clear en_)); have GB10 := Aside0.mk gb10; have GG10 := Aside0.mk HG10; clear gb10 gl10 HG10; obtain ⟨ce10, hcl10, hM10, hcc10, hfr10⟩ := Kd.R_elem HO_3.out z64 (x4_1 : Int) p10 q10; obtain rfl := k64_openM hM10; have hx10_0 : w11.cell? ⟨go10, (x4_1 : Int).toNat * 3, none⟩ = some (.int .i64 ((rd_T64 x3_1 x4_1).f0)) := hcc10 0 _ rfl; have hx10_1 : w11.cell? ⟨go10, (x4_1 : Int).toNat * 3 + 1, none⟩ = some (.int .i64 ((rd_T64 x3_1 x4_1).f1)) := hcc10 1 _ rfl; have hx10_2 : w11.cell? ⟨go10, (x4_1 : Int).toNat * 3 + 2, none⟩ = some (.int .i64 ((rd_T64 x3_1 x4_1).f2)) := hcc10 2 _ rfl; have hf10_0 : w11.frozen? ⟨go10, (x4_1 : Int).toNat * 3, none⟩ = false := hfr10 0; have hf10_1 : w11.frozen? ⟨go10, (x4_1 : Int).toNat * 3 + 1, none⟩ = false := hfr10 1; have hf10_2 : w11.frozen? ⟨go10, (x4_1 : Int).toNat * 3 + 2, none⟩ = false := hfr10 2; clear hcl10 hcc10 hfr10 hM10; replace p10 := eq_true p10; replace q10 := eq_true q10; have HX12 := Aside0.mk (show Kd.R k64 64 w11 w.heap.size (fun _ => True) (.slice (some ⟨go10, 0, none⟩) x3_1.length co10) x3_1 from (by (with_reducible repeat (first | apply Kd.R_alloc | apply Kd.R_drewN | apply Kd.R_drew)); exact HO_3.out)); obtain ⟨ce12, hcl12, hM12, hcc12, hfr12⟩ := Kd.R_elem HX12.out z64 (x4_1 : Int) (of_decide_eq_true (by first | (with_reducible assumption) | assumption)) (by have h_ : (x4_1 : Int) < ((x3_1.length : Int) : Int) := of_decide_eq_true (by first | (with_reducible assumption) | assumption); first | exact h_ | (have e_ := (Kd.R_reads' HO_3.out).1; omega) | simpa using h_); obtain rfl := k64_openM hM12; have HP12 := Kd.R_seg HX12.out (x4_1 : Int) (of_decide_eq_true (by first | (with_reducible assumption) | assumption)) (by have h_ : (x4_1 : Int) < ((x3_1.length : Int) : Int) := of_decide_eq_true (by first | (with_reducible assumption) | assumption); first | exact h_ | (have e_ := (Kd.R_reads' HO_3.out).1; omega) | simpa using h_) (seg := [.int .i64 t105, .int .i64 t106, .int .i64 t107]) (j := 0) hcl12 hcc12 (show 3 ≤ 3 from by decide) (x' := (⟨t105, t106, t107⟩ : S64)) (k64_mkM _ _ _ (⟨t105, t106, t107⟩ : S64) ) (fun _ hk => hk); have hx12_0 := hcc12 0 _ rfl; (try simp only [show (k64).sz = 3 from rfl, Nat.mul_one, Nat.add_zero] at hx12_0); have hf12_0 := hfr12 0; (try simp only [show (k64).sz = 3 from rfl, Nat.mul_one, Nat.add_zero] at hf12_0); have hx12_1 := hcc12 1 _ rfl; (try simp only [show (k64).sz = 3 from rfl, Nat.mul_one, Nat.add_zero] at hx12_1); have hf12_1 := hfr12 1; (try simp only [show (k64).sz = 3 from rfl, Nat.mul_one, Nat.add_zero] at hf12_1); have hx12_2 := hcc12 2 _ rfl; (try simp only [show (k64).sz = 3 from rfl, Nat.mul_one, Nat.add_zero] at hx12_2); have hf12_2 := hfr12 2; (try simp only [show (k64).sz = 3 from rfl, Nat.mul_one, Nat.add_zero] at hf12_2); clear hcl12 hcc12 hfr12 hM12) | ((with_reducible refine gate_store (t := 64) (p := 21) rfl ?_); refine store_event (t := 64) (p := 21) (v := ?vo_w13) (w1 := (((w11.setCell ⟨go10, (x4_1 : Int).toNat * 3, none⟩ (.int .i64 t105)).setCell ⟨go10, (x4_1 : Int).toNat * 3 + 1, none⟩ (.int .i64 t106)).setCell ⟨go10, (x4_1 : Int).toNat * 3 + 2, none⟩ (.int .i64 t107))) ?hg ?ho ?hn ?hr ?_; (case ho => rfl); (case hg => rfl); (case hn => rfl); (case hr => first | (go_simp; done) | (go_simp; rfl)); intro w13 hw; have hg : w11.grownBy w13 (some go10) := (by rw [hw]; exact HP12.2); have hp_ : Kd.R k64 64 w13 w.heap.size (fun _ => True) (.slice (some ⟨go10, 0, none⟩) x3_1.length co10) y108 := (by rw [hw, Ny108.out]; exact HP12.1); clear HP12; have n0_ := Aside0.mk (hp_); have n1_ := Aside0.mk ((by rw [hw]; exact below_set (below_set (below_set (HB.out) GB10.out) GB10.out) GB10.out : Below w.heap.size w w13)); clear HO_3; clear HB; have HO_3 := n0_; have HB := n1_; clear n0_ n1_; clear hg hw hp_))
                go_roundg k1
                case measure => have := HK1.out; omega
                case rel => exact ⟨(y108), (wrap64 (x4_1 + 1)), (by first | rfl | (simp; done) | (simp [*]; done) | (simp only [i64_w, i32_w]; done) | (simp [*, i64_w, i32_w]; done)), H', ⟨by have := HK1.out; omega⟩, ⟨by (with_reducible repeat (first | apply Kd.R_alloc | apply Kd.R_drewN | apply Kd.R_drew)); exact HO_3.out⟩, ⟨by repeat (first | (with_reducible first | exact HB.out | apply below_alloc | apply pw_below_drewN | apply below_drew1) | exact HB.out)⟩⟩
              · rw [if_neg c9] at H
                exact absurd H (by simp)
            · rw [if_neg c7] at H
              exact absurd H (by simp)
          · rw [if_neg c6] at H
            have c6b0 : decide (x4_1 < (l0.length : Int)) = false := decide_eq_false c6
            clear c6
            obtain rfl := Option.some.inj H
            go_wp2
            go_ret
            exact ⟨_, by first | rfl | (simp [errW_none, errW_some] <;> rfl) | (simp [*, errW_none, errW_some] <;> rfl), by (with_reducible repeat (first | apply Kd.R_alloc | apply Kd.R_drewN | apply Kd.R_drew)); exact HO_3.out, by repeat (first | (with_reducible first | exact HB.out | apply below_alloc | apply pw_below_drewN | apply below_drew1) | exact HB.out)⟩
    · rw [if_neg c3] at H
      exact absurd H (by simp)
  · rw [if_neg c2] at H
    exact absurd H (by simp)



/-! ### laws_toTask: function 71 -/
def laws_toTask.f (a0_0 : Int) (a0_1 : Int) (a0_2 : Int) : Option (Int × Int × Int) := some (a0_0, a0_1, a0_2)
set_option maxHeartbeats 8000000 in
set_option maxRecDepth 100000 in
theorem laws_toTask.calls (a0_0 : Int) (a0_1 : Int) (a0_2 : Int) (r1 : Int) (r2 : Int) (r3 : Int) (w : World) (h : laws_toTask.f a0_0 a0_1 a0_2 = some (r1, r2, r3)) :
    Calls Try.prog 71 #[.agg #[.int .i64 a0_0, .int .i64 a0_1, .int .i64 a0_2]] w fun e w' => e = .returned (.agg #[.int .i64 r1, .int .i64 r2, .int .i64 r3]) ∧ Below w.heap.size w w' := by
  have hu105 := Try.underlying105
  have hu62 := Try.underlying62
  have HB := Aside0.mk (Below.refl w.heap.size w)
  have H : (some (a0_0, a0_1, a0_2)) = some (r1, r2, r3) := h
  clear h
  simp only [Option.some.injEq, Prod.mk.injEq] at H
  obtain ⟨rfl, rfl, rfl⟩ := H
  go_enter Try.func71, Try.ntmps71
  go_wp2_with (first | ((with_reducible refine gate_dst (N := 1) rfl ?_); refine box_event ?hg (N := 1) ?hd (cs := #[.int .i64 a0_0, .int .i64 a0_1, .int .i64 a0_2]) (t := 105) ?hr ?_; (case hd => rfl); (case hg => rfl); (case hr => first | (go_simp; done) | (go_simp; rfl)); intro gb101 hg w2 hbox hb; have n0_ := Aside0.mk (below_step (by repeat (first | (with_reducible first | exact HB.out | apply below_alloc | apply pw_below_drewN | apply below_drew1) | exact HB.out)) hb); have n1_ := Aside0.mk (hbox); have n2_ := Aside0.mk ((by rw [hg]; exact (below_size (by repeat (first | (with_reducible first | exact HB.out | apply below_alloc | apply pw_below_drewN | apply below_drew1) | exact HB.out))) : w.heap.size ≤ gb101)); have n3_ := Aside0.mk ((by rw [hg]; exact (below_size (by repeat (first | (with_reducible first | exact HB.out | apply below_alloc | apply pw_below_drewN | apply below_drew1) | exact HB.out))) : w.heap.size ≤ gb101)); clear HB; have HB := n0_; have BK101 := n1_; have GW101 := n2_; have GE101 := n3_; clear n0_ n1_ n2_ n3_; clear hb hbox hg) | ((with_reducible refine gate_dst (N := 2) rfl ?_); refine box_event ?hg (N := 2) ?hd (cs := #[.int .i64 0, .int .i64 0, .int .i64 0]) (t := 62) ?hr ?_; (case hd => rfl); (case hg => rfl); (case hr => first | (go_simp; done) | (go_simp; rfl)); intro gb102 hg w3 hbox hb; have n0_ := Aside0.mk (blk_below (g := gb101) (o := .cells #[.int .i64 a0_0, .int .i64 a0_1, .int .i64 a0_2] 105 (0, 0)) (by (with_reducible repeat (first | refine blk_drewN ?_ _ | refine blk_drew ?_ | refine blk_alloc ?_ _)); exact BK101.out) hb); have n1_ := Aside0.mk (below_step (by repeat (first | (with_reducible first | exact HB.out | apply below_alloc | apply pw_below_drewN | apply below_drew1 | refine below_set ?_ GE101.out) | exact HB.out)) hb); have n2_ := Aside0.mk (hbox); have n3_ := Aside0.mk ((by rw [hg]; exact (below_size (by repeat (first | (with_reducible first | exact HB.out | apply below_alloc | apply pw_below_drewN | apply below_drew1 | refine below_set ?_ GE101.out) | exact HB.out))) : w.heap.size ≤ gb102)); have n4_ := Aside0.mk ((by rw [hg]; exact (below_size (by repeat (first | (with_reducible first | exact HB.out | apply below_alloc | apply pw_below_drewN | apply below_drew1 | refine below_set ?_ GE101.out) | exact HB.out))) : w.heap.size ≤ gb102)); have n5_ := Aside0.mk ((by rw [hg]; exact Nat.ne_of_lt (blk_lt (g := gb101) (o := .cells #[.int .i64 a0_0, .int .i64 a0_1, .int .i64 a0_2] 105 (0, 0)) (by (with_reducible repeat (first | refine blk_drewN ?_ _ | refine blk_drew ?_ | refine blk_alloc ?_ _)); exact BK101.out)) : gb101 ≠ gb102)); have n6_ := Aside0.mk ((by rw [hg]; exact Nat.ne_of_gt (blk_lt (g := gb101) (o := .cells #[.int .i64 a0_0, .int .i64 a0_1, .int .i64 a0_2] 105 (0, 0)) (by (with_reducible repeat (first | refine blk_drewN ?_ _ | refine blk_drew ?_ | refine blk_alloc ?_ _)); exact BK101.out)) : gb102 ≠ gb101)); clear BK101; clear HB; have BK101 := n0_; have HB := n1_; have BK102 := n2_; have GW102 := n3_; have GE102 := n4_; have NB101_102 := n5_; have NB102_101 := n6_; clear n0_ n1_ n2_ n3_ n4_ n5_ n6_; clear hb hbox hg) | ((with_reducible refine gate_dst (N := 3) rfl ?_); refine box_event ?hg (N := 3) ?hd (cs := #[.int .i64 0, .int .i64 0, .int .i64 0]) (t := 62) ?hr ?_; (case hd => rfl); (case hg => rfl); (case hr => first | (go_simp; done) | (go_simp; rfl)); intro gb103 hg w4 hbox hb; have n0_ := Aside0.mk (blk_below (g := gb101) (o := .cells #[.int .i64 a0_0, .int .i64 a0_1, .int .i64 a0_2] 105 (0, 0)) (by (with_reducible repeat (first | refine blk_drewN ?_ _ | refine blk_drew ?_ | refine blk_alloc ?_ _)); exact BK101.out) hb); have n1_ := Aside0.mk (blk_below (g := gb102) (o := .cells #[.int .i64 0, .int .i64 0, .int .i64 0] 62 (0, 0)) (by (with_reducible repeat (first | refine blk_drewN ?_ _ | refine blk_drew ?_ | refine blk_alloc ?_ _)); exact BK102.out) hb); have n2_ := Aside0.mk (below_step (by repeat (first | (with_reducible first | exact HB.out | apply below_alloc | apply pw_below_drewN | apply below_drew1 | refine below_set ?_ GE101.out | refine below_set ?_ GE102.out) | exact HB.out)) hb); have n3_ := Aside0.mk (hbox); have n4_ := Aside0.mk ((by rw [hg]; exact (below_size (by repeat (first | (with_reducible first | exact HB.out | apply below_alloc | apply pw_below_drewN | apply below_drew1 | refine below_set ?_ GE101.out | refine below_set ?_ GE102.out) | exact HB.out))) : w.heap.size ≤ gb103)); have n5_ := Aside0.mk ((by rw [hg]; exact (below_size (by repeat (first | (with_reducible first | exact HB.out | apply below_alloc | apply pw_below_drewN | apply below_drew1 | refine below_set ?_ GE101.out | refine below_set ?_ GE102.out) | exact HB.out))) : w.heap.size ≤ gb103)); have n6_ := Aside0.mk ((by rw [hg]; exact Nat.ne_of_lt (blk_lt (g := gb101) (o := .cells #[.int .i64 a0_0, .int .i64 a0_1, .int .i64 a0_2] 105 (0, 0)) (by (with_reducible repeat (first | refine blk_drewN ?_ _ | refine blk_drew ?_ | refine blk_alloc ?_ _)); exact BK101.out)) : gb101 ≠ gb103)); have n7_ := Aside0.mk ((by rw [hg]; exact Nat.ne_of_gt (blk_lt (g := gb101) (o := .cells #[.int .i64 a0_0, .int .i64 a0_1, .int .i64 a0_2] 105 (0, 0)) (by (with_reducible repeat (first | refine blk_drewN ?_ _ | refine blk_drew ?_ | refine blk_alloc ?_ _)); exact BK101.out)) : gb103 ≠ gb101)); have n8_ := Aside0.mk ((by rw [hg]; exact Nat.ne_of_lt (blk_lt (g := gb102) (o := .cells #[.int .i64 0, .int .i64 0, .int .i64 0] 62 (0, 0)) (by (with_reducible repeat (first | refine blk_drewN ?_ _ | refine blk_drew ?_ | refine blk_alloc ?_ _)); exact BK102.out)) : gb102 ≠ gb103)); have n9_ := Aside0.mk ((by rw [hg]; exact Nat.ne_of_gt (blk_lt (g := gb102) (o := .cells #[.int .i64 0, .int .i64 0, .int .i64 0] 62 (0, 0)) (by (with_reducible repeat (first | refine blk_drewN ?_ _ | refine blk_drew ?_ | refine blk_alloc ?_ _)); exact BK102.out)) : gb103 ≠ gb102)); clear BK101; clear BK102; clear HB; have BK101 := n0_; have BK102 := n1_; have HB := n2_; have BK103 := n3_; have GW103 := n4_; have GE103 := n5_; have NB101_103 := n6_; have NB103_101 := n7_; have NB102_103 := n8_; have NB103_102 := n9_; clear n0_ n1_ n2_ n3_ n4_ n5_ n6_ n7_ n8_ n9_; clear hb hbox hg; have hnb5 := NB101_102.out; have hnc5 := NB102_101.out; have hnb6 := NB101_103.out; have hnc6 := NB103_101.out; have hcz7_0 : w4.cell? ⟨gb101, 0, none⟩ = some (.int .i64 a0_0) := (blk_cell BK101.out 0).trans rfl; have hcz7_1 : w4.cell? ⟨gb101, 1, none⟩ = some (.int .i64 a0_1) := (blk_cell BK101.out 1).trans rfl; have hcz7_2 : w4.cell? ⟨gb101, 2, none⟩ = some (.int .i64 a0_2) := (blk_cell BK101.out 2).trans rfl; have hfz7_0 := blk_frozen BK101.out 0; have hfz7_1 := blk_frozen BK101.out 1; have hfz7_2 := blk_frozen BK101.out 2; have hnb8 := NB103_102.out; have hnc8 := NB102_103.out; have hcz9_0 : w4.cell? ⟨gb103, 0, none⟩ = some (.int .i64 0) := (blk_cell BK103.out 0).trans rfl; have hcz9_1 : w4.cell? ⟨gb103, 1, none⟩ = some (.int .i64 0) := (blk_cell BK103.out 1).trans rfl; have hcz9_2 : w4.cell? ⟨gb103, 2, none⟩ = some (.int .i64 0) := (blk_cell BK103.out 2).trans rfl; have hfz9_0 := blk_frozen BK103.out 0; have hfz9_1 := blk_frozen BK103.out 1; have hfz9_2 := blk_frozen BK103.out 2; have hcz10_0 : w4.cell? ⟨gb102, 0, none⟩ = some (.int .i64 0) := (blk_cell BK102.out 0).trans rfl; have hcz10_1 : w4.cell? ⟨gb102, 1, none⟩ = some (.int .i64 0) := (blk_cell BK102.out 1).trans rfl; have hcz10_2 : w4.cell? ⟨gb102, 2, none⟩ = some (.int .i64 0) := (blk_cell BK102.out 2).trans rfl; have hfz10_0 := blk_frozen BK102.out 0; have hfz10_1 := blk_frozen BK102.out 1; have hfz10_2 := blk_frozen BK102.out 2))
  refine bodyPost_ret (results_cell_row rfl _ _ gb102 62 #[.int .i64 a0_0, .int .i64 a0_1, .int .i64 a0_2] (0, 0) _ rfl (by (with_reducible repeat (first | refine blk_drewN ?_ _ | refine blk_drew ?_ | refine blk_alloc ?_ _)); refine blk_put (cs := #[.int .i64 a0_0, .int .i64 a0_1, .int .i64 0]) ?_ 2 _ rfl; (with_reducible repeat (first | refine blk_drewN ?_ _ | refine blk_drew ?_ | refine blk_alloc ?_ _)); refine blk_put (cs := #[.int .i64 a0_0, .int .i64 0, .int .i64 0]) ?_ 1 _ rfl; (with_reducible repeat (first | refine blk_drewN ?_ _ | refine blk_drew ?_ | refine blk_alloc ?_ _)); refine blk_put (cs := #[.int .i64 0, .int .i64 0, .int .i64 0]) ?_ 0 _ rfl; (with_reducible repeat (first | refine blk_drewN ?_ _ | refine blk_drew ?_ | refine blk_alloc ?_ _)); refine blk_far ?_ NB102_103.out _; (with_reducible repeat (first | refine blk_drewN ?_ _ | refine blk_drew ?_ | refine blk_alloc ?_ _)); refine blk_far ?_ NB102_103.out _; (with_reducible repeat (first | refine blk_drewN ?_ _ | refine blk_drew ?_ | refine blk_alloc ?_ _)); refine blk_far ?_ NB102_103.out _; (with_reducible repeat (first | refine blk_drewN ?_ _ | refine blk_drew ?_ | refine blk_alloc ?_ _)); exact BK102.out) Try.underlying62 rfl (by kernel_rfl)) rfl ?_
  exact ⟨by first | rfl | (simp [errW_none, errW_some] <;> rfl) | (simp [*, errW_none, errW_some] <;> rfl), by repeat (first | (with_reducible first | exact HB.out | apply below_alloc | apply pw_below_drewN | apply below_drew1 | refine below_set ?_ GE101.out | refine below_set ?_ GE102.out | refine below_set ?_ GE103.out) | exact HB.out)⟩



/-! ### laws_toTaskS: function 18 -/
def laws_toTaskS.l0 : Nat → List (S105) → List (S62) → Int → Option ((List (S62)))
  | 0, _, _, _ => none
  | k + 1, x0, x3, x4 => if x4 < (x0.length : Int) then (if 0 ≤ x4 then ((laws_toTask.f ((rd_T105 x0 x4).f0) ((rd_T105 x0 x4).f1) ((rd_T105 x0 x4).f2)).bind fun bt105 => (if x4 < (x3.length : Int) then (laws_toTaskS.l0 k x0 (x3.set (x4 : Int).toNat (⟨bt105.1, bt105.2.1, bt105.2.2⟩ : S62)) (wrap64 (x4 + 1))) else (none))) else (none)) else (some x3)
def laws_toTaskS.f (k : Nat) (l0 : List (S105)) : Option ((List (S62))) := if 0 ≤ (l0.length : Int) then (if ((l0.length : Int) : Int).toNat ≤ 11728124029610 then (laws_toTaskS.l0 k l0 (List.replicate ((l0.length : Int) : Int).toNat z62) 0) else (none)) else (none)
theorem laws_toTaskS.mono_l : ∀ k, (∀ y0 y1 y2, LeO (laws_toTaskS.l0 k y0 y1 y2) (laws_toTaskS.l0 (k + 1) y0 y1 y2))
  | 0 => fun _ _ _ r h => by simp [laws_toTaskS.l0] at h
  | k + 1 => by
    have ih0 := laws_toTaskS.mono_l k
    · intro y0 y1 y2
      unfold laws_toTaskS.l0
      repeat' first
      | (with_reducible exact ih0 _ _ _)
      | (with_reducible exact LeO.refl _)
      | (with_reducible exact LeO.none _)
      | (with_reducible refine LeO.ite ?_ ?_)
      | (with_reducible refine LeO.bind ?_ (fun _ => ?_))
      | exact ih0 _ _ _
      | exact LeO.none _
      | refine LeO.ite ?_ ?_
      | refine LeO.bind ?_ (fun _ => ?_)
theorem laws_toTaskS.mono : ∀ a0 k, LeO (laws_toTaskS.f k a0) (laws_toTaskS.f (k + 1) a0) := by
  intro a0 k
  have ih0 := laws_toTaskS.mono_l k
  unfold laws_toTaskS.f
  repeat' first
      | (with_reducible exact ih0 _ _ _)
      | (with_reducible exact LeO.refl _)
      | (with_reducible exact LeO.none _)
      | (with_reducible refine LeO.ite ?_ ?_)
      | (with_reducible refine LeO.bind ?_ (fun _ => ?_))
      | exact ih0 _ _ _
      | exact LeO.none _
      | refine LeO.ite ?_ ?_
      | refine LeO.bind ?_ (fun _ => ?_)
set_option maxHeartbeats 8000000 in
set_option maxRecDepth 100000 in
theorem laws_toTaskS.calls (k : Nat) (A0 : Option Addr) (c0 : Nat) (l0 : List (S105)) (r : List (S62)) (w : World) (hr0 : Kd.C k105 w A0 l0.length l0) (hc0 : l0.length ≤ c0) (h : laws_toTaskS.f k l0 = some r) :
    Calls Try.prog 18 #[.slice A0 l0.length c0] w fun e w' => ∃ v0_ : Value, e = .returned (v0_) ∧ Kd.R k62 62 w' w.heap.size (fun _ => True) v0_ r ∧ Below w.heap.size w w' := by
  have hu105 := Try.underlying105
  have hu62 := Try.underlying62
  have HR0 := Aside0.mk hr0
  have HC0 := Aside0.mk hc0
  clear hr0 hc0
  have HB := Aside0.mk (Below.refl w.heap.size w)
  have H : (if 0 ≤ (l0.length : Int) then (if ((l0.length : Int) : Int).toNat ≤ 11728124029610 then (laws_toTaskS.l0 k l0 (List.replicate ((l0.length : Int) : Int).toNat z62) 0) else (none)) else (none)) = some r := h
  clear h
  by_cases c2 : 0 ≤ (l0.length : Int)
  · rw [if_pos c2] at H
    have c2b0 := eq_true c2
    have c2b1 : decide (0 ≤ (l0.length : Int)) = true := decide_eq_true c2
    clear c2
    by_cases c3 : ((l0.length : Int) : Int).toNat ≤ 11728124029610
    · rw [if_pos c3] at H
      have c3b0 := eq_true c3
      have c3b1 : decide (((l0.length : Int) : Int).toNat ≤ 11728124029610) = true := decide_eq_true c3
      clear c3
      obtain ⟨y101, hy101⟩ : ∃ y_ : List (S62), y_ = (List.replicate ((l0.length : Int) : Int).toNat z62) := ⟨_, rfl⟩
      replace H : (laws_toTaskS.l0 k l0 y101 0) = some r := by first | (rw [hy101]; with_reducible exact H) | (have H2_ := (Option.bind_some _ _).symm.trans H; rw [hy101]; with_reducible exact H2_) | (have H2_ := (Option.bind_some _ _).symm.trans H; with_reducible exact H2_) | with_reducible exact H | (rw [hy101]; exact H) | exact H
      have Ny101 := Aside0.mk hy101
      clear hy101
      have H' := Aside0.mk H
      clear H
      go_enter Try.func18, Try.ntmps18
      go_wp2_with (first | ((with_reducible refine gate_dst (N := 7) rfl ?_); refine Kd.R_make k62 _ 62 rfl (N := 7) rfl 37 _ _ rfl (l0.length : Int) rfl rfl Try.underlying37 (.agg #[(.int .i64 0), (.int .i64 0), (.int .i64 0)]) 24 info62 rfl (by decide) (by omega) z62 (ok := fun _ => True) (okp := fun _ => True) (k62_mkM _ _ _ z62 ) (fun _ hk => hk) trivial (of_decide_eq_true (by first | (with_reducible assumption) | assumption)) (Nat.le_trans (Nat.mul_le_mul_right _ (of_decide_eq_true (by first | (with_reducible assumption) | assumption) : (l0.length : Int).toNat ≤ 11728124029610)) (by omega)) (Below.refl _ _) (Nat.le_refl _) ?_; intro v102 w4 ho5 hb hg_ hnew_; clear hg_ hnew_; (first | rw [← Ny101.out] at ho5 | (simp only [Int.reduceToNat] at ho5; rw [← Ny101.out] at ho5)); have n0_ := Aside0.mk (Kd.R_lower ho5 (below_size (by repeat (first | (with_reducible first | exact HB.out | apply below_alloc | apply pw_below_drewN | apply below_drew1) | exact HB.out)))); have n1_ := Aside0.mk (below_step (by repeat (first | (with_reducible first | exact HB.out | apply below_alloc | apply pw_below_drewN | apply below_drew1) | exact HB.out)) hb); clear HB; have HO103 := n0_; have HB := n1_; clear n0_ n1_; clear hb ho5))
      go_loopg [4] k (fun kq v4 w' => ∃ (x3_1 : List (S62)) (x4_1 : Int), v4 = .int .i64 x4_1 ∧ Aside0 (laws_toTaskS.l0 kq l0 x3_1 x4_1 = some r) ∧ Aside0 (kq ≤ k) ∧ Aside0 (Kd.R k62 62 w' w.heap.size (fun _ => True) v102 x3_1) ∧ Aside0 (Below w.heap.size w w'))
      case atStart => exact ⟨(y101), (0), (by first | rfl | (simp; done) | (simp [*]; done) | (simp only [i64_w, i32_w]; done) | (simp [*, i64_w, i32_w]; done)), H', ⟨Nat.le_refl _⟩, ⟨by (with_reducible repeat (first | apply Kd.R_alloc | apply Kd.R_drewN | apply Kd.R_drew)); exact HO103.out⟩, ⟨by repeat (first | (with_reducible first | exact HB.out | apply below_alloc | apply pw_below_drewN | apply below_drew1) | exact HB.out)⟩⟩
      case round =>
        clear H'
        try clear c1
        try clear c2
        try clear c2b0
        try clear c2b1
        try clear p2
        try clear c3
        try clear c3b0
        try clear c3b1
        obtain ⟨x3_1, x4_1, rfl, HA, HK1, HO_3, HB⟩ := hrel
        cases gk with
        | zero => exact absurd HA.out (by simp [laws_toTaskS.l0])
        | succ k1 =>
          have H := HA.out
          clear HA
          simp only [laws_toTaskS.l0] at H
          by_cases c6 : x4_1 < (l0.length : Int)
          · rw [if_pos c6] at H
            have c6b0 : decide (x4_1 < (l0.length : Int)) = true := decide_eq_true c6
            clear c6
            by_cases c7 : 0 ≤ x4_1
            · rw [if_pos c7] at H
              have c7b0 : decide (0 ≤ x4_1) = true := decide_eq_true c7
              clear c7
              replace H := Option.bind_eq_some_iff.mp H
              obtain ⟨⟨t105, t106, t107⟩, A80, H⟩ := H
              replace H : (if x4_1 < (x3_1.length : Int) then (laws_toTaskS.l0 k1 l0 (x3_1.set (x4_1 : Int).toNat (⟨t105, t106, t107⟩ : S62)) (wrap64 (x4_1 + 1))) else (none)) = some r := H
              have A8 := Aside0.mk A80
              clear A80
              by_cases c9 : x4_1 < (x3_1.length : Int)
              · rw [if_pos c9] at H
                have c9b0 : decide (x4_1 < (x3_1.length : Int)) = true := decide_eq_true c9
                clear c9
                obtain ⟨y108, hy108⟩ : ∃ y_ : List (S62), y_ = (x3_1.set (x4_1 : Int).toNat (⟨t105, t106, t107⟩ : S62)) := ⟨_, rfl⟩
                replace H : (laws_toTaskS.l0 k1 l0 y108 (wrap64 (x4_1 + 1))) = some r := by first | (rw [hy108]; with_reducible exact H) | (have H2_ := (Option.bind_some _ _).symm.trans H; rw [hy108]; with_reducible exact H2_) | (have H2_ := (Option.bind_some _ _).symm.trans H; with_reducible exact H2_) | with_reducible exact H | (rw [hy108]; exact H) | exact H
                have Ny108 := Aside0.mk hy108
                clear hy108
                have H' := Aside0.mk H
                clear H
                have p104 : 0 ≤ (x4_1 : Int) := of_decide_eq_true (by first | (with_reducible assumption) | assumption)
                have q104 : x4_1 < (l0.length : Int) := of_decide_eq_true (by first | (with_reducible assumption) | assumption)
                obtain ⟨ad104, e104, hx104_0, hx104_1, hx104_2⟩ := at_T105 HR0.out x4_1 p104 q104
                cases e104
                replace hx104_0 := (HB.out.cell (World.block_lt_of_cell? w _ hx104_0)).trans hx104_0
                replace hx104_1 := (HB.out.cell (World.block_lt_of_cell? w _ hx104_1)).trans hx104_1
                replace hx104_2 := (HB.out.cell (World.block_lt_of_cell? w _ hx104_2)).trans hx104_2
                replace p104 := eq_true p104
                replace q104 := eq_true q104
                go_wp2_with (first | ((with_reducible refine gate_callee (f := 71) rfl ?_); refine goesL_ (some 20) rfl rfl Try.func71 (by kernel_rfl) rfl #[.agg #[.int .i64 ((rd_T105 l0 x4_1).f0), .int .i64 ((rd_T105 l0 x4_1).f1), .int .i64 ((rd_T105 l0 x4_1).f2)]] rfl (by (try simp only [List.map_toArray, List.map_cons, List.map_nil]); first | done | rfl | (simp only [List.length_drop, List.length_take]; rfl)) ?_; (with_reducible refine (laws_toTask.calls ((rd_T105 l0 x4_1).f0) ((rd_T105 l0 x4_1).f1) ((rd_T105 l0 x4_1).f2) t105 t106 t107 _ A8.out).mono ?_); rintro e w11 ⟨rfl, hb⟩; refine ⟨_, rfl, ?_⟩; have n0_ := Aside0.mk (Kd.R_below (by (with_reducible repeat (first | apply Kd.R_alloc | apply Kd.R_drewN | apply Kd.R_drew)); exact HO_3.out) hb); have n1_ := Aside0.mk (below_step (by repeat (first | (with_reducible first | exact HB.out | apply below_alloc | apply pw_below_drewN | apply below_drew1) | exact HB.out)) hb); clear HO_3; clear HB; have HO_3 := n0_; have HB := n1_; clear n0_ n1_; (try clear hb); (try clear hb2); (try clear hk); (try clear hi); have p10 : 0 ≤ (x4_1 : Int) := of_decide_eq_true (by first | (with_reducible assumption) | assumption); have q10 : (x4_1 : Int) < ((x3_1.length : Int) : Int) := of_decide_eq_true (by first | (with_reducible assumption) | assumption); obtain ⟨go10, co10, eo10, gb10, gl10, cl10, HG10⟩ := Kd.R_form HO_3.out (by omega); (first | cases eo10 | (injection eo10 with ea_ en_ ec_; (first | subst ea_ | (injection ea_ with ea_; subst ea_)); subst ec_; clear en_)); have GB10 := Aside0.mk gb10; have GG10 := Aside0.mk HG10; clear gb10 gl10 HG10; obtain ⟨ce10, hcl10, hM10, hcc10, hfr10⟩ := Kd.R_elem HO_3.out z62 (x4_1 : Int) p10 q10; obtain rfl := k62_openM hM10; have hx10_0 : w11.cell? ⟨go10, (x4_1 : Int).toNat * 3, none⟩ = some (.int .i64 ((rd_T62 x3_1 x4_1).f0)) := hcc10 0 _ rfl; have hx10_1 : w11.cell? ⟨go10, (x4_1 : Int).toNat * 3 + 1, none⟩ = some (.int .i64 ((rd_T62 x3_1 x4_1).f1)) := hcc10 1 _ rfl; have hx10_2 : w11.cell? ⟨go10, (x4_1 : Int).toNat * 3 + 2, none⟩ = some (.int .i64 ((rd_T62 x3_1 x4_1).f2)) := hcc10 2 _ rfl; have hf10_0 : w11.frozen? ⟨go10, (x4_1 : Int).toNat * 3, none⟩ = false := hfr10 0; have hf10_1 : w11.frozen? ⟨go10, (x4_1 : Int).toNat * 3 + 1, none⟩ = false := hfr10 1; have hf10_2 : w11.frozen? ⟨go10, (x4_1 : Int).toNat * 3 + 2, none⟩ = false := hfr10 2; clear hcl10 hcc10 hfr10 hM10; replace p10 := eq_true p10; replace q10 := eq_true q10; have HX12 := Aside0.mk (show Kd.R k62 62 w11 w.heap.size (fun _ => True) (.slice (some ⟨go10, 0, none⟩) x3_1.length co10) x3_1 from (by (with_reducible repeat (first | apply Kd.R_alloc | apply Kd.R_drewN | apply Kd.R_drew)); exact HO_3.out)); obtain ⟨ce12, hcl12, hM12, hcc12, hfr12⟩ := Kd.R_elem HX12.out z62 (x4_1 : Int) (of_decide_eq_true (by first | (with_reducible assumption) | assumption)) (by have h_ : (x4_1 : Int) < ((x3_1.length : Int) : Int) := of_decide_eq_true (by first | (with_reducible assumption) | assumption); first | exact h_ | (have e_ := (Kd.R_reads' HO_3.out).1; omega) | simpa using h_); obtain rfl := k62_openM hM12; have HP12 := Kd.R_seg HX12.out (x4_1 : Int) (of_decide_eq_true (by first | (with_reducible assumption) | assumption)) (by have h_ : (x4_1 : Int) < ((x3_1.length : Int) : Int) := of_decide_eq_true (by first | (with_reducible assumption) | assumption); first | exact h_ | (have e_ := (Kd.R_reads' HO_3.out).1; omega) | simpa using h_) (seg := [.int .i64 t105, .int .i64 t106, .int .i64 t107]) (j := 0) hcl12 hcc12 (show 3 ≤ 3 from by decide) (x' := (⟨t105, t106, t107⟩ : S62)) (k62_mkM _ _ _ (⟨t105, t106, t107⟩ : S62) ) (fun _ hk => hk); have hx12_0 := hcc12 0 _ rfl; (try simp only [show (k62).sz = 3 from rfl, Nat.mul_one, Nat.add_zero] at hx12_0); have hf12_0 := hfr12 0; (try simp only [show (k62).sz = 3 from rfl, Nat.mul_one, Nat.add_zero] at hf12_0); have hx12_1 := hcc12 1 _ rfl; (try simp only [show (k62).sz = 3 from rfl, Nat.mul_one, Nat.add_zero] at hx12_1); have hf12_1 := hfr12 1; (try simp only [show (k62).sz = 3 from rfl, Nat.mul_one, Nat.add_zero] at hf12_1); have hx12_2 := hcc12 2 _ rfl; (try simp only [show (k62).sz = 3 from rfl, Nat.mul_one, Nat.add_zero] at hx12_2); have hf12_2 := hfr12 2; (try simp only [show (k62).sz = 3 from rfl, Nat.mul_one, Nat.add_zero] at hf12_2); clear hcl12 hcc12 hfr12 hM12) | ((with_reducible refine gate_store (t := 62) (p := 21) rfl ?_); refine store_event (t := 62) (p := 21) (v := ?vo_w13) (w1 := (((w11.setCell ⟨go10, (x4_1 : Int).toNat * 3, none⟩ (.int .i64 t105)).setCell ⟨go10, (x4_1 : Int).toNat * 3 + 1, none⟩ (.int .i64 t106)).setCell ⟨go10, (x4_1 : Int).toNat * 3 + 2, none⟩ (.int .i64 t107))) ?hg ?ho ?hn ?hr ?_; (case ho => rfl); (case hg => rfl); (case hn => rfl); (case hr => first | (go_simp; done) | (go_simp; rfl)); intro w13 hw; have hg : w11.grownBy w13 (some go10) := (by rw [hw]; exact HP12.2); have hp_ : Kd.R k62 62 w13 w.heap.size (fun _ => True) (.slice (some ⟨go10, 0, none⟩) x3_1.length co10) y108 := (by rw [hw, Ny108.out]; exact HP12.1); clear HP12; have n0_ := Aside0.mk (hp_); have n1_ := Aside0.mk ((by rw [hw]; exact below_set (below_set (below_set (HB.out) GB10.out) GB10.out) GB10.out : Below w.heap.size w w13)); clear HO_3; clear HB; have HO_3 := n0_; have HB := n1_; clear n0_ n1_; clear hg hw hp_))
                go_roundg k1
                case measure => have := HK1.out; omega
                case rel => exact ⟨(y108), (wrap64 (x4_1 + 1)), (by first | rfl | (simp; done) | (simp [*]; done) | (simp only [i64_w, i32_w]; done) | (simp [*, i64_w, i32_w]; done)), H', ⟨by have := HK1.out; omega⟩, ⟨by (with_reducible repeat (first | apply Kd.R_alloc | apply Kd.R_drewN | apply Kd.R_drew)); exact HO_3.out⟩, ⟨by repeat (first | (with_reducible first | exact HB.out | apply below_alloc | apply pw_below_drewN | apply below_drew1) | exact HB.out)⟩⟩
              · rw [if_neg c9] at H
                exact absurd H (by simp)
            · rw [if_neg c7] at H
              exact absurd H (by simp)
          · rw [if_neg c6] at H
            have c6b0 : decide (x4_1 < (l0.length : Int)) = false := decide_eq_false c6
            clear c6
            obtain rfl := Option.some.inj H
            go_wp2
            go_ret
            exact ⟨_, by first | rfl | (simp [errW_none, errW_some] <;> rfl) | (simp [*, errW_none, errW_some] <;> rfl), by (with_reducible repeat (first | apply Kd.R_alloc | apply Kd.R_drewN | apply Kd.R_drew)); exact HO_3.out, by repeat (first | (with_reducible first | exact HB.out | apply below_alloc | apply pw_below_drewN | apply below_drew1) | exact HB.out)⟩
    · rw [if_neg c3] at H
      exact absurd H (by simp)
  · rw [if_neg c2] at H
    exact absurd H (by simp)



/-! ### spec_l1In: function 96 -/
def spec_l1In.f (a0 : Int) (a1 : Int) (a2 : Int) : Option (Bool) := if a0 ≥ a1 then (some (decide (a0 ≤ a2))) else (some false)
set_option maxHeartbeats 8000000 in
set_option maxRecDepth 100000 in
theorem spec_l1In.calls (a0 : Int) (a1 : Int) (a2 : Int) (r : Bool) (w : World) (h : spec_l1In.f a0 a1 a2 = some r) :
    Calls Try.prog 96 #[.int .i64 a0, .int .i64 a1, .int .i64 a2] w fun e w' => e = .returned (.bool r) ∧ Drawn0 w w' := by
  have H : (if a0 ≥ a1 then (some (decide (a0 ≤ a2))) else (some false)) = some r := h
  clear h
  by_cases c4 : a0 ≥ a1
  · rw [if_pos c4] at H
    have c4b0 : decide (a1 ≤ a0) = true := decide_eq_true c4
    clear c4
    obtain rfl := Option.some.inj H
    go_enter Try.func96, Try.ntmps96
    go_wp2
    go_ret
    exact ⟨by first | rfl | (simp; done) | (simp [*]; done) | (simp only [i64_w, i32_w]; done) | (simp [*, i64_w, i32_w]; done), by repeat (first | exact Drawn0.refl _ | apply Drawn0.step)⟩
  · rw [if_neg c4] at H
    have c4b0 : decide (a1 ≤ a0) = false := decide_eq_false c4
    clear c4
    obtain rfl := Option.some.inj H
    go_enter Try.func96, Try.ntmps96
    go_wp2
    go_ret
    exact ⟨by first | rfl | (simp; done) | (simp [*]; done) | (simp only [i64_w, i32_w]; done) | (simp [*, i64_w, i32_w]; done), by repeat (first | exact Drawn0.refl _ | apply Drawn0.step)⟩



/-! ### spec_TaskValid: function 150 -/
def spec_TaskValid.f (a0_0 : Int) (a0_1 : Int) (a0_2 : Int) : Option (Bool) := (spec_l1In.f a0_0 1 8).bind fun t102 => (if t102 = true then ((spec_l1In.f a0_1 a0_0 a0_2).bind fun t103 => (if t103 = true then ((spec_l1In.f a0_2 1 12).bind fun t104 => (some t104)) else (some false))) else (some false))
set_option maxHeartbeats 8000000 in
set_option maxRecDepth 100000 in
theorem spec_TaskValid.calls (a0_0 : Int) (a0_1 : Int) (a0_2 : Int) (r : Bool) (w : World) (h : spec_TaskValid.f a0_0 a0_1 a0_2 = some r) :
    Calls Try.prog 150 #[.agg #[.int .i64 a0_0, .int .i64 a0_1, .int .i64 a0_2]] w fun e w' => e = .returned (.bool r) ∧ Below w.heap.size w w' := by
  have hu62 := Try.underlying62
  have HB := Aside0.mk (Below.refl w.heap.size w)
  have H : ((spec_l1In.f a0_0 1 8).bind fun t102 => (if t102 = true then ((spec_l1In.f a0_1 a0_0 a0_2).bind fun t103 => (if t103 = true then ((spec_l1In.f a0_2 1 12).bind fun t104 => (some t104)) else (some false))) else (some false))) = some r := h
  clear h
  replace H := Option.bind_eq_some_iff.mp H
  obtain ⟨t102, A20, H⟩ := H
  replace H : (if t102 = true then ((spec_l1In.f a0_1 a0_0 a0_2).bind fun t103 => (if t103 = true then ((spec_l1In.f a0_2 1 12).bind fun t104 => (some t104)) else (some false))) else (some false)) = some r := H
  have A2 := Aside0.mk A20
  clear A20
  by_cases c3 : t102 = true
  · subst c3
    have H1 : ((spec_l1In.f a0_1 a0_0 a0_2).bind fun t103 => (if t103 = true then ((spec_l1In.f a0_2 1 12).bind fun t104 => (some t104)) else (some false))) = some r := by rw [if_pos rfl] at H; exact H
    clear H
    have H := H1
    clear H1
    replace H := Option.bind_eq_some_iff.mp H
    obtain ⟨t103, A40, H⟩ := H
    replace H : (if t103 = true then ((spec_l1In.f a0_2 1 12).bind fun t104 => (some t104)) else (some false)) = some r := H
    have A4 := Aside0.mk A40
    clear A40
    by_cases c5 : t103 = true
    · subst c5
      have H1 : ((spec_l1In.f a0_2 1 12).bind fun t104 => (some t104)) = some r := by rw [if_pos rfl] at H; exact H
      clear H
      have H := H1
      clear H1
      replace H := Option.bind_eq_some_iff.mp H
      obtain ⟨t104, A60, H⟩ := H
      replace H : (some t104) = some r := H
      have A6 := Aside0.mk A60
      clear A60
      obtain rfl := Option.some.inj H
      go_enter Try.func150, Try.ntmps150
      go_wp2_with (first | ((with_reducible refine gate_dst (N := 1) rfl ?_); refine box_event ?hg (N := 1) ?hd (cs := #[.int .i64 a0_0, .int .i64 a0_1, .int .i64 a0_2]) (t := 62) ?hr ?_; (case hd => rfl); (case hg => rfl); (case hr => first | (go_simp; done) | (go_simp; rfl)); intro gb101 hg w7 hbox hb; have n0_ := Aside0.mk (below_step (by repeat (first | (with_reducible first | exact HB.out | apply below_alloc | apply pw_below_drewN | apply below_drew1) | exact HB.out)) hb); have n1_ := Aside0.mk (hbox); have n2_ := Aside0.mk ((by rw [hg]; exact (below_size (by repeat (first | (with_reducible first | exact HB.out | apply below_alloc | apply pw_below_drewN | apply below_drew1) | exact HB.out))) : w.heap.size ≤ gb101)); have n3_ := Aside0.mk ((by rw [hg]; exact (below_size (by repeat (first | (with_reducible first | exact HB.out | apply below_alloc | apply pw_below_drewN | apply below_drew1) | exact HB.out))) : w.heap.size ≤ gb101)); clear HB; have HB := n0_; have BK101 := n1_; have GW101 := n2_; have GE101 := n3_; clear n0_ n1_ n2_ n3_; clear hb hbox hg; have hcz8_0 : w7.cell? ⟨gb101, 0, none⟩ = some (.int .i64 a0_0) := (blk_cell BK101.out 0).trans rfl; have hcz8_1 : w7.cell? ⟨gb101, 1, none⟩ = some (.int .i64 a0_1) := (blk_cell BK101.out 1).trans rfl; have hcz8_2 : w7.cell? ⟨gb101, 2, none⟩ = some (.int .i64 a0_2) := (blk_cell BK101.out 2).trans rfl; have hfz8_0 := blk_frozen BK101.out 0; have hfz8_1 := blk_frozen BK101.out 1; have hfz8_2 := blk_frozen BK101.out 2) | ((with_reducible refine gate_callee (f := 96) rfl ?_); refine goesL_ (some 5) rfl rfl Try.func96 (by kernel_rfl) rfl #[.int .i64 a0_0, .int .i64 1, .int .i64 8] rfl (by (try simp only [List.map_toArray, List.map_cons, List.map_nil]); first | done | rfl | (simp only [List.length_drop, List.length_take]; rfl)) ?_; (with_reducible refine (spec_l1In.calls a0_0 1 8 true _ A2.out).mono ?_); rintro e w' ⟨rfl, ⟨nd, rfl⟩⟩; refine ⟨_, rfl, ?_⟩) | (go_at_call 96; (with_reducible refine (spec_l1In.calls a0_1 a0_0 a0_2 true _ A4.out).mono ?_); rintro e w' ⟨rfl, ⟨nd, rfl⟩⟩) | (go_at_call 96; (with_reducible refine (spec_l1In.calls a0_2 1 12 t104 _ A6.out).mono ?_); rintro e w' ⟨rfl, ⟨nd, rfl⟩⟩))
      go_ret
      exact ⟨by first | rfl | (simp [errW_none, errW_some] <;> rfl) | (simp [*, errW_none, errW_some] <;> rfl), by repeat (first | (with_reducible first | exact HB.out | apply below_alloc | apply pw_below_drewN | apply below_drew1 | refine below_set ?_ GE101.out) | exact HB.out)⟩
    · replace c5 := Bool.eq_false_iff.mpr c5
      subst c5
      have H1 : (some false) = some r := by rw [if_neg (show ¬ (false = true) by decide)] at H; exact H
      clear H
      have H := H1
      clear H1
      obtain rfl := Option.some.inj H
      go_enter Try.func150, Try.ntmps150
      go_wp2_with (first | ((with_reducible refine gate_dst (N := 1) rfl ?_); refine box_event ?hg (N := 1) ?hd (cs := #[.int .i64 a0_0, .int .i64 a0_1, .int .i64 a0_2]) (t := 62) ?hr ?_; (case hd => rfl); (case hg => rfl); (case hr => first | (go_simp; done) | (go_simp; rfl)); intro gb101 hg w9 hbox hb; have n0_ := Aside0.mk (below_step (by repeat (first | (with_reducible first | exact HB.out | apply below_alloc | apply pw_below_drewN | apply below_drew1) | exact HB.out)) hb); have n1_ := Aside0.mk (hbox); have n2_ := Aside0.mk ((by rw [hg]; exact (below_size (by repeat (first | (with_reducible first | exact HB.out | apply below_alloc | apply pw_below_drewN | apply below_drew1) | exact HB.out))) : w.heap.size ≤ gb101)); have n3_ := Aside0.mk ((by rw [hg]; exact (below_size (by repeat (first | (with_reducible first | exact HB.out | apply below_alloc | apply pw_below_drewN | apply below_drew1) | exact HB.out))) : w.heap.size ≤ gb101)); clear HB; have HB := n0_; have BK101 := n1_; have GW101 := n2_; have GE101 := n3_; clear n0_ n1_ n2_ n3_; clear hb hbox hg; have hcz10_0 : w9.cell? ⟨gb101, 0, none⟩ = some (.int .i64 a0_0) := (blk_cell BK101.out 0).trans rfl; have hcz10_1 : w9.cell? ⟨gb101, 1, none⟩ = some (.int .i64 a0_1) := (blk_cell BK101.out 1).trans rfl; have hcz10_2 : w9.cell? ⟨gb101, 2, none⟩ = some (.int .i64 a0_2) := (blk_cell BK101.out 2).trans rfl; have hfz10_0 := blk_frozen BK101.out 0; have hfz10_1 := blk_frozen BK101.out 1; have hfz10_2 := blk_frozen BK101.out 2) | ((with_reducible refine gate_callee (f := 96) rfl ?_); refine goesL_ (some 5) rfl rfl Try.func96 (by kernel_rfl) rfl #[.int .i64 a0_0, .int .i64 1, .int .i64 8] rfl (by (try simp only [List.map_toArray, List.map_cons, List.map_nil]); first | done | rfl | (simp only [List.length_drop, List.length_take]; rfl)) ?_; (with_reducible refine (spec_l1In.calls a0_0 1 8 true _ A2.out).mono ?_); rintro e w' ⟨rfl, ⟨nd, rfl⟩⟩; refine ⟨_, rfl, ?_⟩) | (go_at_call 96; (with_reducible refine (spec_l1In.calls a0_1 a0_0 a0_2 false _ A4.out).mono ?_); rintro e w' ⟨rfl, ⟨nd, rfl⟩⟩))
      go_ret
      exact ⟨by first | rfl | (simp [errW_none, errW_some] <;> rfl) | (simp [*, errW_none, errW_some] <;> rfl), by repeat (first | (with_reducible first | exact HB.out | apply below_alloc | apply pw_below_drewN | apply below_drew1 | refine below_set ?_ GE101.out) | exact HB.out)⟩
  · replace c3 := Bool.eq_false_iff.mpr c3
    subst c3
    have H1 : (some false) = some r := by rw [if_neg (show ¬ (false = true) by decide)] at H; exact H
    clear H
    have H := H1
    clear H1
    obtain rfl := Option.some.inj H
    go_enter Try.func150, Try.ntmps150
    go_wp2_with (first | ((with_reducible refine gate_dst (N := 1) rfl ?_); refine box_event ?hg (N := 1) ?hd (cs := #[.int .i64 a0_0, .int .i64 a0_1, .int .i64 a0_2]) (t := 62) ?hr ?_; (case hd => rfl); (case hg => rfl); (case hr => first | (go_simp; done) | (go_simp; rfl)); intro gb101 hg w11 hbox hb; have n0_ := Aside0.mk (below_step (by repeat (first | (with_reducible first | exact HB.out | apply below_alloc | apply pw_below_drewN | apply below_drew1) | exact HB.out)) hb); have n1_ := Aside0.mk (hbox); have n2_ := Aside0.mk ((by rw [hg]; exact (below_size (by repeat (first | (with_reducible first | exact HB.out | apply below_alloc | apply pw_below_drewN | apply below_drew1) | exact HB.out))) : w.heap.size ≤ gb101)); have n3_ := Aside0.mk ((by rw [hg]; exact (below_size (by repeat (first | (with_reducible first | exact HB.out | apply below_alloc | apply pw_below_drewN | apply below_drew1) | exact HB.out))) : w.heap.size ≤ gb101)); clear HB; have HB := n0_; have BK101 := n1_; have GW101 := n2_; have GE101 := n3_; clear n0_ n1_ n2_ n3_; clear hb hbox hg; have hcz12_0 : w11.cell? ⟨gb101, 0, none⟩ = some (.int .i64 a0_0) := (blk_cell BK101.out 0).trans rfl; have hcz12_1 : w11.cell? ⟨gb101, 1, none⟩ = some (.int .i64 a0_1) := (blk_cell BK101.out 1).trans rfl; have hcz12_2 : w11.cell? ⟨gb101, 2, none⟩ = some (.int .i64 a0_2) := (blk_cell BK101.out 2).trans rfl; have hfz12_0 := blk_frozen BK101.out 0; have hfz12_1 := blk_frozen BK101.out 1; have hfz12_2 := blk_frozen BK101.out 2) | ((with_reducible refine gate_callee (f := 96) rfl ?_); refine goesL_ (some 5) rfl rfl Try.func96 (by kernel_rfl) rfl #[.int .i64 a0_0, .int .i64 1, .int .i64 8] rfl (by (try simp only [List.map_toArray, List.map_cons, List.map_nil]); first | done | rfl | (simp only [List.length_drop, List.length_take]; rfl)) ?_; (with_reducible refine (spec_l1In.calls a0_0 1 8 false _ A2.out).mono ?_); rintro e w' ⟨rfl, ⟨nd, rfl⟩⟩; refine ⟨_, rfl, ?_⟩))
    go_ret
    exact ⟨by first | rfl | (simp [errW_none, errW_some] <;> rfl) | (simp [*, errW_none, errW_some] <;> rfl), by repeat (first | (with_reducible first | exact HB.out | apply below_alloc | apply pw_below_drewN | apply below_drew1 | refine below_set ?_ GE101.out) | exact HB.out)⟩



/-! ### spec_SetValid: function 95 -/
def spec_SetValid.l0 : Nat → List (S62) → Int → Option (Bool)
  | 0, _, _ => none
  | k + 1, x0, x3 => if x3 < (x0.length : Int) then (if 0 ≤ x3 then ((spec_TaskValid.f ((rd_T62 x0 x3).f0) ((rd_T62 x0 x3).f1) ((rd_T62 x0 x3).f2)).bind fun t102 => (if t102 = true then (spec_SetValid.l0 k x0 (wrap64 (x3 + 1))) else (some false))) else (none)) else (some (decide ((x0.length : Int) ≤ 5)))
def spec_SetValid.f (k : Nat) (l0 : List (S62)) : Option (Bool) := spec_SetValid.l0 k l0 0
theorem spec_SetValid.mono_l : ∀ k, (∀ y0 y1, LeO (spec_SetValid.l0 k y0 y1) (spec_SetValid.l0 (k + 1) y0 y1))
  | 0 => fun _ _ r h => by simp [spec_SetValid.l0] at h
  | k + 1 => by
    have ih0 := spec_SetValid.mono_l k
    · intro y0 y1
      unfold spec_SetValid.l0
      repeat' first
      | (with_reducible exact ih0 _ _)
      | (with_reducible exact LeO.refl _)
      | (with_reducible exact LeO.none _)
      | (with_reducible refine LeO.ite ?_ ?_)
      | (with_reducible refine LeO.bind ?_ (fun _ => ?_))
      | exact ih0 _ _
      | exact LeO.none _
      | refine LeO.ite ?_ ?_
      | refine LeO.bind ?_ (fun _ => ?_)
theorem spec_SetValid.mono : ∀ a0 k, LeO (spec_SetValid.f k a0) (spec_SetValid.f (k + 1) a0) := by
  intro a0 k
  have ih0 := spec_SetValid.mono_l k
  unfold spec_SetValid.f
  repeat' first
      | (with_reducible exact ih0 _ _)
      | (with_reducible exact LeO.refl _)
      | (with_reducible exact LeO.none _)
      | (with_reducible refine LeO.ite ?_ ?_)
      | (with_reducible refine LeO.bind ?_ (fun _ => ?_))
      | exact ih0 _ _
      | exact LeO.none _
      | refine LeO.ite ?_ ?_
      | refine LeO.bind ?_ (fun _ => ?_)
set_option maxHeartbeats 8000000 in
set_option maxRecDepth 100000 in
theorem spec_SetValid.calls (k : Nat) (A0 : Option Addr) (c0 : Nat) (l0 : List (S62)) (r : Bool) (w : World) (hr0 : Kd.C k62 w A0 l0.length l0) (hc0 : l0.length ≤ c0) (h : spec_SetValid.f k l0 = some r) :
    Calls Try.prog 95 #[.slice A0 l0.length c0] w fun e w' => e = .returned (.bool r) ∧ Below w.heap.size w w' := by
  have hu62 := Try.underlying62
  have HR0 := Aside0.mk hr0
  have HC0 := Aside0.mk hc0
  clear hr0 hc0
  have HB := Aside0.mk (Below.refl w.heap.size w)
  have H : (spec_SetValid.l0 k l0 0) = some r := h
  clear h
  have H' := Aside0.mk H
  clear H
  go_enter Try.func95, Try.ntmps95
  go_wp2
  go_loopg [3] k (fun kq v3 w' => ∃ (x3_1 : Int), v3 = .int .i64 x3_1 ∧ Aside0 (spec_SetValid.l0 kq l0 x3_1 = some r) ∧ Aside0 (kq ≤ k) ∧ Aside0 (Below w.heap.size w w'))
  case atStart => exact ⟨(0), (by first | rfl | (simp; done) | (simp [*]; done) | (simp only [i64_w, i32_w]; done) | (simp [*, i64_w, i32_w]; done)), H', ⟨Nat.le_refl _⟩, ⟨by repeat (first | (with_reducible first | exact HB.out | apply below_alloc | apply pw_below_drewN | apply below_drew1) | exact HB.out)⟩⟩
  case round =>
    clear H'
    obtain ⟨x3_1, rfl, HA, HK1, HB⟩ := hrel
    cases gk with
    | zero => exact absurd HA.out (by simp [spec_SetValid.l0])
    | succ k1 =>
      have H := HA.out
      clear HA
      simp only [spec_SetValid.l0] at H
      by_cases c2 : x3_1 < (l0.length : Int)
      · rw [if_pos c2] at H
        have c2b0 : decide (x3_1 < (l0.length : Int)) = true := decide_eq_true c2
        clear c2
        by_cases c3 : 0 ≤ x3_1
        · rw [if_pos c3] at H
          have c3b0 : decide (0 ≤ x3_1) = true := decide_eq_true c3
          clear c3
          replace H := Option.bind_eq_some_iff.mp H
          obtain ⟨t102, A40, H⟩ := H
          replace H : (if t102 = true then (spec_SetValid.l0 k1 l0 (wrap64 (x3_1 + 1))) else (some false)) = some r := H
          have A4 := Aside0.mk A40
          clear A40
          by_cases c5 : t102 = true
          · subst c5
            have H1 : (spec_SetValid.l0 k1 l0 (wrap64 (x3_1 + 1))) = some r := by rw [if_pos rfl] at H; exact H
            clear H
            have H := H1
            clear H1
            have H' := Aside0.mk H
            clear H
            have p101 : 0 ≤ (x3_1 : Int) := of_decide_eq_true (by first | (with_reducible assumption) | assumption)
            have q101 : x3_1 < (l0.length : Int) := of_decide_eq_true (by first | (with_reducible assumption) | assumption)
            obtain ⟨ad101, e101, hx101_0, hx101_1, hx101_2⟩ := at_T62 HR0.out x3_1 p101 q101
            cases e101
            replace hx101_0 := (HB.out.cell (World.block_lt_of_cell? w _ hx101_0)).trans hx101_0
            replace hx101_1 := (HB.out.cell (World.block_lt_of_cell? w _ hx101_1)).trans hx101_1
            replace hx101_2 := (HB.out.cell (World.block_lt_of_cell? w _ hx101_2)).trans hx101_2
            replace p101 := eq_true p101
            replace q101 := eq_true q101
            go_wp2_with (first | ((with_reducible refine gate_callee (f := 150) rfl ?_); refine goesL_ (some 14) rfl rfl Try.func150 (by kernel_rfl) rfl #[.agg #[.int .i64 ((rd_T62 l0 x3_1).f0), .int .i64 ((rd_T62 l0 x3_1).f1), .int .i64 ((rd_T62 l0 x3_1).f2)]] rfl (by (try simp only [List.map_toArray, List.map_cons, List.map_nil]); first | done | rfl | (simp only [List.length_drop, List.length_take]; rfl)) ?_; (with_reducible refine (spec_TaskValid.calls ((rd_T62 l0 x3_1).f0) ((rd_T62 l0 x3_1).f1) ((rd_T62 l0 x3_1).f2) true _ A4.out).mono ?_); rintro e w6 ⟨rfl, hb⟩; refine ⟨_, rfl, ?_⟩; have n0_ := Aside0.mk (below_step (by repeat (first | (with_reducible first | exact HB.out | apply below_alloc | apply pw_below_drewN | apply below_drew1) | exact HB.out)) hb); clear HB; have HB := n0_; clear n0_; (try clear hb); (try clear hb2); (try clear hk); (try clear hi)))
            go_roundg k1
            case measure => have := HK1.out; omega
            case rel => exact ⟨(wrap64 (x3_1 + 1)), (by first | rfl | (simp; done) | (simp [*]; done) | (simp only [i64_w, i32_w]; done) | (simp [*, i64_w, i32_w]; done)), H', ⟨by have := HK1.out; omega⟩, ⟨by repeat (first | (with_reducible first | exact HB.out | apply below_alloc | apply pw_below_drewN | apply below_drew1) | exact HB.out)⟩⟩
          · replace c5 := Bool.eq_false_iff.mpr c5
            subst c5
            have H1 : (some false) = some r := by rw [if_neg (show ¬ (false = true) by decide)] at H; exact H
            clear H
            have H := H1
            clear H1
            obtain rfl := Option.some.inj H
            have p101 : 0 ≤ (x3_1 : Int) := of_decide_eq_true (by first | (with_reducible assumption) | assumption)
            have q101 : x3_1 < (l0.length : Int) := of_decide_eq_true (by first | (with_reducible assumption) | assumption)
            obtain ⟨ad101, e101, hx101_0, hx101_1, hx101_2⟩ := at_T62 HR0.out x3_1 p101 q101
            cases e101
            replace hx101_0 := (HB.out.cell (World.block_lt_of_cell? w _ hx101_0)).trans hx101_0
            replace hx101_1 := (HB.out.cell (World.block_lt_of_cell? w _ hx101_1)).trans hx101_1
            replace hx101_2 := (HB.out.cell (World.block_lt_of_cell? w _ hx101_2)).trans hx101_2
            replace p101 := eq_true p101
            replace q101 := eq_true q101
            go_wp2_with (first | ((with_reducible refine gate_callee (f := 150) rfl ?_); refine goesL_ (some 14) rfl rfl Try.func150 (by kernel_rfl) rfl #[.agg #[.int .i64 ((rd_T62 l0 x3_1).f0), .int .i64 ((rd_T62 l0 x3_1).f1), .int .i64 ((rd_T62 l0 x3_1).f2)]] rfl (by (try simp only [List.map_toArray, List.map_cons, List.map_nil]); first | done | rfl | (simp only [List.length_drop, List.length_take]; rfl)) ?_; (with_reducible refine (spec_TaskValid.calls ((rd_T62 l0 x3_1).f0) ((rd_T62 l0 x3_1).f1) ((rd_T62 l0 x3_1).f2) false _ A4.out).mono ?_); rintro e w7 ⟨rfl, hb⟩; refine ⟨_, rfl, ?_⟩; have n0_ := Aside0.mk (below_step (by repeat (first | (with_reducible first | exact HB.out | apply below_alloc | apply pw_below_drewN | apply below_drew1) | exact HB.out)) hb); clear HB; have HB := n0_; clear n0_; (try clear hb); (try clear hb2); (try clear hk); (try clear hi)))
            go_ret
            exact ⟨by first | rfl | (simp [errW_none, errW_some] <;> rfl) | (simp [*, errW_none, errW_some] <;> rfl), by repeat (first | (with_reducible first | exact HB.out | apply below_alloc | apply pw_below_drewN | apply below_drew1) | exact HB.out)⟩
        · rw [if_neg c3] at H
          exact absurd H (by simp)
      · rw [if_neg c2] at H
        have c2b0 : decide (x3_1 < (l0.length : Int)) = false := decide_eq_false c2
        clear c2
        obtain rfl := Option.some.inj H
        go_wp2
        go_ret
        exact ⟨by first | rfl | (simp [errW_none, errW_some] <;> rfl) | (simp [*, errW_none, errW_some] <;> rfl), by repeat (first | (with_reducible first | exact HB.out | apply below_alloc | apply pw_below_drewN | apply below_drew1) | exact HB.out)⟩



/-! ### spec_JobsLegal: function 34 (given) -/
open Go.Proofs.Ytonifhkplniblaa.Walk
/-- Job j of a list. -/
def jb (l : List S67) (j : Nat) : S67 := l.getD j z67
/-- When the next job of each task may come. -/
def nextL (s : List S62) (l : List S67) : Nat → List Int
  | 0 => List.replicate s.length 0
  | i + 1 => (nextL s l i).set (jb l i).f0.toNat (wrap64 ((jb l i).f1 + (rd_T62 s (jb l i).f0).f2))
theorem nextL_len (s : List S62) (l : List S67) : ∀ i, (nextL s l i).length = s.length
  | 0 => by simp [nextL]
  | i + 1 => by simp [nextL, nextL_len s l i]
def specAt (s : List S62) (l : List S67) (i : Nat) : Bool :=
  (decide (0 ≤ (jb l i).f0 ∧ (jb l i).f0 ≤ (s.length : Int) - 1) && decide (0 ≤ (jb l i).f1 ∧ (jb l i).f1 ≤ 119)) &&
  ((!decide ((jb l i).f1 < rd (nextL s l i) (jb l i).f0) && (dlOk s (jb l i) && decide (1 ≤ (jb l i).f3 ∧ (jb l i).f3 ≤ (rd_T62 s (jb l i).f0).f0))) &&
  !(decide (0 < i) && jobBad (jb l (i - 1)) (jb l i)))
theorem inqs (a b c : Int) (r : Bool) (hr : decide (b ≤ a ∧ a ≤ c) = r) (W : World) : Calls Try.prog 96 #[.int .i64 a, .int .i64 b, .int .i64 c] W fun e w' => e = .returned (.bool r) ∧ ∃ m, w' = W.drewN m := by
  refine (spec_l1In.calls a b c r W ?_).mono ?_
  · unfold spec_l1In.f
    rw [← hr]
    by_cases h : a ≥ b
    · have h' : b ≤ a := h
      simp [h, h']
    · have h' : ¬ b ≤ a := h
      simp [h, h']
  · rintro e w' ⟨rfl, hd⟩
    exact ⟨rfl, hd.out⟩
def spec_JobsLegal.f (k : Nat) (l0 : List (S62)) (l1 : List (S67)) : Option Bool := (spec_SetValid.f k l0).bind fun b => if b = true then (if l1.length ≤ 60 then (if l0.length ≤ 1000000 then some ((List.range l1.length).all (specAt l0 l1)) else none) else some false) else some false
theorem spec_JobsLegal.mono : ∀ a0 a1 k, LeO (spec_JobsLegal.f k a0 a1) (spec_JobsLegal.f (k + 1) a0 a1) := by
  intro a0 a1 k
  unfold spec_JobsLegal.f
  exact LeO.bind (spec_SetValid.mono _ _) (fun _ => LeO.refl _)
set_option maxHeartbeats 4000000 in
set_option maxRecDepth 100000 in
theorem spec_JobsLegal.calls (k : Nat) (A0 : Option Addr) (c0 : Nat) (l0 : List (S62)) (A1 : Option Addr) (c1 : Nat) (l1 : List (S67)) (r : Bool) (w : World) (hr0 : Kd.C k62 w A0 l0.length l0) (hc0 : l0.length ≤ c0) (hr1 : Kd.C k67 w A1 l1.length l1) (hc1 : l1.length ≤ c1) (h : spec_JobsLegal.f k l0 l1 = some r) :
    Calls Try.prog 34 #[.slice A0 l0.length c0, .slice A1 l1.length c1] w fun e w' => e = .returned (.bool r) ∧ Below w.heap.size w w' := by
  have hu := Try.underlying67
  have huT := Try.underlying62
  unfold spec_JobsLegal.f at h
  obtain ⟨b, hb⟩ : ∃ b, spec_SetValid.f k l0 = some b := by
    cases hs : spec_SetValid.f k l0 with
    | none => rw [hs] at h; cases h
    | some b => exact ⟨b, rfl⟩
  rw [hb, Option.bind_some] at h
  have HSV := Lib.hid (spec_SetValid.calls k A0 c0 l0 b w hr0 hc0 hb)
  cases b with
  | false =>
    rw [if_neg (by simp)] at h
    obtain rfl := Option.some.inj h
    clear hr0 hc0 hr1 hc1 hb h
    go_enter Try.func34, Try.ntmps34
    go_wp2_with (go_at_call 95; refine HSV.out.mono ?_; rintro e w2 ⟨rfl, hb2⟩)
    go_ret
    exact ⟨rfl, hb2⟩
  | true =>
    rw [if_pos rfl] at h
    by_cases hl : l1.length ≤ 60
    · rw [if_pos hl] at h
      by_cases hs1 : l0.length ≤ 1000000
      · rw [if_pos hs1] at h
        obtain rfl := Option.some.inj h
        have b60 : decide ((l1.length : Int) > 60) = false := decide_eq_false (by omega)
        have HR0 := Aside0.mk hr0
        have HR1 := Aside0.mk hr1
        have HB := Aside0.mk (Below.refl w.heap.size w)
        have n0 : (0 : Int) ≤ (l0.length : Int) := by omega
        clear hr0 hc0 hr1 hc1 hb h
        go_enter Try.func34, Try.ntmps34
        go_wp2_with (first | (go_at_call 95; refine HSV.out.mono ?_; rintro e w2 ⟨rfl, hb2⟩; have n0_ := Aside0.mk hb2; clear HB hb2; have HB := n0_; clear n0_) | ((with_reducible refine gate_dst (N := 19) rfl ?_); refine Kd.R_make (Kd.int .i64) w.heap.size 3 rfl (N := 19) rfl 30 _ _ rfl (l0.length : Int) rfl rfl Try.underlying30 (.int .i64 0) 8 info3 rfl (by decide) (by omega) 0 (ok := fun _ => True) (okp := fun _ => True) rfl (fun _ hk => hk) trivial n0 (by simp only [Int.toNat_natCast]; omega) HB.out HB.out.size ?_; intro v103 w11 ho12 hb hg_ hnew_; clear hg_ hnew_; simp only [Int.toNat_natCast] at ho12; have n0_ := Aside0.mk ho12; have n1_ := Aside0.mk hb; clear HB; have HN := n0_; have HB := n1_; clear n0_ n1_; clear hb ho12; obtain ⟨An, cn, en⟩ := Kd.R_slice HN.out; rw [show (List.replicate l0.length (0 : Int)).length = l0.length from List.length_replicate] at en; subst en))
        have HN0 : Aside0 (Kd.R (Kd.int .i64) 3 w11 w.heap.size (fun _ => True) (.slice An l0.length cn) (nextL l0 l1 0)) := HN
        clear HN
        go_loopw [6] (fun v6 w' => ∃ j : Nat, v6 = .int .i64 j ∧ Aside0 (j ≤ l1.length ∧ ∀ i, i < j → specAt l0 l1 i = true) ∧ Aside0 (Kd.R (Kd.int .i64) 3 w' w.heap.size (fun _ => True) (.slice An l0.length cn) (nextL l0 l1 j)) ∧ Aside0 (Below w.heap.size w w')) (fun v6 _ => l1.length - (intOf v6).toNat)
        case atStart => exact ⟨0, rfl, ⟨Nat.zero_le _, fun i hi => absurd hi (by omega)⟩, HN0, HB⟩
        case round =>
          clear HB HN0
          obtain ⟨j, rfl, ⟨HJ⟩, HN, HB⟩ := hrel
          by_cases hlt : j < l1.length
          · have b1 : decide ((j : Int) < (l1.length : Int)) = true := decide_eq_true (by omega)
            obtain ⟨ad0, e0, hy0, hy1, hy2, hy3⟩ := at_T67 HR1.out (j : Int) (by omega) (by omega)
            cases e0
            replace hy0 := (HB.out.cell (World.block_lt_of_cell? w _ hy0)).trans hy0
            replace hy1 := (HB.out.cell (World.block_lt_of_cell? w _ hy1)).trans hy1
            replace hy2 := (HB.out.cell (World.block_lt_of_cell? w _ hy2)).trans hy2
            replace hy3 := (HB.out.cell (World.block_lt_of_cell? w _ hy3)).trans hy3
            simp only [Int.toNat_natCast] at hy0 hy1 hy2 hy3
            have hrd : rd_T67 l1 (j : Int) = jb l1 j := rfl
            rw [hrd] at hy0 hy1 hy2 hy3
            have q0 : 0 ≤ (j : Int) := by omega
            have q1 : (j : Int) < (l1.length : Int) := by omega
            have hnx : nextL l0 l1 (j + 1) = (nextL l0 l1 j).set (jb l1 j).f0.toNat (wrap64 ((jb l1 j).f1 + (rd_T62 l0 (jb l1 j).f0).f2)) := rfl
            obtain ⟨y, hy⟩ : ∃ y, y = jb l1 j := ⟨_, rfl⟩
            rw [← hy] at hy0 hy1 hy2 hy3 hnx
            have HY := Lib.hid hy
            have HLT := Lib.hid hlt
            have HJJ := Lib.hid HJ
            clear hrd hy HJ
            obtain ⟨ya, yb, yc, yd⟩ := y
            simp only at hnx
            by_cases a1 : 0 ≤ ya ∧ ya ≤ (l0.length : Int) - 1
            · have Q1 := Lib.hid (fun W => inqs ya 0 ((l0.length : Int) - 1) true (decide_eq_true a1) W)
              by_cases a2 : 0 ≤ yb ∧ yb ≤ 119
              · have Q2 := Lib.hid (fun W => inqs yb 0 119 true (decide_eq_true a2) W)
                obtain ⟨adt, et, hz0, hz1, hz2⟩ := at_T62 HR0.out ya (by omega) (by omega)
                cases et
                replace hz0 := (HB.out.cell (World.block_lt_of_cell? w _ hz0)).trans hz0
                replace hz1 := (HB.out.cell (World.block_lt_of_cell? w _ hz1)).trans hz1
                replace hz2 := (HB.out.cell (World.block_lt_of_cell? w _ hz2)).trans hz2
                obtain ⟨z, hz⟩ : ∃ z, z = rd_T62 l0 ya := ⟨_, rfl⟩
                rw [← hz] at hz0 hz1 hz2 hnx
                have HZ := Lib.hid hz
                obtain ⟨za, zb, zc⟩ := z
                simp only at hnx
                have HNX := Lib.hid hnx
                have hnl := nextL_len l0 l1 j
                obtain ⟨gn, cn', en, _⟩ := Kd.R_form HN.out (by omega)
                injection en with en1 en2 en3
                subst en1 en3
                clear en2
                have HGN := Aside0.mk (Kd.R_base HN.out gn rfl)
                have q2 : 0 ≤ ya := a1.1
                have q3 : ya < (l0.length : Int) := by omega
                have hBJ := below_alloc (Below.refl wr.heap.size wr) (.cells #[.int .i64 ya, .int .i64 yb, .int .i64 yc, .int .i64 yd] 67)
                have hzA0 := (hBJ.cell (World.block_lt_of_cell? _ _ hz0)).trans hz0
                have hzA1 := (hBJ.cell (World.block_lt_of_cell? _ _ hz1)).trans hz1
                have hzA2 := (hBJ.cell (World.block_lt_of_cell? _ _ hz2)).trans hz2
                clear hBJ
                go_wp2_with ((go_at_call 96; (first | (with_reducible refine (Q1.out _).mono ?_) | (with_reducible refine (Q2.out _).mono ?_)); rintro e w2_ ⟨rfl, m_, rfl⟩; (try rw [World.drewN_drewN])))
                generalize hw3 : World.alloc (World.drewN _ _) _ = w3
                obtain ⟨nn, hw4⟩ : ∃ nn, w3 = ((wr.alloc (.cells #[.int .i64 ya, .int .i64 yb, .int .i64 yc, .int .i64 yd] 67)).drewN nn).alloc (.cells #[.int .i64 za, .int .i64 zb, .int .i64 zc] 62) := ⟨_, hw3.symm⟩
                have BJ : w3.heap[wr.heap.size]? = some (.cells #[.int .i64 ya, .int .i64 yb, .int .i64 yc, .int .i64 yd] 67 (0, 0)) := by rw [← hw3]; exact blk_alloc (blk_drewN (blk_new wr _) _) _
                have BT : w3.heap[wr.heap.size + 1]? = some (.cells #[.int .i64 za, .int .i64 zb, .int .i64 zc] 62 (0, 0)) := by
                  rw [hw4]
                  have := blk_new ((wr.alloc (.cells #[.int .i64 ya, .int .i64 yb, .int .i64 yc, .int .i64 yd] 67)).drewN nn) (.cells #[.int .i64 za, .int .i64 zb, .int .i64 zc] 62)
                  rw [show ((wr.alloc (.cells #[.int .i64 ya, .int .i64 yb, .int .i64 yc, .int .i64 yd] 67)).drewN nn).heap.size = wr.heap.size + 1 by simp] at this
                  exact this
                have hBw : Below wr.heap.size wr w3 := by rw [← hw3]; exact below_alloc (pw_below_drewN (below_alloc (Below.refl _ _) _) _) _
                have hN2 := Kd.R_below HN.out hBw
                have hB2 := below_step HB.out hBw
                have hj0 : w3.cell? ⟨wr.heap.size, 0, none⟩ = some (.int .i64 ya) := (blk_cell BJ 0).trans rfl
                have hj1 : w3.cell? ⟨wr.heap.size, 1, none⟩ = some (.int .i64 yb) := (blk_cell BJ 1).trans rfl
                have hj2 : w3.cell? ⟨wr.heap.size, 2, none⟩ = some (.int .i64 yc) := (blk_cell BJ 2).trans rfl
                have hj3 : w3.cell? ⟨wr.heap.size, 3, none⟩ = some (.int .i64 yd) := (blk_cell BJ 3).trans rfl
                have ht0 : w3.cell? ⟨wr.heap.size + 1, 0, none⟩ = some (.int .i64 za) := (blk_cell BT 0).trans rfl
                have ht1 : w3.cell? ⟨wr.heap.size + 1, 1, none⟩ = some (.int .i64 zb) := (blk_cell BT 1).trans rfl
                have ht2 : w3.cell? ⟨wr.heap.size + 1, 2, none⟩ = some (.int .i64 zc) := (blk_cell BT 2).trans rfl
                obtain ⟨hnc, hnf⟩ := Kd.R_celln 0 hN2 ya (by omega) (by omega)
                have hrn : rdOf 0 (nextL l0 l1 j) ya = rd (nextL l0 l1 j) ya := rfl
                rw [hrn] at hnc
                obtain ⟨mv, hmv⟩ : ∃ mv, mv = rd (nextL l0 l1 j) ya := ⟨_, rfl⟩
                rw [← hmv] at hnc
                have HMV := Lib.hid hmv
                have HN2 := Aside0.mk hN2
                have n0_ := Aside0.mk hB2
                clear HB
                have HB := n0_
                have HR2 := Aside0.mk (Kd.C_below HR1.out hB2)
                clear n0_ hB2 hN2 hrn hmv hBw BJ BT hw3 hw4 HN hz0 hz1 hz2 hzA0 hzA1 hzA2 hy0 hy1 hy2 hy3 hz hnx hnl
                have hat0 : specAt l0 l1 j = (!decide (yb < mv) && (decide (yc = wrap64 (yb + zb)) && decide (1 ≤ yd ∧ yd ≤ za)) && !(decide (0 < j) && jobBad (jb l1 (j - 1)) ⟨ya, yb, yc, yd⟩)) := by
                  unfold specAt dlOk
                  rw [← HY.out]
                  simp only
                  rw [← HMV.out, ← HZ.out, decide_eq_true a1, decide_eq_true a2]
                  rfl
                clear a1 a2
                by_cases c1 : yb < mv
                · have c1b : decide (yb < mv) = true := decide_eq_true c1
                  have HO : Hid (specAt l0 l1 j = false) := Lib.hid (by rw [hat0, c1b]; rfl)
                  clear hat0 c1
                  ((go_quiet ((go_at_call 96; with_reducible exact Calls.quiet_of (Q3.out _)))))
                  go_wp2
                  ((go_ret; exact ⟨by rw [all_no HLT.out HO.out]; rfl, by ((repeat (first | (with_reducible first | exact HB.out | apply below_alloc | apply pw_below_drewN | apply below_drew1) | exact HB.out)))⟩))
                · have c1b : decide (yb < mv) = false := decide_eq_false c1
                  have hw1 : IntKind.i64.wrap (yb + zb) = wrap64 (yb + zb) := i64_w _
                  obtain ⟨dl, hdl⟩ : ∃ dl, dl = wrap64 (yb + zb) := ⟨_, rfl⟩
                  rw [← hdl] at hw1 hat0
                  by_cases c2 : yc = dl
                  · have c2b : (yc != dl) = false := by rw [bne_eq_false_iff_eq]; exact c2
                    by_cases c3 : 1 ≤ yd ∧ yd ≤ za
                    · have Q3 := Lib.hid (fun W => inqs yd 1 za true (decide_eq_true c3) W)
                      rw [c1b, decide_eq_true c2, decide_eq_true c3] at hat0
                      have hw2 : IntKind.i64.wrap (yb + zc) = wrap64 (yb + zc) := i64_w _
                      by_cases h0 : 0 < j
                      · have h0b : decide ((j : Int) > 0) = true := decide_eq_true (by omega)
                        obtain ⟨p, hp⟩ : ∃ p, p = (j : Int) - 1 := ⟨_, rfl⟩
                        obtain ⟨ad1, e1, hx0, hx1, hx2, hx3⟩ := at_T67 HR2.out p (by omega) (by omega)
                        cases e1
                        have hrd : rd_T67 l1 p = jb l1 (j - 1) := by unfold rd_T67 jb; congr 1; omega
                        rw [hrd] at hx0 hx1 hx2 hx3
                        obtain ⟨x, hx⟩ : ∃ x, x = jb l1 (j - 1) := ⟨_, rfl⟩
                        rw [← hx] at hx0 hx1 hat0
                        have hwp : IntKind.i64.wrap ((j : Int) - 1) = p := by rw [i64_w]; unfold wrap64; omega
                        have qp2 : 0 ≤ p := by omega
                        have qp3 : p < (l1.length : Int) := by omega
                        clear hp hx2 hx3 hrd hx
                        obtain ⟨xa, xb, xc, xd⟩ := x
                        simp only at hx0 hx1
                        by_cases d1 : xb > yb
                        · have d1b : decide (xb > yb) = true := decide_eq_true d1
                          have HO : Hid (specAt l0 l1 j = false) := Lib.hid (by rw [hat0]; simp [h0, jobBad, d1])
                          clear hat0 c1 c2 c3 hdl
                          ((go_quiet ((go_at_call 96; with_reducible exact Calls.quiet_of (Q3.out _)))))
                          go_wp2_with fail
                          ((go_quiet ((go_at_call 96; with_reducible exact Calls.quiet_of (Q3.out _)))))
                          go_wp2
                          ((go_ret; exact ⟨by rw [all_no HLT.out HO.out]; rfl, by ((repeat (first | (with_reducible first | exact HB.out | apply below_alloc | apply pw_below_drewN | apply below_drew1) | exact HB.out)))⟩))
                        · have d1b : decide (xb > yb) = false := decide_eq_false d1
                          by_cases d2 : xb = yb
                          · have d2b : (xb == yb) = true := by rw [beq_iff_eq]; exact d2
                            by_cases d3 : xa ≥ ya
                            · have d3b : decide (xa ≥ ya) = true := decide_eq_true d3
                              have HO : Hid (specAt l0 l1 j = false) := Lib.hid (by rw [hat0]; simp [h0, jobBad, d2, d3])
                              clear hat0 c1 c2 c3 hdl
                              ((go_quiet ((go_at_call 96; with_reducible exact Calls.quiet_of (Q3.out _)))))
                              go_wp2_with fail
                              ((go_quiet ((go_at_call 96; with_reducible exact Calls.quiet_of (Q3.out _)))))
                              go_wp2
                              ((go_ret; exact ⟨by rw [all_no HLT.out HO.out]; rfl, by ((repeat (first | (with_reducible first | exact HB.out | apply below_alloc | apply pw_below_drewN | apply below_drew1) | exact HB.out)))⟩))
                            · have d3b : decide (xa ≥ ya) = false := decide_eq_false d3
                              have HO : Hid (specAt l0 l1 j = true) := Lib.hid (by rw [hat0]; simp [h0, jobBad, d1, d2, d3])
                              clear hat0 c1 c2 c3 hdl
                              ((go_quiet ((go_at_call 96; with_reducible exact Calls.quiet_of (Q3.out _)))))
                              go_wp2_with fail
                              ((go_quiet ((go_at_call 96; with_reducible exact Calls.quiet_of (Q3.out _)))))
                              go_wp2_with fail
                              ((generalize hw9_ : World.setCell _ _ _ = w9; (have n0_ : Aside0 (Kd.R (Kd.int .i64) 3 w9 w.heap.size (fun _ => True) (.slice (some ⟨gn, 0, none⟩) l0.length cn) (nextL l0 l1 (j + 1))) := ⟨by rw [← hw9_, HNX.out]; first | exact (Kd.R_putg (Kd.R_drewN HN2.out _) _ _).1 | (rw [i64_w]; exact (Kd.R_putg (Kd.R_drewN HN2.out _) _ _).1)⟩); (have n1_ : Aside0 (Below w.heap.size w w9) := ⟨by rw [← hw9_]; exact (pw_below_drewN HB.out _).setCell HGN.out _⟩); clear hw9_ HB HN2; go_roundw; (case rel => exact ⟨j + 1, by go_num, ⟨by omega, upto_step HJJ.out.2 HO.out⟩, n0_, n1_⟩); (case measure => simp [intOf]; omega)))
                          · have d2b : (xb == yb) = false := by rw [beq_eq_false_iff_ne]; exact d2
                            have HO : Hid (specAt l0 l1 j = true) := Lib.hid (by rw [hat0]; simp [h0, jobBad, d1, d2])
                            clear hat0 c1 c2 c3 hdl
                            ((go_quiet ((go_at_call 96; with_reducible exact Calls.quiet_of (Q3.out _)))))
                            go_wp2_with fail
                            ((go_quiet ((go_at_call 96; with_reducible exact Calls.quiet_of (Q3.out _)))))
                            go_wp2_with fail
                            ((generalize hw9_ : World.setCell _ _ _ = w9; (have n0_ : Aside0 (Kd.R (Kd.int .i64) 3 w9 w.heap.size (fun _ => True) (.slice (some ⟨gn, 0, none⟩) l0.length cn) (nextL l0 l1 (j + 1))) := ⟨by rw [← hw9_, HNX.out]; first | exact (Kd.R_putg (Kd.R_drewN HN2.out _) _ _).1 | (rw [i64_w]; exact (Kd.R_putg (Kd.R_drewN HN2.out _) _ _).1)⟩); (have n1_ : Aside0 (Below w.heap.size w w9) := ⟨by rw [← hw9_]; exact (pw_below_drewN HB.out _).setCell HGN.out _⟩); clear hw9_ HB HN2; go_roundw; (case rel => exact ⟨j + 1, by go_num, ⟨by omega, upto_step HJJ.out.2 HO.out⟩, n0_, n1_⟩); (case measure => simp [intOf]; omega)))
                      · have h0b : decide ((j : Int) > 0) = false := decide_eq_false (by omega)
                        have HO : Hid (specAt l0 l1 j = true) := Lib.hid (by rw [hat0]; simp [h0])
                        clear hat0 c1 c2 c3 hdl
                        ((go_quiet ((go_at_call 96; with_reducible exact Calls.quiet_of (Q3.out _)))))
                        go_wp2_with fail
                        ((go_quiet ((go_at_call 96; with_reducible exact Calls.quiet_of (Q3.out _)))))
                        go_wp2_with fail
                        ((generalize hw9_ : World.setCell _ _ _ = w9; (have n0_ : Aside0 (Kd.R (Kd.int .i64) 3 w9 w.heap.size (fun _ => True) (.slice (some ⟨gn, 0, none⟩) l0.length cn) (nextL l0 l1 (j + 1))) := ⟨by rw [← hw9_, HNX.out]; first | exact (Kd.R_putg (Kd.R_drewN HN2.out _) _ _).1 | (rw [i64_w]; exact (Kd.R_putg (Kd.R_drewN HN2.out _) _ _).1)⟩); (have n1_ : Aside0 (Below w.heap.size w w9) := ⟨by rw [← hw9_]; exact (pw_below_drewN HB.out _).setCell HGN.out _⟩); clear hw9_ HB HN2; go_roundw; (case rel => exact ⟨j + 1, by go_num, ⟨by omega, upto_step HJJ.out.2 HO.out⟩, n0_, n1_⟩); (case measure => simp [intOf]; omega)))
                    · have Q3 := Lib.hid (fun W => inqs yd 1 za false (decide_eq_false c3) W)
                      have HO : Hid (specAt l0 l1 j = false) := Lib.hid (by rw [hat0, decide_eq_false c3]; simp)
                      clear hat0 c1 c2 c3 hdl
                      ((go_quiet ((go_at_call 96; with_reducible exact Calls.quiet_of (Q3.out _)))))
                      go_wp2
                      ((go_ret; exact ⟨by rw [all_no HLT.out HO.out]; rfl, by ((repeat (first | (with_reducible first | exact HB.out | apply below_alloc | apply pw_below_drewN | apply below_drew1) | exact HB.out)))⟩))
                  · have c2b : (yc != dl) = true := by rw [bne_iff_ne]; exact c2
                    have HO : Hid (specAt l0 l1 j = false) := Lib.hid (by rw [hat0, decide_eq_false c2]; simp)
                    clear hat0 c1 c2 hdl
                    ((go_quiet ((go_at_call 96; with_reducible exact Calls.quiet_of (Q3.out _)))))
                    go_wp2
                    ((go_ret; exact ⟨by rw [all_no HLT.out HO.out]; rfl, by ((repeat (first | (with_reducible first | exact HB.out | apply below_alloc | apply pw_below_drewN | apply below_drew1) | exact HB.out)))⟩))
              · have Q2 := Lib.hid (fun W => inqs yb 0 119 false (decide_eq_false a2) W)
                have HO : Hid (specAt l0 l1 j = false) := Lib.hid (by unfold specAt; rw [← HY.out]; simp only; rw [decide_eq_false a2]; simp)
                clear a1 a2
                go_wp2_with ((go_at_call 96; (first | (with_reducible refine (Q1.out _).mono ?_) | (with_reducible refine (Q2.out _).mono ?_)); rintro e w2_ ⟨rfl, m_, rfl⟩; (try rw [World.drewN_drewN])))
                ((go_ret; exact ⟨by rw [all_no HLT.out HO.out]; rfl, by ((repeat (first | (with_reducible first | exact HB.out | apply below_alloc | apply pw_below_drewN | apply below_drew1) | exact HB.out)))⟩))
            · have Q1 := Lib.hid (fun W => inqs ya 0 ((l0.length : Int) - 1) false (decide_eq_false a1) W)
              have HO : Hid (specAt l0 l1 j = false) := Lib.hid (by unfold specAt; rw [← HY.out]; simp only; rw [decide_eq_false a1]; simp)
              clear a1
              go_wp2_with ((go_at_call 96; (first | (with_reducible refine (Q1.out _).mono ?_) | (with_reducible refine (Q2.out _).mono ?_)); rintro e w2_ ⟨rfl, m_, rfl⟩; (try rw [World.drewN_drewN])))
              ((go_ret; exact ⟨by rw [all_no HLT.out HO.out]; rfl, by ((repeat (first | (with_reducible first | exact HB.out | apply below_alloc | apply pw_below_drewN | apply below_drew1) | exact HB.out)))⟩))
          · have b1 : decide ((j : Int) < (l1.length : Int)) = false := decide_eq_false (by omega)
            have hje : j = l1.length := by omega
            subst hje
            have HALL := Lib.hid (all_yes HJ.2)
            clear HJ
            go_wp2
            go_ret
            exact ⟨by rw [HALL.out]; rfl, HB.out⟩
      · rw [if_neg hs1] at h; cases h
    · rw [if_neg hl] at h
      obtain rfl := Option.some.inj h
      have b60 : decide ((l1.length : Int) > 60) = true := decide_eq_true (by omega)
      clear hr0 hc0 hr1 hc1 hb h
      go_enter Try.func34, Try.ntmps34
      go_wp2_with (go_at_call 95; refine HSV.out.mono ?_; rintro e w2 ⟨rfl, hb2⟩)
      go_ret
      exact ⟨rfl, hb2⟩



/-! ### spec_l6Best: function 134 (given) -/
open Go.Proofs.Ytonifhkplniblaa.Walk
/-- A job that is released and, by its count, not at its end. -/
def okN (jobs : List (S67)) (done : List Int) (now : Int) (i : Nat) : Bool := !decide ((jobs.getD i z67).f1 > now) && !(done.getD i 0 == (jobs.getD i z67).f3)
def okS (jobs : List (S67)) (done : List Int) (now : Int) (i : Nat) : Bool := okN jobs done now i && decide (done.getD i 0 > 0)
def dlK (jobs : List (S67)) (i : Nat) : Int := (jobs.getD i z67).f2
/-- The reference's pick. -/
def l6V (set : List (S62)) (jobs : List (S67)) (done : List Int) (ceil now : Int) : Int :=
  if 0 ≤ bestN (okN jobs done now) (dlK jobs) jobs.length then
    if done.getD (bestN (okN jobs done now) (dlK jobs) jobs.length).toNat 0 = 0 then
      if decide ((rd_T62 set (jobs.getD (bestN (okN jobs done now) (dlK jobs) jobs.length).toNat z67).f0).f1 ≥ ceil) = true then bestN (okS jobs done now) (dlK jobs) jobs.length
      else bestN (okN jobs done now) (dlK jobs) jobs.length
    else bestN (okN jobs done now) (dlK jobs) jobs.length
  else bestN (okN jobs done now) (dlK jobs) jobs.length
set_option maxHeartbeats 4000000 in
set_option maxRecDepth 100000 in
theorem l6Best_calls (A0 : Option Addr) (c0 : Nat) (set : List (S62)) (A1 : Option Addr) (c1 : Nat) (jobs : List (S67)) (A2 : Option Addr) (c2 : Nat) (done : List Int) (ceil now : Int) (w : World) (hr0 : Kd.C k62 w A0 set.length set) (hr1 : Kd.C k67 w A1 jobs.length jobs) (hr2 : Kd.C (Kd.int .i64) w A2 done.length done)
    (hl : done.length = jobs.length) (h60 : jobs.length ≤ 60) (hin : ∀ i, i < jobs.length → 0 ≤ (jobs.getD i z67).f0 ∧ (jobs.getD i z67).f0 < set.length) :
    Calls Try.prog 134 #[.slice A0 set.length c0, .slice A1 jobs.length c1, .slice A2 jobs.length c2, .int .i64 ceil, .int .i64 now] w fun e w' => e = .returned (.int .i64 (l6V set jobs done ceil now)) ∧ Below w.heap.size w w' := by
  have hu := Try.underlying67
  have HR0 := Aside0.mk hr0
  have HR1 := Aside0.mk hr1
  have HR2 := Aside0.mk hr2
  have HIN := Aside0.mk hin
  have HB := Aside0.mk (Below.refl w.heap.size w)
  clear hr0 hr1 hr2 hin
  go_enter Try.func134, Try.ntmps134
  go_wp2_with fail
  go_loopw [11, 12, 13] (fun v11 v12 v13 w' => ∃ j : Nat, v13 = .int .i64 j ∧ j ≤ jobs.length ∧ v11 = .int .i64 (bestN (okN jobs done now) (dlK jobs) j) ∧ v12 = .int .i64 (bestN (okS jobs done now) (dlK jobs) j) ∧ Aside0 (Below w.heap.size w w')) (fun v11 v12 v13 _ => jobs.length - (intOf v13).toNat)
  case atStart => exact ⟨0, rfl, Nat.zero_le _, rfl, rfl, HB⟩
  case round =>
    clear HB
    obtain ⟨j, rfl, hj, rfl, rfl, HB⟩ := hrel
    have hb1 := bestN_in (okN jobs done now) (dlK jobs) j
    have hs1 := bestN_in (okS jobs done now) (dlK jobs) j
    by_cases hlt : j < jobs.length
    · have b1 : decide ((j : Int) < (jobs.length : Int)) = true := decide_eq_true (by omega)
      obtain ⟨ad0, e0, hy0, hy1, hy2, hy3⟩ := at_T67 (Kd.C_below HR1.out HB.out) (j : Int) (by omega) (by omega)
      cases e0
      simp only [Int.toNat_natCast] at hy0 hy1 hy2 hy3
      have hrd : rd_T67 jobs (j : Int) = jobs.getD j z67 := rfl
      rw [hrd] at hy0 hy1 hy2 hy3
      have hnb : bestN (okN jobs done now) (dlK jobs) (j + 1) = if okN jobs done now j && (decide (bestN (okN jobs done now) (dlK jobs) j < 0) || decide ((jobs.getD j z67).f2 < (jobs.getD (bestN (okN jobs done now) (dlK jobs) j).toNat z67).f2)) then (j : Int) else bestN (okN jobs done now) (dlK jobs) j := rfl
      have hns : bestN (okS jobs done now) (dlK jobs) (j + 1) = if (okN jobs done now j && decide (done.getD j 0 > 0)) && (decide (bestN (okS jobs done now) (dlK jobs) j < 0) || decide ((jobs.getD j z67).f2 < (jobs.getD (bestN (okS jobs done now) (dlK jobs) j).toNat z67).f2)) then (j : Int) else bestN (okS jobs done now) (dlK jobs) j := rfl
      have hok : okN jobs done now j = (!decide ((jobs.getD j z67).f1 > now) && !(done.getD j 0 == (jobs.getD j z67).f3)) := rfl
      rw [hok] at hnb hns
      obtain ⟨b, hbe⟩ : ∃ b, b = bestN (okN jobs done now) (dlK jobs) j := ⟨_, rfl⟩
      obtain ⟨s, hse⟩ : ∃ s, s = bestN (okS jobs done now) (dlK jobs) j := ⟨_, rfl⟩
      rw [← hbe] at hb1 hnb
      rw [← hse] at hs1 hns
      rw [← hbe, ← hse]
      obtain ⟨y, hy⟩ : ∃ y, y = jobs.getD j z67 := ⟨_, rfl⟩
      rw [← hy] at hy0 hy1 hy2 hy3 hnb hns
      obtain ⟨ya, yb, yc, yd⟩ := y
      simp only at hy0 hy1 hy2 hy3 hnb hns
      have q0 : 0 ≤ (j : Int) := by omega
      have q1 : (j : Int) < (jobs.length : Int) := by omega
      clear hok hy hrd hbe hse
      go_wp2_with fail
      generalize hw3 : World.alloc wr _ = w3
      have hB3 : Below wr.heap.size wr w3 := by rw [← hw3]; exact below_alloc (Below.refl _ _) _
      have BS : w3.heap[wr.heap.size]? = some (.cells #[.int .i64 ya, .int .i64 yb, .int .i64 yc, .int .i64 yd] 67 (0, 0)) := by rw [← hw3]; exact blk_new wr _
      have ha1 : w3.cell? ⟨wr.heap.size, 1, none⟩ = some (.int .i64 yb) := (blk_cell BS 1).trans rfl
      have ha2 : w3.cell? ⟨wr.heap.size, 2, none⟩ = some (.int .i64 yc) := (blk_cell BS 2).trans rfl
      have ha3 : w3.cell? ⟨wr.heap.size, 3, none⟩ = some (.int .i64 yd) := (blk_cell BS 3).trans rfl
      have hBB := below_step HB.out hB3
      obtain ⟨ad1, e1, hd⟩ := Kd.at_int (Kd.C_below HR2.out hBB) (j : Int) (by omega) (by omega)
      cases e1
      simp only [Int.toNat_natCast] at hd
      have hrd1 : rd done (j : Int) = done.getD j 0 := rfl
      rw [hrd1] at hd
      obtain ⟨d, hde⟩ : ∃ d, d = done.getD j 0 := ⟨_, rfl⟩
      rw [← hde] at hd hnb hns
      have HB1 := Aside0.mk hBB
      have HJ3 := Aside0.mk (Kd.C_below HR1.out hBB)
      clear hw3 hB3 BS hBB hrd1 hde HB hy0 hy1 hy2 hy3
      have HB := HB1
      clear HB1
      by_cases k1 : yb > now
      · have k1b : decide (yb > now) = true := decide_eq_true k1
        have HNB : Hid (bestN (okN jobs done now) (dlK jobs) (j + 1) = b) := Lib.hid (by rw [hnb, k1b]; rfl)
        have HNS : Hid (bestN (okS jobs done now) (dlK jobs) (j + 1) = s) := Lib.hid (by rw [hns, k1b]; rfl)
        clear hnb hns k1
        go_quiet (fail)
        go_wp2_with fail
        ((go_roundw; (case rel => exact ⟨j + 1, by go_num, by omega, by rw [HNB.out], by rw [HNS.out], ⟨by repeat (first | (with_reducible first | exact HB.out | apply pw_below_drewN) | exact HB.out)⟩⟩); (case measure => simp [intOf]; omega)))
      · have k1b : decide (yb > now) = false := decide_eq_false k1
        by_cases k2 : d = yd
        · have k2b : (d == yd) = true := by rw [beq_iff_eq]; exact k2
          have HNB : Hid (bestN (okN jobs done now) (dlK jobs) (j + 1) = b) := Lib.hid (by rw [hnb, k1b, k2b]; rfl)
          have HNS : Hid (bestN (okS jobs done now) (dlK jobs) (j + 1) = s) := Lib.hid (by rw [hns, k1b, k2b]; rfl)
          clear hnb hns k1 k2
          go_quiet (fail)
          go_wp2_with fail
          ((go_roundw; (case rel => exact ⟨j + 1, by go_num, by omega, by rw [HNB.out], by rw [HNS.out], ⟨by repeat (first | (with_reducible first | exact HB.out | apply pw_below_drewN) | exact HB.out)⟩⟩); (case measure => simp [intOf]; omega)))
        · have k2b : (d == yd) = false := by rw [beq_eq_false_iff_ne]; exact k2
          rw [k1b, k2b] at hnb hns
          clear k1 k2
          have hB3 : (∃ x2, decide (b < 0) = true ∧ bestN (okN jobs done now) (dlK jobs) (j + 1) = (j : Int) ∧ x2 = (0 : Int)) ∨ (∃ x2 : Int, decide (b < 0) = false ∧ 0 ≤ b ∧ b < (jobs.length : Int) ∧ w3.cell? ⟨(ad0.add (b.toNat * 4)).block, (ad0.add (b.toNat * 4)).off + 2, none⟩ = some (.int .i64 x2) ∧ ((decide (yc < x2) = true ∧ bestN (okN jobs done now) (dlK jobs) (j + 1) = (j : Int)) ∨ (decide (yc < x2) = false ∧ bestN (okN jobs done now) (dlK jobs) (j + 1) = b))) := by
            by_cases h0 : b < 0
            · exact .inl ⟨0, decide_eq_true h0, by rw [hnb, decide_eq_true h0]; rfl, rfl⟩
            · obtain ⟨adb, eb, _, _, hz2, _⟩ := at_T67 HJ3.out b (by omega) (by omega)
              cases eb
              refine .inr ⟨_, decide_eq_false h0, by omega, by omega, hz2, ?_⟩
              by_cases h1 : yc < (rd_T67 jobs b).f2
              · refine .inl ⟨decide_eq_true h1, ?_⟩
                rw [hnb, decide_eq_false h0, show decide (yc < (jobs.getD b.toNat z67).f2) = true from decide_eq_true h1]; rfl
              · refine .inr ⟨decide_eq_false h1, ?_⟩
                rw [hnb, decide_eq_false h0, show decide (yc < (jobs.getD b.toNat z67).f2) = false from decide_eq_false h1]; rfl
          have hS3 : (decide (d > 0) = false ∧ bestN (okS jobs done now) (dlK jobs) (j + 1) = s) ∨ (decide (d > 0) = true ∧ ((decide (s < 0) = true ∧ bestN (okS jobs done now) (dlK jobs) (j + 1) = (j : Int)) ∨ (∃ x2 : Int, decide (s < 0) = false ∧ 0 ≤ s ∧ s < (jobs.length : Int) ∧ w3.cell? ⟨(ad0.add (s.toNat * 4)).block, (ad0.add (s.toNat * 4)).off + 2, none⟩ = some (.int .i64 x2) ∧ ((decide (yc < x2) = true ∧ bestN (okS jobs done now) (dlK jobs) (j + 1) = (j : Int)) ∨ (decide (yc < x2) = false ∧ bestN (okS jobs done now) (dlK jobs) (j + 1) = s))))) := by
            by_cases hd0 : d > 0
            · refine .inr ⟨decide_eq_true hd0, ?_⟩
              rw [decide_eq_true hd0] at hns
              by_cases h0 : s < 0
              · exact .inl ⟨decide_eq_true h0, by rw [hns, decide_eq_true h0]; rfl⟩
              · obtain ⟨adb, eb, _, _, hz2, _⟩ := at_T67 HJ3.out s (by omega) (by omega)
                cases eb
                refine .inr ⟨_, decide_eq_false h0, by omega, by omega, hz2, ?_⟩
                by_cases h1 : yc < (rd_T67 jobs s).f2
                · refine .inl ⟨decide_eq_true h1, ?_⟩
                  rw [hns, decide_eq_false h0, show decide (yc < (jobs.getD s.toNat z67).f2) = true from decide_eq_true h1]; rfl
                · refine .inr ⟨decide_eq_false h1, ?_⟩
                  rw [hns, decide_eq_false h0, show decide (yc < (jobs.getD s.toNat z67).f2) = false from decide_eq_false h1]; rfl
            · exact .inl ⟨decide_eq_false hd0, by rw [hns, decide_eq_false hd0]; rfl⟩
          clear hnb hns hb1 hs1
          rcases hB3 with ⟨_, g1, gn, _⟩ | ⟨x2, g1, g2, g3, g4, ⟨g5, gn⟩ | ⟨g5, gn⟩⟩ <;> (have HNB := Lib.hid gn) <;> clear gn <;> (rcases hS3 with ⟨f1, fn⟩ | ⟨f1, ⟨f2, fn⟩ | ⟨x3, f2, f3, f4, f5, ⟨f6, fn⟩ | ⟨f6, fn⟩⟩⟩) <;> (have HNS := Lib.hid fn) <;> clear fn <;> ((go_wp2_with fail; go_quiet (fail); go_wp2_with fail; go_quiet (fail); go_wp2_with fail; go_quiet (fail); go_wp2_with fail; ((go_roundw; (case rel => exact ⟨j + 1, by go_num, by omega, by rw [HNB.out], by rw [HNS.out], ⟨by repeat (first | (with_reducible first | exact HB.out | apply pw_below_drewN) | exact HB.out)⟩⟩); (case measure => simp [intOf]; omega)))))
    · have b1 : decide ((j : Int) < (jobs.length : Int)) = false := decide_eq_false (by omega)
      have hje : j = jobs.length := by omega
      subst hje
      have hv : l6V set jobs done ceil now = if 0 ≤ bestN (okN jobs done now) (dlK jobs) jobs.length then if done.getD (bestN (okN jobs done now) (dlK jobs) jobs.length).toNat 0 = 0 then if decide ((rd_T62 set (jobs.getD (bestN (okN jobs done now) (dlK jobs) jobs.length).toNat z67).f0).f1 ≥ ceil) = true then bestN (okS jobs done now) (dlK jobs) jobs.length else bestN (okN jobs done now) (dlK jobs) jobs.length else bestN (okN jobs done now) (dlK jobs) jobs.length else bestN (okN jobs done now) (dlK jobs) jobs.length := rfl
      obtain ⟨b, hbe⟩ : ∃ b, b = bestN (okN jobs done now) (dlK jobs) jobs.length := ⟨_, rfl⟩
      obtain ⟨s, hse⟩ : ∃ s, s = bestN (okS jobs done now) (dlK jobs) jobs.length := ⟨_, rfl⟩
      rw [← hbe] at hb1 hv
      rw [← hse] at hs1 hv
      rw [← hbe, ← hse]
      clear hbe hse
      by_cases h0 : 0 ≤ b
      · have h0b : decide (b ≥ 0) = true := decide_eq_true h0
        rw [if_pos h0] at hv
        obtain ⟨n, rfl⟩ : ∃ n : Nat, b = (n : Int) := ⟨b.toNat, by omega⟩
        rw [Int.toNat_natCast] at hv
        obtain ⟨ad1, e1, hd⟩ := Kd.at_int (Kd.C_below HR2.out HB.out) (n : Int) (by omega) (by omega)
        cases e1
        simp only [Int.toNat_natCast] at hd
        have hrd1 : rd done (n : Int) = done.getD n 0 := rfl
        rw [hrd1] at hd
        obtain ⟨d, hde⟩ : ∃ d, d = done.getD n 0 := ⟨_, rfl⟩
        rw [← hde] at hd hv
        have p0 : 0 ≤ (n : Int) := by omega
        have p1 : (n : Int) < (jobs.length : Int) := by omega
        clear hde hrd1
        by_cases h2 : d = 0
        · have h2b : (d == 0) = true := by rw [beq_iff_eq]; exact h2
          rw [if_pos h2] at hv
          have hid := HIN.out n (by omega)
          obtain ⟨ad0, e0, hy0, _, _, _⟩ := at_T67 (Kd.C_below HR1.out HB.out) (n : Int) (by omega) (by omega)
          cases e0
          simp only [Int.toNat_natCast] at hy0
          have hrd : rd_T67 jobs (n : Int) = jobs.getD n z67 := rfl
          rw [hrd] at hy0
          obtain ⟨ya, hya⟩ : ∃ ya, ya = (jobs.getD n z67).f0 := ⟨_, rfl⟩
          rw [← hya] at hy0 hid hv
          obtain ⟨ade, ee, _, hw1, _⟩ := at_T62 (Kd.C_below HR0.out HB.out) ya hid.1 hid.2
          cases ee
          obtain ⟨dd, hdd⟩ : ∃ dd, dd = (rd_T62 set ya).f1 := ⟨_, rfl⟩
          rw [← hdd] at hw1 hv
          have p3 := hid.1
          have p4 := hid.2
          clear hya hrd hdd hid
          by_cases h5 : dd ≥ ceil
          · have h5b : decide (dd ≥ ceil) = true := decide_eq_true h5
            rw [if_pos h5b] at hv
            have HV := Lib.hid hv
            clear hv h5 h2 hb1 hs1
            go_wp2
            go_ret
            exact ⟨by rw [HV.out]; rfl, HB.out⟩
          · have h5b : decide (dd ≥ ceil) = false := decide_eq_false h5
            rw [if_neg (by rw [h5b]; decide)] at hv
            have HV := Lib.hid hv
            clear hv h5 h2 hb1 hs1
            go_wp2
            go_ret
            exact ⟨by rw [HV.out]; rfl, HB.out⟩
        · have h2b : (d == 0) = false := by rw [beq_eq_false_iff_ne]; exact h2
          rw [if_neg h2] at hv
          have HV := Lib.hid hv
          clear hv h2 hb1 hs1
          go_wp2
          go_ret
          exact ⟨by rw [HV.out]; rfl, HB.out⟩
      · have h0b : decide (b ≥ 0) = false := decide_eq_false (by omega)
        rw [if_neg h0] at hv
        have HV := Lib.hid hv
        clear hv h0 hb1 hs1
        go_wp2
        go_ret
        exact ⟨by rw [HV.out]; rfl, HB.out⟩
def jobIds (n : Nat) (jobs : List (S67)) : Bool := jobs.all (fun x => decide (0 ≤ x.f0) && decide (x.f0 < n))
def spec_l6Best.f (l0 : List (S62)) (l1 : List (S67)) (l2 : List Int) (a3 : Int) (a4 : Int) : Option Int := if l2.length = l1.length then (if l1.length ≤ 60 then (if jobIds l0.length l1 = true then some (l6V l0 l1 l2 a3 a4) else none) else none) else none
theorem jobIds_in {n : Nat} {jobs : List (S67)} (h : jobIds n jobs = true) (i : Nat) (hi : i < jobs.length) : 0 ≤ (jobs.getD i z67).f0 ∧ (jobs.getD i z67).f0 < n := by
  unfold jobIds at h
  rw [List.all_eq_true] at h
  have := h (jobs.getD i z67) (by rw [List.getD_eq_getElem?_getD, List.getElem?_eq_getElem hi]; exact List.getElem_mem _)
  rw [Bool.and_eq_true, decide_eq_true_eq, decide_eq_true_eq] at this
  exact this
theorem spec_l6Best.calls (A0 : Option Addr) (c0 : Nat) (l0 : List (S62)) (A1 : Option Addr) (c1 : Nat) (l1 : List (S67)) (A2 : Option Addr) (c2 : Nat) (l2 : List Int) (a3 : Int) (a4 : Int) (r : Int) (w : World) (hr0 : Kd.C k62 w A0 l0.length l0) (hc0 : l0.length ≤ c0) (hr1 : Kd.C k67 w A1 l1.length l1) (hc1 : l1.length ≤ c1) (hr2 : Kd.C (Kd.int .i64) w A2 l2.length l2) (hc2 : l2.length ≤ c2) (h : spec_l6Best.f l0 l1 l2 a3 a4 = some r) :
    Calls Try.prog 134 #[.slice A0 l0.length c0, .slice A1 l1.length c1, .slice A2 l2.length c2, .int .i64 a3, .int .i64 a4] w fun e w' => e = .returned (.int .i64 r) ∧ Below w.heap.size w w' := by
  unfold spec_l6Best.f at h
  split at h
  · rename_i h1
    split at h
    · rename_i h2
      split at h
      · rename_i h3
        obtain rfl := Option.some.inj h
        rw [h1]
        exact l6Best_calls A0 c0 l0 A1 c1 l1 A2 c2 l2 a3 a4 w hr0 hr1 hr2 h1 h2 (jobIds_in h3)
      · cases h
    · cases h
  · cases h



/-! ### spec_l6Ceiling: function 166 -/
def spec_l6Ceiling.l0 : Nat → List (S62) → List (S64) → Int → Int → Int → Option (Int)
  | 0, _, _, _, _, _ => none
  | k + 1, x0, x1, x2, x7, x8 => if x8 < (x0.length : Int) then (if 0 ≤ x8 then (if x8 < (x1.length : Int) then (if ((rd_T64 x1 x8).f1) > 0 then (if ((rd_T64 x1 x8).f2) = x2 then (spec_l6Ceiling.l0 k x0 x1 x2 (mn x7 ((rd_T62 x0 x8).f1)) (wrap64 (x8 + 1))) else (spec_l6Ceiling.l0 k x0 x1 x2 x7 (wrap64 (x8 + 1)))) else (spec_l6Ceiling.l0 k x0 x1 x2 x7 (wrap64 (x8 + 1)))) else (none)) else (none)) else (some x7)
def spec_l6Ceiling.f (k : Nat) (l0 : List (S62)) (l1 : List (S64)) (a2 : Int) : Option (Int) := spec_l6Ceiling.l0 k l0 l1 a2 13 0
theorem spec_l6Ceiling.mono_l : ∀ k, (∀ y0 y1 y2 y3 y4, LeO (spec_l6Ceiling.l0 k y0 y1 y2 y3 y4) (spec_l6Ceiling.l0 (k + 1) y0 y1 y2 y3 y4))
  | 0 => fun _ _ _ _ _ r h => by simp [spec_l6Ceiling.l0] at h
  | k + 1 => by
    have ih0 := spec_l6Ceiling.mono_l k
    · intro y0 y1 y2 y3 y4
      unfold spec_l6Ceiling.l0
      repeat' first
      | (with_reducible exact ih0 _ _ _ _ _)
      | (with_reducible exact LeO.refl _)
      | (with_reducible exact LeO.none _)
      | (with_reducible refine LeO.ite ?_ ?_)
      | (with_reducible refine LeO.bind ?_ (fun _ => ?_))
      | exact ih0 _ _ _ _ _
      | exact LeO.none _
      | refine LeO.ite ?_ ?_
      | refine LeO.bind ?_ (fun _ => ?_)
theorem spec_l6Ceiling.mono : ∀ a0 a1 a2 k, LeO (spec_l6Ceiling.f k a0 a1 a2) (spec_l6Ceiling.f (k + 1) a0 a1 a2) := by
  intro a0 a1 a2 k
  have ih0 := spec_l6Ceiling.mono_l k
  unfold spec_l6Ceiling.f
  repeat' first
      | (with_reducible exact ih0 _ _ _ _ _)
      | (with_reducible exact LeO.refl _)
      | (with_reducible exact LeO.none _)
      | (with_reducible refine LeO.ite ?_ ?_)
      | (with_reducible refine LeO.bind ?_ (fun _ => ?_))
      | exact ih0 _ _ _ _ _
      | exact LeO.none _
      | refine LeO.ite ?_ ?_
      | refine LeO.bind ?_ (fun _ => ?_)
set_option maxHeartbeats 8000000 in
set_option maxRecDepth 100000 in
theorem spec_l6Ceiling.calls (k : Nat) (A0 : Option Addr) (c0 : Nat) (l0 : List (S62)) (A1 : Option Addr) (c1 : Nat) (l1 : List (S64)) (a2 : Int) (r : Int) (w : World) (hr0 : Kd.C k62 w A0 l0.length l0) (hc0 : l0.length ≤ c0) (hr1 : Kd.C k64 w A1 l1.length l1) (hc1 : l1.length ≤ c1) (h : spec_l6Ceiling.f k l0 l1 a2 = some r) :
    Calls Try.prog 166 #[.slice A0 l0.length c0, .slice A1 l1.length c1, .int .i64 a2] w fun e w' => e = .returned (.int .i64 r) ∧ Below w.heap.size w w' := by
  have HR0 := Aside0.mk hr0
  have HC0 := Aside0.mk hc0
  clear hr0 hc0
  have HR1 := Aside0.mk hr1
  have HC1 := Aside0.mk hc1
  clear hr1 hc1
  have HB := Aside0.mk (Below.refl w.heap.size w)
  have H : (spec_l6Ceiling.l0 k l0 l1 a2 13 0) = some r := h
  clear h
  have H' := Aside0.mk H
  clear H
  go_enter Try.func166, Try.ntmps166
  go_wp2
  go_loopg [7, 8] k (fun kq v7 v8 w' => ∃ (x7_1 : Int) (x8_1 : Int), v7 = .int .i64 x7_1 ∧ v8 = .int .i64 x8_1 ∧ Aside0 (spec_l6Ceiling.l0 kq l0 l1 a2 x7_1 x8_1 = some r) ∧ Aside0 (kq ≤ k) ∧ Aside0 (Below w.heap.size w w'))
  case atStart => exact ⟨(13), (0), (by first | rfl | (simp; done) | (simp [*]; done) | (simp only [i64_w, i32_w]; done) | (simp [*, i64_w, i32_w]; done)), (by first | rfl | (simp; done) | (simp [*]; done) | (simp only [i64_w, i32_w]; done) | (simp [*, i64_w, i32_w]; done)), H', ⟨Nat.le_refl _⟩, ⟨by repeat (first | (with_reducible first | exact HB.out | apply below_alloc | apply pw_below_drewN | apply below_drew1) | exact HB.out)⟩⟩
  case round =>
    clear H'
    try clear c1
    try clear p2
    obtain ⟨x7_1, x8_1, rfl, rfl, HA, HK1, HB⟩ := hrel
    cases gk with
    | zero => exact absurd HA.out (by simp [spec_l6Ceiling.l0])
    | succ k1 =>
      have H := HA.out
      clear HA
      simp only [spec_l6Ceiling.l0] at H
      by_cases c4 : x8_1 < (l0.length : Int)
      · rw [if_pos c4] at H
        have c4b0 : decide (x8_1 < (l0.length : Int)) = true := decide_eq_true c4
        clear c4
        by_cases c5 : 0 ≤ x8_1
        · rw [if_pos c5] at H
          have c5b0 : decide (0 ≤ x8_1) = true := decide_eq_true c5
          clear c5
          by_cases c6 : x8_1 < (l1.length : Int)
          · rw [if_pos c6] at H
            have c6b0 : decide (x8_1 < (l1.length : Int)) = true := decide_eq_true c6
            clear c6
            by_cases c7 : ((rd_T64 l1 x8_1).f1) > 0
            · rw [if_pos c7] at H
              have c7b0 : decide (0 < ((rd_T64 l1 x8_1).f1)) = true := decide_eq_true c7
              clear c7
              by_cases c8 : ((rd_T64 l1 x8_1).f2) = a2
              · rw [if_pos c8] at H
                have c8b0 : (((rd_T64 l1 x8_1).f2) == a2) = true := beq_iff_eq.mpr c8
                have c8b1 : (((rd_T64 l1 x8_1).f2) != a2) = false := bne_eq_false_iff_eq.mpr c8
                clear c8
                obtain ⟨ji9, hji9⟩ : ∃ j_ : Int, (mn x7_1 ((rd_T62 l0 x8_1).f1)) = j_ := ⟨_, rfl⟩
                replace H : (spec_l6Ceiling.l0 k1 l0 l1 a2 ji9 (wrap64 (x8_1 + 1))) = some r := by first | (rw [hji9] at H; exact H) | (simp only [hji9] at H ⊢; exact H)
                have hji9_ : (if ((rd_T62 l0 x8_1).f1) < x7_1 then ((rd_T62 l0 x8_1).f1) else x7_1) = ji9 := hji9
                have H' := Aside0.mk H
                clear H
                have p101 : 0 ≤ (x8_1 : Int) := of_decide_eq_true (by first | (with_reducible assumption) | assumption)
                have q101 : x8_1 < (l1.length : Int) := of_decide_eq_true (by first | (with_reducible assumption) | assumption)
                obtain ⟨ad101, e101, hx101_0, hx101_1, hx101_2⟩ := at_T64 HR1.out x8_1 p101 q101
                cases e101
                replace hx101_0 := (HB.out.cell (World.block_lt_of_cell? w _ hx101_0)).trans hx101_0
                replace hx101_1 := (HB.out.cell (World.block_lt_of_cell? w _ hx101_1)).trans hx101_1
                replace hx101_2 := (HB.out.cell (World.block_lt_of_cell? w _ hx101_2)).trans hx101_2
                replace p101 := eq_true p101
                replace q101 := eq_true q101
                have p102 : 0 ≤ (x8_1 : Int) := of_decide_eq_true (by first | (with_reducible assumption) | assumption)
                have q102 : x8_1 < (l1.length : Int) := of_decide_eq_true (by first | (with_reducible assumption) | assumption)
                obtain ⟨ad102, e102, hx102_0, hx102_1, hx102_2⟩ := at_T64 HR1.out x8_1 p102 q102
                obtain rfl : ad101 = ad102 := (by injection e102)
                replace hx102_0 := (HB.out.cell (World.block_lt_of_cell? w _ hx102_0)).trans hx102_0
                replace hx102_1 := (HB.out.cell (World.block_lt_of_cell? w _ hx102_1)).trans hx102_1
                replace hx102_2 := (HB.out.cell (World.block_lt_of_cell? w _ hx102_2)).trans hx102_2
                replace p102 := eq_true p102
                replace q102 := eq_true q102
                have p103 : 0 ≤ (x8_1 : Int) := of_decide_eq_true (by first | (with_reducible assumption) | assumption)
                have q103 : x8_1 < (l0.length : Int) := of_decide_eq_true (by first | (with_reducible assumption) | assumption)
                obtain ⟨ad103, e103, hx103_0, hx103_1, hx103_2⟩ := at_T62 HR0.out x8_1 p103 q103
                cases e103
                replace hx103_0 := (HB.out.cell (World.block_lt_of_cell? w _ hx103_0)).trans hx103_0
                replace hx103_1 := (HB.out.cell (World.block_lt_of_cell? w _ hx103_1)).trans hx103_1
                replace hx103_2 := (HB.out.cell (World.block_lt_of_cell? w _ hx103_2)).trans hx103_2
                replace p103 := eq_true p103
                replace q103 := eq_true q103
                go_wp2
                go_roundg k1
                case measure => have := HK1.out; omega
                case rel => exact ⟨(ji9), (wrap64 (x8_1 + 1)), (by first | rfl | (simp; done) | (simp only [← hji9] <;> (first | rfl | simp)) | (simp [*]; done) | (simp only [i64_w, i32_w]; done) | (simp [*, i64_w, i32_w]; done)), (by first | rfl | (simp; done) | (simp [*]; done) | (simp only [i64_w, i32_w]; done) | (simp [*, i64_w, i32_w]; done)), H', ⟨by have := HK1.out; omega⟩, ⟨by repeat (first | (with_reducible first | exact HB.out | apply below_alloc | apply pw_below_drewN | apply below_drew1) | exact HB.out)⟩⟩
              · rw [if_neg c8] at H
                have c8b0 : (((rd_T64 l1 x8_1).f2) == a2) = false := beq_eq_false_iff_ne.mpr c8
                have c8b1 : (((rd_T64 l1 x8_1).f2) != a2) = true := bne_iff_ne.mpr c8
                have H' := Aside0.mk H
                clear H
                have p101 : 0 ≤ (x8_1 : Int) := of_decide_eq_true (by first | (with_reducible assumption) | assumption)
                have q101 : x8_1 < (l1.length : Int) := of_decide_eq_true (by first | (with_reducible assumption) | assumption)
                obtain ⟨ad101, e101, hx101_0, hx101_1, hx101_2⟩ := at_T64 HR1.out x8_1 p101 q101
                cases e101
                replace hx101_0 := (HB.out.cell (World.block_lt_of_cell? w _ hx101_0)).trans hx101_0
                replace hx101_1 := (HB.out.cell (World.block_lt_of_cell? w _ hx101_1)).trans hx101_1
                replace hx101_2 := (HB.out.cell (World.block_lt_of_cell? w _ hx101_2)).trans hx101_2
                replace p101 := eq_true p101
                replace q101 := eq_true q101
                have p102 : 0 ≤ (x8_1 : Int) := of_decide_eq_true (by first | (with_reducible assumption) | assumption)
                have q102 : x8_1 < (l1.length : Int) := of_decide_eq_true (by first | (with_reducible assumption) | assumption)
                obtain ⟨ad102, e102, hx102_0, hx102_1, hx102_2⟩ := at_T64 HR1.out x8_1 p102 q102
                obtain rfl : ad101 = ad102 := (by injection e102)
                replace hx102_0 := (HB.out.cell (World.block_lt_of_cell? w _ hx102_0)).trans hx102_0
                replace hx102_1 := (HB.out.cell (World.block_lt_of_cell? w _ hx102_1)).trans hx102_1
                replace hx102_2 := (HB.out.cell (World.block_lt_of_cell? w _ hx102_2)).trans hx102_2
                replace p102 := eq_true p102
                replace q102 := eq_true q102
                go_wp2
                go_roundg k1
                case measure => have := HK1.out; omega
                case rel => exact ⟨(x7_1), (wrap64 (x8_1 + 1)), (by first | rfl | (simp; done) | (simp [*]; done) | (simp only [i64_w, i32_w]; done) | (simp [*, i64_w, i32_w]; done)), (by first | rfl | (simp; done) | (simp [*]; done) | (simp only [i64_w, i32_w]; done) | (simp [*, i64_w, i32_w]; done)), H', ⟨by have := HK1.out; omega⟩, ⟨by repeat (first | (with_reducible first | exact HB.out | apply below_alloc | apply pw_below_drewN | apply below_drew1) | exact HB.out)⟩⟩
            · rw [if_neg c7] at H
              have c7b0 : decide (0 < ((rd_T64 l1 x8_1).f1)) = false := decide_eq_false c7
              clear c7
              have H' := Aside0.mk H
              clear H
              have p101 : 0 ≤ (x8_1 : Int) := of_decide_eq_true (by first | (with_reducible assumption) | assumption)
              have q101 : x8_1 < (l1.length : Int) := of_decide_eq_true (by first | (with_reducible assumption) | assumption)
              obtain ⟨ad101, e101, hx101_0, hx101_1, hx101_2⟩ := at_T64 HR1.out x8_1 p101 q101
              cases e101
              replace hx101_0 := (HB.out.cell (World.block_lt_of_cell? w _ hx101_0)).trans hx101_0
              replace hx101_1 := (HB.out.cell (World.block_lt_of_cell? w _ hx101_1)).trans hx101_1
              replace hx101_2 := (HB.out.cell (World.block_lt_of_cell? w _ hx101_2)).trans hx101_2
              replace p101 := eq_true p101
              replace q101 := eq_true q101
              go_wp2
              go_roundg k1
              case measure => have := HK1.out; omega
              case rel => exact ⟨(x7_1), (wrap64 (x8_1 + 1)), (by first | rfl | (simp; done) | (simp [*]; done) | (simp only [i64_w, i32_w]; done) | (simp [*, i64_w, i32_w]; done)), (by first | rfl | (simp; done) | (simp [*]; done) | (simp only [i64_w, i32_w]; done) | (simp [*, i64_w, i32_w]; done)), H', ⟨by have := HK1.out; omega⟩, ⟨by repeat (first | (with_reducible first | exact HB.out | apply below_alloc | apply pw_below_drewN | apply below_drew1) | exact HB.out)⟩⟩
          · rw [if_neg c6] at H
            exact absurd H (by simp)
        · rw [if_neg c5] at H
          exact absurd H (by simp)
      · rw [if_neg c4] at H
        have c4b0 : decide (x8_1 < (l0.length : Int)) = false := decide_eq_false c4
        clear c4
        obtain rfl := Option.some.inj H
        go_wp2
        go_ret
        exact ⟨by first | rfl | (simp [errW_none, errW_some] <;> rfl) | (simp [*, errW_none, errW_some] <;> rfl), by repeat (first | (with_reducible first | exact HB.out | apply below_alloc | apply pw_below_drewN | apply below_drew1) | exact HB.out)⟩



/-! ### spec_l6Held: function 165 -/
def spec_l6Held.f (a0_0 : Int) (a0_1 : Int) (a0_2 : Int) (a1 : Int) (a2 : Int) : Option (Bool) := if a0_1 > 0 then (if a1 > a0_0 then (if a1 < (wrap64 (a0_0 + a0_1)) then (some (decide (a1 < a2))) else (some false)) else (some false)) else (some false)
set_option maxHeartbeats 8000000 in
set_option maxRecDepth 100000 in
theorem spec_l6Held.calls (a0_0 : Int) (a0_1 : Int) (a0_2 : Int) (a1 : Int) (a2 : Int) (r : Bool) (w : World) (h : spec_l6Held.f a0_0 a0_1 a0_2 a1 a2 = some r) :
    Calls Try.prog 165 #[.agg #[.int .i64 a0_0, .int .i64 a0_1, .int .i64 a0_2], .int .i64 a1, .int .i64 a2] w fun e w' => e = .returned (.bool r) ∧ Below w.heap.size w w' := by
  have hu64 := Try.underlying64
  have HB := Aside0.mk (Below.refl w.heap.size w)
  have H : (if a0_1 > 0 then (if a1 > a0_0 then (if a1 < (wrap64 (a0_0 + a0_1)) then (some (decide (a1 < a2))) else (some false)) else (some false)) else (some false)) = some r := h
  clear h
  by_cases c4 : a0_1 > 0
  · rw [if_pos c4] at H
    have c4b0 : decide (0 < a0_1) = true := decide_eq_true c4
    clear c4
    by_cases c5 : a1 > a0_0
    · rw [if_pos c5] at H
      have c5b0 : decide (a0_0 < a1) = true := decide_eq_true c5
      clear c5
      by_cases c6 : a1 < (wrap64 (a0_0 + a0_1))
      · rw [if_pos c6] at H
        have c6b0 : decide (a1 < (wrap64 (a0_0 + a0_1))) = true := decide_eq_true c6
        clear c6
        obtain rfl := Option.some.inj H
        go_enter Try.func165, Try.ntmps165
        go_wp2_with (first | ((with_reducible refine gate_dst (N := 3) rfl ?_); refine box_event ?hg (N := 3) ?hd (cs := #[.int .i64 a0_0, .int .i64 a0_1, .int .i64 a0_2]) (t := 64) ?hr ?_; (case hd => rfl); (case hg => rfl); (case hr => first | (go_simp; done) | (go_simp; rfl)); intro gb101 hg w7 hbox hb; have n0_ := Aside0.mk (below_step (by repeat (first | (with_reducible first | exact HB.out | apply below_alloc | apply pw_below_drewN | apply below_drew1) | exact HB.out)) hb); have n1_ := Aside0.mk (hbox); have n2_ := Aside0.mk ((by rw [hg]; exact (below_size (by repeat (first | (with_reducible first | exact HB.out | apply below_alloc | apply pw_below_drewN | apply below_drew1) | exact HB.out))) : w.heap.size ≤ gb101)); have n3_ := Aside0.mk ((by rw [hg]; exact (below_size (by repeat (first | (with_reducible first | exact HB.out | apply below_alloc | apply pw_below_drewN | apply below_drew1) | exact HB.out))) : w.heap.size ≤ gb101)); clear HB; have HB := n0_; have BK101 := n1_; have GW101 := n2_; have GE101 := n3_; clear n0_ n1_ n2_ n3_; clear hb hbox hg; have hcz8_0 : w7.cell? ⟨gb101, 0, none⟩ = some (.int .i64 a0_0) := (blk_cell BK101.out 0).trans rfl; have hcz8_1 : w7.cell? ⟨gb101, 1, none⟩ = some (.int .i64 a0_1) := (blk_cell BK101.out 1).trans rfl; have hcz8_2 : w7.cell? ⟨gb101, 2, none⟩ = some (.int .i64 a0_2) := (blk_cell BK101.out 2).trans rfl; have hfz8_0 := blk_frozen BK101.out 0; have hfz8_1 := blk_frozen BK101.out 1; have hfz8_2 := blk_frozen BK101.out 2))
        go_ret
        exact ⟨by first | rfl | (simp [errW_none, errW_some] <;> rfl) | (simp [*, errW_none, errW_some] <;> rfl), by repeat (first | (with_reducible first | exact HB.out | apply below_alloc | apply pw_below_drewN | apply below_drew1 | refine below_set ?_ GE101.out) | exact HB.out)⟩
      · rw [if_neg c6] at H
        have c6b0 : decide (a1 < (wrap64 (a0_0 + a0_1))) = false := decide_eq_false c6
        clear c6
        obtain rfl := Option.some.inj H
        go_enter Try.func165, Try.ntmps165
        go_wp2_with (first | ((with_reducible refine gate_dst (N := 3) rfl ?_); refine box_event ?hg (N := 3) ?hd (cs := #[.int .i64 a0_0, .int .i64 a0_1, .int .i64 a0_2]) (t := 64) ?hr ?_; (case hd => rfl); (case hg => rfl); (case hr => first | (go_simp; done) | (go_simp; rfl)); intro gb101 hg w9 hbox hb; have n0_ := Aside0.mk (below_step (by repeat (first | (with_reducible first | exact HB.out | apply below_alloc | apply pw_below_drewN | apply below_drew1) | exact HB.out)) hb); have n1_ := Aside0.mk (hbox); have n2_ := Aside0.mk ((by rw [hg]; exact (below_size (by repeat (first | (with_reducible first | exact HB.out | apply below_alloc | apply pw_below_drewN | apply below_drew1) | exact HB.out))) : w.heap.size ≤ gb101)); have n3_ := Aside0.mk ((by rw [hg]; exact (below_size (by repeat (first | (with_reducible first | exact HB.out | apply below_alloc | apply pw_below_drewN | apply below_drew1) | exact HB.out))) : w.heap.size ≤ gb101)); clear HB; have HB := n0_; have BK101 := n1_; have GW101 := n2_; have GE101 := n3_; clear n0_ n1_ n2_ n3_; clear hb hbox hg; have hcz10_0 : w9.cell? ⟨gb101, 0, none⟩ = some (.int .i64 a0_0) := (blk_cell BK101.out 0).trans rfl; have hcz10_1 : w9.cell? ⟨gb101, 1, none⟩ = some (.int .i64 a0_1) := (blk_cell BK101.out 1).trans rfl; have hcz10_2 : w9.cell? ⟨gb101, 2, none⟩ = some (.int .i64 a0_2) := (blk_cell BK101.out 2).trans rfl; have hfz10_0 := blk_frozen BK101.out 0; have hfz10_1 := blk_frozen BK101.out 1; have hfz10_2 := blk_frozen BK101.out 2))
        go_ret
        exact ⟨by first | rfl | (simp [errW_none, errW_some] <;> rfl) | (simp [*, errW_none, errW_some] <;> rfl), by repeat (first | (with_reducible first | exact HB.out | apply below_alloc | apply pw_below_drewN | apply below_drew1 | refine below_set ?_ GE101.out) | exact HB.out)⟩
    · rw [if_neg c5] at H
      have c5b0 : decide (a0_0 < a1) = false := decide_eq_false c5
      clear c5
      obtain rfl := Option.some.inj H
      go_enter Try.func165, Try.ntmps165
      go_wp2_with (first | ((with_reducible refine gate_dst (N := 3) rfl ?_); refine box_event ?hg (N := 3) ?hd (cs := #[.int .i64 a0_0, .int .i64 a0_1, .int .i64 a0_2]) (t := 64) ?hr ?_; (case hd => rfl); (case hg => rfl); (case hr => first | (go_simp; done) | (go_simp; rfl)); intro gb101 hg w11 hbox hb; have n0_ := Aside0.mk (below_step (by repeat (first | (with_reducible first | exact HB.out | apply below_alloc | apply pw_below_drewN | apply below_drew1) | exact HB.out)) hb); have n1_ := Aside0.mk (hbox); have n2_ := Aside0.mk ((by rw [hg]; exact (below_size (by repeat (first | (with_reducible first | exact HB.out | apply below_alloc | apply pw_below_drewN | apply below_drew1) | exact HB.out))) : w.heap.size ≤ gb101)); have n3_ := Aside0.mk ((by rw [hg]; exact (below_size (by repeat (first | (with_reducible first | exact HB.out | apply below_alloc | apply pw_below_drewN | apply below_drew1) | exact HB.out))) : w.heap.size ≤ gb101)); clear HB; have HB := n0_; have BK101 := n1_; have GW101 := n2_; have GE101 := n3_; clear n0_ n1_ n2_ n3_; clear hb hbox hg; have hcz12_0 : w11.cell? ⟨gb101, 0, none⟩ = some (.int .i64 a0_0) := (blk_cell BK101.out 0).trans rfl; have hcz12_1 : w11.cell? ⟨gb101, 1, none⟩ = some (.int .i64 a0_1) := (blk_cell BK101.out 1).trans rfl; have hcz12_2 : w11.cell? ⟨gb101, 2, none⟩ = some (.int .i64 a0_2) := (blk_cell BK101.out 2).trans rfl; have hfz12_0 := blk_frozen BK101.out 0; have hfz12_1 := blk_frozen BK101.out 1; have hfz12_2 := blk_frozen BK101.out 2))
      go_ret
      exact ⟨by first | rfl | (simp [errW_none, errW_some] <;> rfl) | (simp [*, errW_none, errW_some] <;> rfl), by repeat (first | (with_reducible first | exact HB.out | apply below_alloc | apply pw_below_drewN | apply below_drew1 | refine below_set ?_ GE101.out) | exact HB.out)⟩
  · rw [if_neg c4] at H
    have c4b0 : decide (0 < a0_1) = false := decide_eq_false c4
    clear c4
    obtain rfl := Option.some.inj H
    go_enter Try.func165, Try.ntmps165
    go_wp2_with (first | ((with_reducible refine gate_dst (N := 3) rfl ?_); refine box_event ?hg (N := 3) ?hd (cs := #[.int .i64 a0_0, .int .i64 a0_1, .int .i64 a0_2]) (t := 64) ?hr ?_; (case hd => rfl); (case hg => rfl); (case hr => first | (go_simp; done) | (go_simp; rfl)); intro gb101 hg w13 hbox hb; have n0_ := Aside0.mk (below_step (by repeat (first | (with_reducible first | exact HB.out | apply below_alloc | apply pw_below_drewN | apply below_drew1) | exact HB.out)) hb); have n1_ := Aside0.mk (hbox); have n2_ := Aside0.mk ((by rw [hg]; exact (below_size (by repeat (first | (with_reducible first | exact HB.out | apply below_alloc | apply pw_below_drewN | apply below_drew1) | exact HB.out))) : w.heap.size ≤ gb101)); have n3_ := Aside0.mk ((by rw [hg]; exact (below_size (by repeat (first | (with_reducible first | exact HB.out | apply below_alloc | apply pw_below_drewN | apply below_drew1) | exact HB.out))) : w.heap.size ≤ gb101)); clear HB; have HB := n0_; have BK101 := n1_; have GW101 := n2_; have GE101 := n3_; clear n0_ n1_ n2_ n3_; clear hb hbox hg; have hcz14_0 : w13.cell? ⟨gb101, 0, none⟩ = some (.int .i64 a0_0) := (blk_cell BK101.out 0).trans rfl; have hcz14_1 : w13.cell? ⟨gb101, 1, none⟩ = some (.int .i64 a0_1) := (blk_cell BK101.out 1).trans rfl; have hcz14_2 : w13.cell? ⟨gb101, 2, none⟩ = some (.int .i64 a0_2) := (blk_cell BK101.out 2).trans rfl; have hfz14_0 := blk_frozen BK101.out 0; have hfz14_1 := blk_frozen BK101.out 1; have hfz14_2 := blk_frozen BK101.out 2))
    go_ret
    exact ⟨by first | rfl | (simp [errW_none, errW_some] <;> rfl) | (simp [*, errW_none, errW_some] <;> rfl), by repeat (first | (with_reducible first | exact HB.out | apply below_alloc | apply pw_below_drewN | apply below_drew1 | refine below_set ?_ GE101.out) | exact HB.out)⟩



/-! ### spec_l6System: function 135 -/
def spec_l6System.l0 : Nat → List (S62) → List (S64) → List (S67) → List Int → Int → Int → Option (Int)
  | 0, _, _, _, _, _, _ => none
  | k + 1, x0, x1, x2, x3, x9, x10 => if x10 < (x2.length : Int) then (if 0 ≤ x10 then (if 0 ≤ ((rd_T67 x2 x10).f0) then (if ((rd_T67 x2 x10).f0) < (x1.length : Int) then (if x10 < (x3.length : Int) then ((spec_l6Held.f ((rd_T64 x1 ((rd_T67 x2 x10).f0)).f0) ((rd_T64 x1 ((rd_T67 x2 x10).f0)).f1) ((rd_T64 x1 ((rd_T67 x2 x10).f0)).f2) (rd x3 x10) ((rd_T67 x2 x10).f3)).bind fun t106 => (if t106 = true then ((spec_l6Ceiling.f k x0 x1 ((rd_T64 x1 ((rd_T67 x2 x10).f0)).f2)).bind fun t107 => (spec_l6System.l0 k x0 x1 x2 x3 (mn x9 t107) (wrap64 (x10 + 1)))) else (spec_l6System.l0 k x0 x1 x2 x3 x9 (wrap64 (x10 + 1))))) else (none)) else (none)) else (none)) else (none)) else (some x9)
def spec_l6System.f (k : Nat) (l0 : List (S62)) (l1 : List (S64)) (l2 : List (S67)) (l3 : List Int) : Option (Int) := spec_l6System.l0 k l0 l1 l2 l3 13 0
theorem spec_l6System.mono_l : ∀ k, (∀ y0 y1 y2 y3 y4 y5, LeO (spec_l6System.l0 k y0 y1 y2 y3 y4 y5) (spec_l6System.l0 (k + 1) y0 y1 y2 y3 y4 y5))
  | 0 => fun _ _ _ _ _ _ r h => by simp [spec_l6System.l0] at h
  | k + 1 => by
    have ih0 := spec_l6System.mono_l k
    · intro y0 y1 y2 y3 y4 y5
      unfold spec_l6System.l0
      repeat' first
      | (with_reducible exact ih0 _ _ _ _ _ _)
      | (with_reducible exact spec_l6Ceiling.mono _ _ _ _)
      | (with_reducible exact LeO.refl _)
      | (with_reducible exact LeO.none _)
      | (with_reducible refine LeO.ite ?_ ?_)
      | (with_reducible refine LeO.bind ?_ (fun _ => ?_))
      | exact ih0 _ _ _ _ _ _
      | exact spec_l6Ceiling.mono _ _ _ _
      | exact LeO.none _
      | refine LeO.ite ?_ ?_
      | refine LeO.bind ?_ (fun _ => ?_)
theorem spec_l6System.mono : ∀ a0 a1 a2 a3 k, LeO (spec_l6System.f k a0 a1 a2 a3) (spec_l6System.f (k + 1) a0 a1 a2 a3) := by
  intro a0 a1 a2 a3 k
  have ih0 := spec_l6System.mono_l k
  unfold spec_l6System.f
  repeat' first
      | (with_reducible exact ih0 _ _ _ _ _ _)
      | (with_reducible exact spec_l6Ceiling.mono _ _ _ _)
      | (with_reducible exact LeO.refl _)
      | (with_reducible exact LeO.none _)
      | (with_reducible refine LeO.ite ?_ ?_)
      | (with_reducible refine LeO.bind ?_ (fun _ => ?_))
      | exact ih0 _ _ _ _ _ _
      | exact spec_l6Ceiling.mono _ _ _ _
      | exact LeO.none _
      | refine LeO.ite ?_ ?_
      | refine LeO.bind ?_ (fun _ => ?_)
def spec_l6System.T6 : Bool × List (List Nat × List Nat) := (true, [([], []), ([], []), ([], []), ([1, 2], [1, 2]), ([3], [3]), ([], []), ([], []), ([5, 6], [5, 6]), ([7], [7]), ([8], [8]), ([0, 4, 9], [0, 4, 9])])
def spec_l6System.B6 : List Nat := [0, 0, 0, 6, 14, 0, 0, 96, 224, 480, 1023]
theorem spec_l6System.tab6 : rtab .any (opsOf Try.f135 6) = spec_l6System.T6 := by kernel_rfl
theorem spec_l6System.bits6 : waitsOk spec_l6System.T6.2 spec_l6System.B6 = true := by kernel_rfl
set_option maxHeartbeats 8000000 in
set_option maxRecDepth 100000 in
theorem spec_l6System.calls (k : Nat) (A0 : Option Addr) (c0 : Nat) (l0 : List (S62)) (A1 : Option Addr) (c1 : Nat) (l1 : List (S64)) (A2 : Option Addr) (c2 : Nat) (l2 : List (S67)) (A3 : Option Addr) (c3 : Nat) (l3 : List Int) (r : Int) (w : World) (hr0 : Kd.C k62 w A0 l0.length l0) (hc0 : l0.length ≤ c0) (hr1 : Kd.C k64 w A1 l1.length l1) (hc1 : l1.length ≤ c1) (hr2 : Kd.C k67 w A2 l2.length l2) (hc2 : l2.length ≤ c2) (hr3 : Kd.C (Kd.int .i64) w A3 l3.length l3) (hc3 : l3.length ≤ c3) (h : spec_l6System.f k l0 l1 l2 l3 = some r) :
    Calls Try.prog 135 #[.slice A0 l0.length c0, .slice A1 l1.length c1, .slice A2 l2.length c2, .slice A3 l3.length c3] w fun e w' => e = .returned (.int .i64 r) ∧ Below w.heap.size w w' := by
  have hu64 := Try.underlying64
  have HR0 := Aside0.mk hr0
  have HC0 := Aside0.mk hc0
  clear hr0 hc0
  have HR1 := Aside0.mk hr1
  have HC1 := Aside0.mk hc1
  clear hr1 hc1
  have HR2 := Aside0.mk hr2
  have HC2 := Aside0.mk hc2
  clear hr2 hc2
  have HR3 := Aside0.mk hr3
  have HC3 := Aside0.mk hc3
  clear hr3 hc3
  have HB := Aside0.mk (Below.refl w.heap.size w)
  have H : (spec_l6System.l0 k l0 l1 l2 l3 13 0) = some r := h
  clear h
  have H' := Aside0.mk H
  clear H
  go_enter Try.func135, Try.ntmps135
  go_wp2
  go_loopg [9, 10] k (fun kq v9 v10 w' => ∃ (x9_1 : Int) (x10_1 : Int), v9 = .int .i64 x9_1 ∧ v10 = .int .i64 x10_1 ∧ Aside0 (spec_l6System.l0 kq l0 l1 l2 l3 x9_1 x10_1 = some r) ∧ Aside0 (kq ≤ k) ∧ Aside0 (Below w.heap.size w w'))
  case atStart => exact ⟨(13), (0), (by first | rfl | (simp; done) | (simp [*]; done) | (simp only [i64_w, i32_w]; done) | (simp [*, i64_w, i32_w]; done)), (by first | rfl | (simp; done) | (simp [*]; done) | (simp only [i64_w, i32_w]; done) | (simp [*, i64_w, i32_w]; done)), H', ⟨Nat.le_refl _⟩, ⟨by repeat (first | (with_reducible first | exact HB.out | apply below_alloc | apply pw_below_drewN | apply below_drew1) | exact HB.out)⟩⟩
  case round =>
    clear H'
    try clear c1
    try clear c2
    try clear p2
    try clear c3
    obtain ⟨x9_1, x10_1, rfl, rfl, HA, HK1, HB⟩ := hrel
    cases gk with
    | zero => exact absurd HA.out (by simp [spec_l6System.l0])
    | succ k1 =>
      have H := HA.out
      clear HA
      simp only [spec_l6System.l0] at H
      by_cases c5 : x10_1 < (l2.length : Int)
      · rw [if_pos c5] at H
        have c5b0 : decide (x10_1 < (l2.length : Int)) = true := decide_eq_true c5
        clear c5
        by_cases c6 : 0 ≤ x10_1
        · rw [if_pos c6] at H
          have c6b0 : decide (0 ≤ x10_1) = true := decide_eq_true c6
          clear c6
          by_cases c7 : 0 ≤ ((rd_T67 l2 x10_1).f0)
          · rw [if_pos c7] at H
            have c7b0 : decide (0 ≤ ((rd_T67 l2 x10_1).f0)) = true := decide_eq_true c7
            clear c7
            by_cases c8 : ((rd_T67 l2 x10_1).f0) < (l1.length : Int)
            · rw [if_pos c8] at H
              have c8b0 : decide (((rd_T67 l2 x10_1).f0) < (l1.length : Int)) = true := decide_eq_true c8
              clear c8
              by_cases c9 : x10_1 < (l3.length : Int)
              · rw [if_pos c9] at H
                have c9b0 : decide (x10_1 < (l3.length : Int)) = true := decide_eq_true c9
                clear c9
                replace H := Option.bind_eq_some_iff.mp H
                obtain ⟨t106, A100, H⟩ := H
                replace H : (if t106 = true then ((spec_l6Ceiling.f k1 l0 l1 ((rd_T64 l1 ((rd_T67 l2 x10_1).f0)).f2)).bind fun t107 => (spec_l6System.l0 k1 l0 l1 l2 l3 (mn x9_1 t107) (wrap64 (x10_1 + 1)))) else (spec_l6System.l0 k1 l0 l1 l2 l3 x9_1 (wrap64 (x10_1 + 1)))) = some r := H
                have A10 := Aside0.mk A100
                clear A100
                by_cases c11 : t106 = true
                · subst c11
                  have H1 : ((spec_l6Ceiling.f k1 l0 l1 ((rd_T64 l1 ((rd_T67 l2 x10_1).f0)).f2)).bind fun t107 => (spec_l6System.l0 k1 l0 l1 l2 l3 (mn x9_1 t107) (wrap64 (x10_1 + 1)))) = some r := by rw [if_pos rfl] at H; exact H
                  clear H
                  have H := H1
                  clear H1
                  replace H := Option.bind_eq_some_iff.mp H
                  obtain ⟨t107, A120, H⟩ := H
                  replace H : (spec_l6System.l0 k1 l0 l1 l2 l3 (mn x9_1 t107) (wrap64 (x10_1 + 1))) = some r := H
                  have A12 := Aside0.mk A120
                  clear A120
                  obtain ⟨ji13, hji13⟩ : ∃ j_ : Int, (mn x9_1 t107) = j_ := ⟨_, rfl⟩
                  replace H : (spec_l6System.l0 k1 l0 l1 l2 l3 ji13 (wrap64 (x10_1 + 1))) = some r := by first | (rw [hji13] at H; exact H) | (simp only [hji13] at H ⊢; exact H)
                  (try rw [hji13] at A10)
                  (try rw [hji13] at A12)
                  have hji13_ : (if t107 < x9_1 then t107 else x9_1) = ji13 := hji13
                  have H' := Aside0.mk H
                  clear H
                  have p101 : 0 ≤ (x10_1 : Int) := of_decide_eq_true (by first | (with_reducible assumption) | assumption)
                  have q101 : x10_1 < (l2.length : Int) := of_decide_eq_true (by first | (with_reducible assumption) | assumption)
                  obtain ⟨ad101, e101, hx101_0, hx101_1, hx101_2, hx101_3⟩ := at_T67 HR2.out x10_1 p101 q101
                  cases e101
                  replace hx101_0 := (HB.out.cell (World.block_lt_of_cell? w _ hx101_0)).trans hx101_0
                  replace hx101_1 := (HB.out.cell (World.block_lt_of_cell? w _ hx101_1)).trans hx101_1
                  replace hx101_2 := (HB.out.cell (World.block_lt_of_cell? w _ hx101_2)).trans hx101_2
                  replace hx101_3 := (HB.out.cell (World.block_lt_of_cell? w _ hx101_3)).trans hx101_3
                  replace p101 := eq_true p101
                  replace q101 := eq_true q101
                  have p102 : 0 ≤ (((rd_T67 l2 x10_1).f0) : Int) := of_decide_eq_true (by first | (with_reducible assumption) | assumption)
                  have q102 : ((rd_T67 l2 x10_1).f0) < (l1.length : Int) := of_decide_eq_true (by first | (with_reducible assumption) | assumption)
                  obtain ⟨ad102, e102, hx102_0, hx102_1, hx102_2⟩ := at_T64 HR1.out ((rd_T67 l2 x10_1).f0) p102 q102
                  cases e102
                  replace hx102_0 := (HB.out.cell (World.block_lt_of_cell? w _ hx102_0)).trans hx102_0
                  replace hx102_1 := (HB.out.cell (World.block_lt_of_cell? w _ hx102_1)).trans hx102_1
                  replace hx102_2 := (HB.out.cell (World.block_lt_of_cell? w _ hx102_2)).trans hx102_2
                  replace p102 := eq_true p102
                  replace q102 := eq_true q102
                  try go_wp2_with (first | ((with_reducible refine gate_dst (N := 11) rfl ?_); refine box_event ?hg (N := 11) ?hd (cs := #[.int .i64 0, .int .i64 0, .int .i64 0]) (t := 64) ?hr ?_; (case hd => rfl); (case hg => rfl); (case hr => first | (go_simp; done) | (go_simp; rfl)); intro gb103 hg w14 hbox hb; have n0_ := Aside0.mk (below_step (by repeat (first | (with_reducible first | exact HB.out | apply below_alloc | apply pw_below_drewN | apply below_drew1) | exact HB.out)) hb); have n1_ := Aside0.mk (hbox); have n2_ := Aside0.mk ((by rw [hg]; exact (below_size (by repeat (first | (with_reducible first | exact HB.out | apply below_alloc | apply pw_below_drewN | apply below_drew1) | exact HB.out))) : w.heap.size ≤ gb103)); have n3_ := Aside0.mk ((by rw [hg]; exact (below_size (by repeat (first | (with_reducible first | exact HB.out | apply below_alloc | apply pw_below_drewN | apply below_drew1) | exact HB.out))) : w.heap.size ≤ gb103)); clear HB; have HB := n0_; have BK103 := n1_; have GW103 := n2_; have GE103 := n3_; clear n0_ n1_ n2_ n3_; clear hb hbox hg; have hcz15_0 : w14.cell? ⟨gb103, 0, none⟩ = some (.int .i64 0) := (blk_cell BK103.out 0).trans rfl; have hcz15_1 : w14.cell? ⟨gb103, 1, none⟩ = some (.int .i64 0) := (blk_cell BK103.out 1).trans rfl; have hcz15_2 : w14.cell? ⟨gb103, 2, none⟩ = some (.int .i64 0) := (blk_cell BK103.out 2).trans rfl; have hfz15_0 := blk_frozen BK103.out 0; have hfz15_1 := blk_frozen BK103.out 1; have hfz15_2 := blk_frozen BK103.out 2))
                  have n0_ : Aside0 ((((w14.setCell ⟨gb103, 0, none⟩ (.int .i64 ((rd_T64 l1 ((rd_T67 l2 x10_1).f0)).f0))).setCell ⟨gb103, 1, none⟩ (.int .i64 ((rd_T64 l1 ((rd_T67 l2 x10_1).f0)).f1))).setCell ⟨gb103, 2, none⟩ (.int .i64 ((rd_T64 l1 ((rd_T67 l2 x10_1).f0)).f2))).heap[gb103]? = some (.cells #[.int .i64 ((rd_T64 l1 ((rd_T67 l2 x10_1).f0)).f0), .int .i64 ((rd_T64 l1 ((rd_T67 l2 x10_1).f0)).f1), .int .i64 ((rd_T64 l1 ((rd_T67 l2 x10_1).f0)).f2)] 64 (0, 0))) := ⟨by (with_reducible repeat (first | refine blk_drewN ?_ _ | refine blk_drew ?_ | refine blk_alloc ?_ _)); refine blk_put (cs := #[.int .i64 ((rd_T64 l1 ((rd_T67 l2 x10_1).f0)).f0), .int .i64 ((rd_T64 l1 ((rd_T67 l2 x10_1).f0)).f1), .int .i64 0]) ?_ 2 _ rfl; (with_reducible repeat (first | refine blk_drewN ?_ _ | refine blk_drew ?_ | refine blk_alloc ?_ _)); refine blk_put (cs := #[.int .i64 ((rd_T64 l1 ((rd_T67 l2 x10_1).f0)).f0), .int .i64 0, .int .i64 0]) ?_ 1 _ rfl; (with_reducible repeat (first | refine blk_drewN ?_ _ | refine blk_drew ?_ | refine blk_alloc ?_ _)); refine blk_put (cs := #[.int .i64 0, .int .i64 0, .int .i64 0]) ?_ 0 _ rfl; (with_reducible repeat (first | refine blk_drewN ?_ _ | refine blk_drew ?_ | refine blk_alloc ?_ _)); exact BK103.out⟩
                  have n1_ : Aside0 (Below w.heap.size w (((w14.setCell ⟨gb103, 0, none⟩ (.int .i64 ((rd_T64 l1 ((rd_T67 l2 x10_1).f0)).f0))).setCell ⟨gb103, 1, none⟩ (.int .i64 ((rd_T64 l1 ((rd_T67 l2 x10_1).f0)).f1))).setCell ⟨gb103, 2, none⟩ (.int .i64 ((rd_T64 l1 ((rd_T67 l2 x10_1).f0)).f2)))) := ⟨by repeat (first | (with_reducible first | exact HB.out | apply below_alloc | apply pw_below_drewN | apply below_drew1 | refine below_set ?_ GE103.out) | exact HB.out)⟩
                  (try clear BK103)
                  (try clear HB)
                  generalize (((w14.setCell ⟨gb103, 0, none⟩ (.int .i64 ((rd_T64 l1 ((rd_T67 l2 x10_1).f0)).f0))).setCell ⟨gb103, 1, none⟩ (.int .i64 ((rd_T64 l1 ((rd_T67 l2 x10_1).f0)).f1))).setCell ⟨gb103, 2, none⟩ (.int .i64 ((rd_T64 l1 ((rd_T67 l2 x10_1).f0)).f2))) = w16 at n0_ n1_ ⊢
                  have BK103 := n0_
                  have HB := n1_
                  clear n0_ n1_
                  have n0_ := Aside0.mk (blk_drew BK103.out)
                  have n1_ := Aside0.mk (below_drew1 HB.out)
                  clear BK103
                  clear HB
                  have BK103 := n0_
                  have HB := n1_
                  clear n0_ n1_
                  have p104 : 0 ≤ (x10_1 : Int) := of_decide_eq_true (by first | (with_reducible assumption) | assumption)
                  have q104 : x10_1 < (l3.length : Int) := of_decide_eq_true (by first | (with_reducible assumption) | assumption)
                  obtain ⟨ad104, e104, hx104_0⟩ := Kd.at_int HR3.out x10_1 p104 q104
                  have hw104_0 := hx104_0
                  cases e104
                  replace hx104_0 := (HB.out.cell (World.block_lt_of_cell? w _ hx104_0)).trans hx104_0
                  replace p104 := eq_true p104
                  replace q104 := eq_true q104
                  have p105 : 0 ≤ (x10_1 : Int) := of_decide_eq_true (by first | (with_reducible assumption) | assumption)
                  have q105 : x10_1 < (l2.length : Int) := of_decide_eq_true (by first | (with_reducible assumption) | assumption)
                  obtain ⟨ad105, e105, hx105_0, hx105_1, hx105_2, hx105_3⟩ := at_T67 HR2.out x10_1 p105 q105
                  have hw105_3 := hx105_3
                  have hw105_2 := hx105_2
                  have hw105_1 := hx105_1
                  have hw105_0 := hx105_0
                  obtain rfl : ad101 = ad105 := (by injection e105)
                  replace hx105_0 := (HB.out.cell (World.block_lt_of_cell? w _ hx105_0)).trans hx105_0
                  replace hx105_1 := (HB.out.cell (World.block_lt_of_cell? w _ hx105_1)).trans hx105_1
                  replace hx105_2 := (HB.out.cell (World.block_lt_of_cell? w _ hx105_2)).trans hx105_2
                  replace hx105_3 := (HB.out.cell (World.block_lt_of_cell? w _ hx105_3)).trans hx105_3
                  replace p105 := eq_true p105
                  replace q105 := eq_true q105
                  refine start_ (n := 11) (S := fun w' => w'.cell? ⟨gb103, 0, none⟩ = some (.int .i64 ((rd_T64 l1 ((rd_T67 l2 x10_1).f0)).f0)) ∧ w'.cell? ⟨gb103, 1, none⟩ = some (.int .i64 ((rd_T64 l1 ((rd_T67 l2 x10_1).f0)).f1)) ∧ w'.cell? ⟨gb103, 2, none⟩ = some (.int .i64 ((rd_T64 l1 ((rd_T67 l2 x10_1).f0)).f2)) ∧ w'.cell? (ad104.add (x10_1).toNat) = some (.int .i64 (rd l3 x10_1)) ∧ w'.cell? (ad101.add ((x10_1).toNat * 4)) = some (.int .i64 ((rd_T67 l2 x10_1).f0)) ∧ w'.cell? ⟨(ad101.add ((x10_1).toNat * 4)).block, (ad101.add ((x10_1).toNat * 4)).off + 1, none⟩ = some (.int .i64 ((rd_T67 l2 x10_1).f1)) ∧ w'.cell? ⟨(ad101.add ((x10_1).toNat * 4)).block, (ad101.add ((x10_1).toNat * 4)).off + 2, none⟩ = some (.int .i64 ((rd_T67 l2 x10_1).f2)) ∧ w'.cell? ⟨(ad101.add ((x10_1).toNat * 4)).block, (ad101.add ((x10_1).toNat * 4)).off + 3, none⟩ = some (.int .i64 ((rd_T67 l2 x10_1).f3))) (ds := []) #[false, false, false, false, false, false, false, false, false, false, false] (by kernel_rfl) rfl rfl ⟨(blk_cell BK103.out 0).trans rfl, (blk_cell BK103.out 1).trans rfl, (blk_cell BK103.out 2).trans rfl, ((HB.out.cell (World.block_lt_of_cell? w _ hw104_0)).trans hw104_0), ((HB.out.cell (World.block_lt_of_cell? w _ hw105_0)).trans hw105_0), ((HB.out.cell (World.block_lt_of_cell? w _ hw105_1)).trans hw105_1), ((HB.out.cell (World.block_lt_of_cell? w _ hw105_2)).trans hw105_2), ((HB.out.cell (World.block_lt_of_cell? w _ hw105_3)).trans hw105_3)⟩ (fun hHeld => ?_); refine with_tabW spec_l6System.tab6 spec_l6System.bits6 (fun HT_ HW_ => ?_)
                  generalize w16.drew = w17 at BK103 HB hx104_0 hx105_0 hx105_1 hx105_2 hx105_3 hHeld ⊢
                  refine pure_ (i := 1) (N := some 27) (v := ?_) (a' := ?_) #[false, true, false, false, false, false, false, false, false, false, false] rfl rfl (any_of HT_.out (by kernel_rfl)) (fun _ _ _ h => h) (Or.inl ⟨by rfl, ?_⟩) ?_ ?_
                  rotate_left
                  · intro w'
                    go_simp
                    with_reducible rfl
                  rotate_left
                  · simp only [Act.put, List.setIfInBounds_toArray, List.set_cons_zero, List.set_cons_succ, i64_w, i32_w]
                    rfl
                  refine pure_ (i := 2) (N := some 28) (v := ?_) (a' := ?_) #[false, true, true, false, false, false, false, false, false, false, false] rfl rfl (any_of HT_.out (by kernel_rfl)) (fun _ _ _ h => h) (Or.inl ⟨by rfl, ?_⟩) ?_ ?_
                  rotate_left
                  · intro w'
                    go_simp
                    with_reducible rfl
                  rotate_left
                  · simp only [Act.put, List.setIfInBounds_toArray, List.set_cons_zero, List.set_cons_succ, i64_w, i32_w]
                    rfl
                  refine pure_ (i := 3) (N := some 29) (v := ?_) (a' := ?_) #[false, true, true, true, false, false, false, false, false, false, false] rfl rfl (any_of HT_.out (by kernel_rfl)) (fun _ _ _ h => h) (Or.inl ⟨by rfl, ?_⟩) ?_ ?_
                  rotate_left
                  · intro w'
                    go_simp
                    with_reducible rfl
                  rotate_left
                  · simp only [Act.put, List.setIfInBounds_toArray, List.set_cons_zero, List.set_cons_succ, i64_w, i32_w]
                    rfl
                  refine pure_ (i := 5) (N := some 31) (v := ?_) (a' := ?_) #[false, true, true, true, false, true, false, false, false, false, false] rfl rfl (any_of HT_.out (by kernel_rfl)) (fun _ _ _ h => h) (Or.inl ⟨by rfl, ?_⟩) ?_ ?_
                  rotate_left
                  · intro w'
                    go_simp
                    with_reducible rfl
                  rotate_left
                  · simp only [Act.put, List.setIfInBounds_toArray, List.set_cons_zero, List.set_cons_succ, i64_w, i32_w]
                    rfl
                  refine pure_ (i := 6) (N := some 32) (v := ?_) (a' := ?_) #[false, true, true, true, false, true, true, false, false, false, false] rfl rfl (any_of HT_.out (by kernel_rfl)) (fun _ _ _ h => h) (Or.inl ⟨by rfl, ?_⟩) ?_ ?_
                  rotate_left
                  · intro w'
                    go_simp
                    with_reducible rfl
                  rotate_left
                  · simp only [Act.put, List.setIfInBounds_toArray, List.set_cons_zero, List.set_cons_succ, i64_w, i32_w]
                    rfl
                  refine pure_ (i := 7) (N := some 33) (v := ?_) (a' := ?_) #[false, true, true, true, false, true, true, true, false, false, false] rfl rfl (any_of HT_.out (by kernel_rfl)) (fun _ _ _ h => h) (Or.inl ⟨by rfl, ?_⟩) ?_ ?_
                  rotate_left
                  · intro w'
                    go_simp
                    with_reducible rfl
                  rotate_left
                  · simp only [Act.put, List.setIfInBounds_toArray, List.set_cons_zero, List.set_cons_succ, i64_w, i32_w]
                    rfl
                  refine pure_ (i := 8) (N := some 34) (v := ?_) (a' := ?_) #[false, true, true, true, false, true, true, true, true, false, false] rfl rfl (any_of HT_.out (by kernel_rfl)) (fun _ _ _ h => h) (Or.inl ⟨by rfl, ?_⟩) ?_ ?_
                  rotate_left
                  · intro w'
                    go_simp
                    with_reducible rfl
                  rotate_left
                  · simp only [Act.put, List.setIfInBounds_toArray, List.set_cons_zero, List.set_cons_succ, i64_w, i32_w]
                    rfl
                  refine take_ (i := 0) (N := some 26) (v := ?_) (a' := ?_) #[true, true, true, true, false, true, true, true, true, false, false] rfl rfl (take_ofW HT_.out HW_.out (by kernel_rfl)) (fun _ _ _ h => h) (Or.inl ⟨by rfl, ?_⟩) hHeld ?_ ?_
                  rotate_left
                  · rintro w' ⟨s0, s1, s2, s3, s4, s5, s6, s7⟩
                    go_simp
                    with_reducible rfl
                  rotate_left
                  · simp only [Act.put, List.setIfInBounds_toArray, List.set_cons_zero, List.set_cons_succ, i64_w, i32_w]
                    rfl
                  refine take_ (i := 4) (N := some 30) (v := ?_) (a' := ?_) #[true, true, true, true, true, true, true, true, true, false, false] rfl rfl (take_ofW HT_.out HW_.out (by kernel_rfl)) (fun _ _ _ h => h) (Or.inl ⟨by rfl, ?_⟩) hHeld ?_ ?_
                  rotate_left
                  · rintro w' ⟨s0, s1, s2, s3, s4, s5, s6, s7⟩
                    go_simp
                    with_reducible rfl
                  rotate_left
                  · simp only [Act.put, List.setIfInBounds_toArray, List.set_cons_zero, List.set_cons_succ, i64_w, i32_w]
                    rfl
                  refine take_ (i := 9) (N := some 35) (v := ?_) (a' := ?_) #[true, true, true, true, true, true, true, true, true, true, false] rfl rfl (take_ofW HT_.out HW_.out (by kernel_rfl)) (fun _ _ _ h => h) (Or.inl ⟨by rfl, ?_⟩) hHeld ?_ ?_
                  rotate_left
                  · rintro w' ⟨s0, s1, s2, s3, s4, s5, s6, s7⟩
                    go_simp
                    with_reducible rfl
                  rotate_left
                  · simp only [Act.put, List.setIfInBounds_toArray, List.set_cons_zero, List.set_cons_succ, i64_w, i32_w]
                    rfl
                  refine one_ (i := 10) (N := some 36) #[true, true, true, true, true, true, true, true, true, true, true] rfl rfl (one_of HT_.out (by kernel_rfl)) (by decide) (fun K hK => ?_)
                  refine goes_ Try.func165 (by kernel_rfl) rfl #[.agg #[.int .i64 ((rd_T64 l1 ((rd_T67 l2 x10_1).f0)).f0), .int .i64 ((rd_T64 l1 ((rd_T67 l2 x10_1).f0)).f1), .int .i64 ((rd_T64 l1 ((rd_T67 l2 x10_1).f0)).f2)], .int .i64 (rd l3 x10_1), .int .i64 ((rd_T67 l2 x10_1).f3)] (by rfl) rfl rfl (by (try simp only [List.map_toArray, List.map_cons, List.map_nil]); first | done | rfl | (simp only [List.length_drop, List.length_take]; rfl)) ?_
                  with_reducible refine (spec_l6Held.calls ((rd_T64 l1 ((rd_T67 l2 x10_1).f0)).f0) ((rd_T64 l1 ((rd_T67 l2 x10_1).f0)).f1) ((rd_T64 l1 ((rd_T67 l2 x10_1).f0)).f2) (rd l3 x10_1) ((rd_T67 l2 x10_1).f3) true _ A10.out).mono ?_
                  rintro e w18 ⟨rfl, hb⟩
                  refine ⟨_, rfl, ?_⟩
                  have n0_ := Aside0.mk (blk_below (g := gb103) (o := .cells #[.int .i64 ((rd_T64 l1 ((rd_T67 l2 x10_1).f0)).f0), .int .i64 ((rd_T64 l1 ((rd_T67 l2 x10_1).f0)).f1), .int .i64 ((rd_T64 l1 ((rd_T67 l2 x10_1).f0)).f2)] 64 (0, 0)) (by (with_reducible repeat (first | refine blk_drewN ?_ _ | refine blk_drew ?_ | refine blk_alloc ?_ _)); exact BK103.out) hb)
                  have n1_ := Aside0.mk (below_step (by repeat (first | (with_reducible first | exact HB.out | apply below_alloc | apply pw_below_drewN | apply below_drew1 | refine below_set ?_ GE103.out) | exact HB.out)) hb)
                  clear BK103
                  clear HB
                  have BK103 := n0_
                  have HB := n1_
                  clear n0_ n1_
                  (try clear hb)
                  (try clear hb2)
                  (try clear hk)
                  (try clear hi)
                  refine hK.out _ _ ⟨(blk_cell BK103.out 0).trans rfl, (blk_cell BK103.out 1).trans rfl, (blk_cell BK103.out 2).trans rfl, ((HB.out.cell (World.block_lt_of_cell? w _ hw104_0)).trans hw104_0), ((HB.out.cell (World.block_lt_of_cell? w _ hw105_0)).trans hw105_0), ((HB.out.cell (World.block_lt_of_cell? w _ hw105_1)).trans hw105_1), ((HB.out.cell (World.block_lt_of_cell? w _ hw105_2)).trans hw105_2), ((HB.out.cell (World.block_lt_of_cell? w _ hw105_3)).trans hw105_3)⟩ (fun hHeld => ?_)
                  clear hK K
                  refine norm_ (a' := ?_) ?_ ?_
                  rotate_left
                  · show Act.put _ (some 36) _ = _
                    simp only [Act.put, List.setIfInBounds_toArray, List.set_cons_zero, List.set_cons_succ, i64_w, i32_w]
                    rfl
                  refine done_ (done_of HT_.out (by kernel_rfl)) ?_
                  have hcz19_0 : w18.cell? ⟨gb103, 0, none⟩ = some (.int .i64 ((rd_T64 l1 ((rd_T67 l2 x10_1).f0)).f0)) := (blk_cell BK103.out 0).trans rfl
                  have hcz19_1 : w18.cell? ⟨gb103, 1, none⟩ = some (.int .i64 ((rd_T64 l1 ((rd_T67 l2 x10_1).f0)).f1)) := (blk_cell BK103.out 1).trans rfl
                  have hcz19_2 : w18.cell? ⟨gb103, 2, none⟩ = some (.int .i64 ((rd_T64 l1 ((rd_T67 l2 x10_1).f0)).f2)) := (blk_cell BK103.out 2).trans rfl
                  have hfz19_0 := blk_frozen BK103.out 0
                  have hfz19_1 := blk_frozen BK103.out 1
                  have hfz19_2 := blk_frozen BK103.out 2
                  try go_wp2_with (first | ((with_reducible refine gate_callee (f := 166) rfl ?_); refine goesL_ (some 42) rfl rfl Try.func166 (by kernel_rfl) rfl #[.slice A0 l0.length c0, .slice (some ad102) l1.length c1, .int .i64 ((rd_T64 l1 ((rd_T67 l2 x10_1).f0)).f2)] rfl (by (try simp only [List.map_toArray, List.map_cons, List.map_nil]); first | done | rfl | (simp only [List.length_drop, List.length_take]; rfl)) ?_; (with_reducible refine (spec_l6Ceiling.calls k1 _ _ l0 _ _ l1 ((rd_T64 l1 ((rd_T67 l2 x10_1).f0)).f2) t107 _ ?side1 ?side2 ?side3 ?side4 A12.out).mono ?_); (case side1 => repeat (first | exact (Kd.C_below HR0.out HB.out) | (with_reducible refine Kd.C_alloc ?_ _) | (with_reducible refine Kd.C_drewN ?_ _) | (with_reducible refine Kd.C_drew ?_))); (case side2 => exact HC0.out); (case side3 => repeat (first | exact (Kd.C_below HR1.out HB.out) | (with_reducible refine Kd.C_alloc ?_ _) | (with_reducible refine Kd.C_drewN ?_ _) | (with_reducible refine Kd.C_drew ?_))); (case side4 => exact HC1.out); rintro e w20 ⟨rfl, hb⟩; refine ⟨_, rfl, ?_⟩; have n0_ := Aside0.mk (blk_below (g := gb103) (o := .cells #[.int .i64 ((rd_T64 l1 ((rd_T67 l2 x10_1).f0)).f0), .int .i64 ((rd_T64 l1 ((rd_T67 l2 x10_1).f0)).f1), .int .i64 ((rd_T64 l1 ((rd_T67 l2 x10_1).f0)).f2)] 64 (0, 0)) (by (with_reducible repeat (first | refine blk_drewN ?_ _ | refine blk_drew ?_ | refine blk_alloc ?_ _)); exact BK103.out) hb); have n1_ := Aside0.mk (below_step (by repeat (first | (with_reducible first | exact HB.out | apply below_alloc | apply pw_below_drewN | apply below_drew1 | refine below_set ?_ GE103.out) | exact HB.out)) hb); clear BK103; clear HB; have BK103 := n0_; have HB := n1_; clear n0_ n1_; (try clear hb); (try clear hb2); (try clear hk); (try clear hi)))
                  go_roundg k1
                  case measure => have := HK1.out; omega
                  case rel => exact ⟨(ji13), (wrap64 (x10_1 + 1)), (by first | rfl | (simp; done) | (simp only [← hji13] <;> (first | rfl | simp)) | (simp [*]; done) | (simp only [i64_w, i32_w]; done) | (simp [*, i64_w, i32_w]; done)), (by first | rfl | (simp; done) | (simp [*]; done) | (simp only [i64_w, i32_w]; done) | (simp [*, i64_w, i32_w]; done)), H', ⟨by have := HK1.out; omega⟩, ⟨by repeat (first | (with_reducible first | exact HB.out | apply below_alloc | apply pw_below_drewN | apply below_drew1 | refine below_set ?_ GE103.out) | exact HB.out)⟩⟩
                · replace c11 := Bool.eq_false_iff.mpr c11
                  subst c11
                  have H1 : (spec_l6System.l0 k1 l0 l1 l2 l3 x9_1 (wrap64 (x10_1 + 1))) = some r := by rw [if_neg (show ¬ (false = true) by decide)] at H; exact H
                  clear H
                  have H := H1
                  clear H1
                  have H' := Aside0.mk H
                  clear H
                  have p101 : 0 ≤ (x10_1 : Int) := of_decide_eq_true (by first | (with_reducible assumption) | assumption)
                  have q101 : x10_1 < (l2.length : Int) := of_decide_eq_true (by first | (with_reducible assumption) | assumption)
                  obtain ⟨ad101, e101, hx101_0, hx101_1, hx101_2, hx101_3⟩ := at_T67 HR2.out x10_1 p101 q101
                  cases e101
                  replace hx101_0 := (HB.out.cell (World.block_lt_of_cell? w _ hx101_0)).trans hx101_0
                  replace hx101_1 := (HB.out.cell (World.block_lt_of_cell? w _ hx101_1)).trans hx101_1
                  replace hx101_2 := (HB.out.cell (World.block_lt_of_cell? w _ hx101_2)).trans hx101_2
                  replace hx101_3 := (HB.out.cell (World.block_lt_of_cell? w _ hx101_3)).trans hx101_3
                  replace p101 := eq_true p101
                  replace q101 := eq_true q101
                  have p102 : 0 ≤ (((rd_T67 l2 x10_1).f0) : Int) := of_decide_eq_true (by first | (with_reducible assumption) | assumption)
                  have q102 : ((rd_T67 l2 x10_1).f0) < (l1.length : Int) := of_decide_eq_true (by first | (with_reducible assumption) | assumption)
                  obtain ⟨ad102, e102, hx102_0, hx102_1, hx102_2⟩ := at_T64 HR1.out ((rd_T67 l2 x10_1).f0) p102 q102
                  cases e102
                  replace hx102_0 := (HB.out.cell (World.block_lt_of_cell? w _ hx102_0)).trans hx102_0
                  replace hx102_1 := (HB.out.cell (World.block_lt_of_cell? w _ hx102_1)).trans hx102_1
                  replace hx102_2 := (HB.out.cell (World.block_lt_of_cell? w _ hx102_2)).trans hx102_2
                  replace p102 := eq_true p102
                  replace q102 := eq_true q102
                  try go_wp2_with (first | ((with_reducible refine gate_dst (N := 11) rfl ?_); refine box_event ?hg (N := 11) ?hd (cs := #[.int .i64 0, .int .i64 0, .int .i64 0]) (t := 64) ?hr ?_; (case hd => rfl); (case hg => rfl); (case hr => first | (go_simp; done) | (go_simp; rfl)); intro gb103 hg w21 hbox hb; have n0_ := Aside0.mk (below_step (by repeat (first | (with_reducible first | exact HB.out | apply below_alloc | apply pw_below_drewN | apply below_drew1) | exact HB.out)) hb); have n1_ := Aside0.mk (hbox); have n2_ := Aside0.mk ((by rw [hg]; exact (below_size (by repeat (first | (with_reducible first | exact HB.out | apply below_alloc | apply pw_below_drewN | apply below_drew1) | exact HB.out))) : w.heap.size ≤ gb103)); have n3_ := Aside0.mk ((by rw [hg]; exact (below_size (by repeat (first | (with_reducible first | exact HB.out | apply below_alloc | apply pw_below_drewN | apply below_drew1) | exact HB.out))) : w.heap.size ≤ gb103)); clear HB; have HB := n0_; have BK103 := n1_; have GW103 := n2_; have GE103 := n3_; clear n0_ n1_ n2_ n3_; clear hb hbox hg; have hcz22_0 : w21.cell? ⟨gb103, 0, none⟩ = some (.int .i64 0) := (blk_cell BK103.out 0).trans rfl; have hcz22_1 : w21.cell? ⟨gb103, 1, none⟩ = some (.int .i64 0) := (blk_cell BK103.out 1).trans rfl; have hcz22_2 : w21.cell? ⟨gb103, 2, none⟩ = some (.int .i64 0) := (blk_cell BK103.out 2).trans rfl; have hfz22_0 := blk_frozen BK103.out 0; have hfz22_1 := blk_frozen BK103.out 1; have hfz22_2 := blk_frozen BK103.out 2))
                  have n0_ : Aside0 ((((w21.setCell ⟨gb103, 0, none⟩ (.int .i64 ((rd_T64 l1 ((rd_T67 l2 x10_1).f0)).f0))).setCell ⟨gb103, 1, none⟩ (.int .i64 ((rd_T64 l1 ((rd_T67 l2 x10_1).f0)).f1))).setCell ⟨gb103, 2, none⟩ (.int .i64 ((rd_T64 l1 ((rd_T67 l2 x10_1).f0)).f2))).heap[gb103]? = some (.cells #[.int .i64 ((rd_T64 l1 ((rd_T67 l2 x10_1).f0)).f0), .int .i64 ((rd_T64 l1 ((rd_T67 l2 x10_1).f0)).f1), .int .i64 ((rd_T64 l1 ((rd_T67 l2 x10_1).f0)).f2)] 64 (0, 0))) := ⟨by (with_reducible repeat (first | refine blk_drewN ?_ _ | refine blk_drew ?_ | refine blk_alloc ?_ _)); refine blk_put (cs := #[.int .i64 ((rd_T64 l1 ((rd_T67 l2 x10_1).f0)).f0), .int .i64 ((rd_T64 l1 ((rd_T67 l2 x10_1).f0)).f1), .int .i64 0]) ?_ 2 _ rfl; (with_reducible repeat (first | refine blk_drewN ?_ _ | refine blk_drew ?_ | refine blk_alloc ?_ _)); refine blk_put (cs := #[.int .i64 ((rd_T64 l1 ((rd_T67 l2 x10_1).f0)).f0), .int .i64 0, .int .i64 0]) ?_ 1 _ rfl; (with_reducible repeat (first | refine blk_drewN ?_ _ | refine blk_drew ?_ | refine blk_alloc ?_ _)); refine blk_put (cs := #[.int .i64 0, .int .i64 0, .int .i64 0]) ?_ 0 _ rfl; (with_reducible repeat (first | refine blk_drewN ?_ _ | refine blk_drew ?_ | refine blk_alloc ?_ _)); exact BK103.out⟩
                  have n1_ : Aside0 (Below w.heap.size w (((w21.setCell ⟨gb103, 0, none⟩ (.int .i64 ((rd_T64 l1 ((rd_T67 l2 x10_1).f0)).f0))).setCell ⟨gb103, 1, none⟩ (.int .i64 ((rd_T64 l1 ((rd_T67 l2 x10_1).f0)).f1))).setCell ⟨gb103, 2, none⟩ (.int .i64 ((rd_T64 l1 ((rd_T67 l2 x10_1).f0)).f2)))) := ⟨by repeat (first | (with_reducible first | exact HB.out | apply below_alloc | apply pw_below_drewN | apply below_drew1 | refine below_set ?_ GE103.out) | exact HB.out)⟩
                  (try clear BK103)
                  (try clear HB)
                  generalize (((w21.setCell ⟨gb103, 0, none⟩ (.int .i64 ((rd_T64 l1 ((rd_T67 l2 x10_1).f0)).f0))).setCell ⟨gb103, 1, none⟩ (.int .i64 ((rd_T64 l1 ((rd_T67 l2 x10_1).f0)).f1))).setCell ⟨gb103, 2, none⟩ (.int .i64 ((rd_T64 l1 ((rd_T67 l2 x10_1).f0)).f2))) = w23 at n0_ n1_ ⊢
                  have BK103 := n0_
                  have HB := n1_
                  clear n0_ n1_
                  have n0_ := Aside0.mk (blk_drew BK103.out)
                  have n1_ := Aside0.mk (below_drew1 HB.out)
                  clear BK103
                  clear HB
                  have BK103 := n0_
                  have HB := n1_
                  clear n0_ n1_
                  have p104 : 0 ≤ (x10_1 : Int) := of_decide_eq_true (by first | (with_reducible assumption) | assumption)
                  have q104 : x10_1 < (l3.length : Int) := of_decide_eq_true (by first | (with_reducible assumption) | assumption)
                  obtain ⟨ad104, e104, hx104_0⟩ := Kd.at_int HR3.out x10_1 p104 q104
                  have hw104_0 := hx104_0
                  cases e104
                  replace hx104_0 := (HB.out.cell (World.block_lt_of_cell? w _ hx104_0)).trans hx104_0
                  replace p104 := eq_true p104
                  replace q104 := eq_true q104
                  have p105 : 0 ≤ (x10_1 : Int) := of_decide_eq_true (by first | (with_reducible assumption) | assumption)
                  have q105 : x10_1 < (l2.length : Int) := of_decide_eq_true (by first | (with_reducible assumption) | assumption)
                  obtain ⟨ad105, e105, hx105_0, hx105_1, hx105_2, hx105_3⟩ := at_T67 HR2.out x10_1 p105 q105
                  have hw105_3 := hx105_3
                  have hw105_2 := hx105_2
                  have hw105_1 := hx105_1
                  have hw105_0 := hx105_0
                  obtain rfl : ad101 = ad105 := (by injection e105)
                  replace hx105_0 := (HB.out.cell (World.block_lt_of_cell? w _ hx105_0)).trans hx105_0
                  replace hx105_1 := (HB.out.cell (World.block_lt_of_cell? w _ hx105_1)).trans hx105_1
                  replace hx105_2 := (HB.out.cell (World.block_lt_of_cell? w _ hx105_2)).trans hx105_2
                  replace hx105_3 := (HB.out.cell (World.block_lt_of_cell? w _ hx105_3)).trans hx105_3
                  replace p105 := eq_true p105
                  replace q105 := eq_true q105
                  refine start_ (n := 11) (S := fun w' => w'.cell? ⟨gb103, 0, none⟩ = some (.int .i64 ((rd_T64 l1 ((rd_T67 l2 x10_1).f0)).f0)) ∧ w'.cell? ⟨gb103, 1, none⟩ = some (.int .i64 ((rd_T64 l1 ((rd_T67 l2 x10_1).f0)).f1)) ∧ w'.cell? ⟨gb103, 2, none⟩ = some (.int .i64 ((rd_T64 l1 ((rd_T67 l2 x10_1).f0)).f2)) ∧ w'.cell? (ad104.add (x10_1).toNat) = some (.int .i64 (rd l3 x10_1)) ∧ w'.cell? (ad101.add ((x10_1).toNat * 4)) = some (.int .i64 ((rd_T67 l2 x10_1).f0)) ∧ w'.cell? ⟨(ad101.add ((x10_1).toNat * 4)).block, (ad101.add ((x10_1).toNat * 4)).off + 1, none⟩ = some (.int .i64 ((rd_T67 l2 x10_1).f1)) ∧ w'.cell? ⟨(ad101.add ((x10_1).toNat * 4)).block, (ad101.add ((x10_1).toNat * 4)).off + 2, none⟩ = some (.int .i64 ((rd_T67 l2 x10_1).f2)) ∧ w'.cell? ⟨(ad101.add ((x10_1).toNat * 4)).block, (ad101.add ((x10_1).toNat * 4)).off + 3, none⟩ = some (.int .i64 ((rd_T67 l2 x10_1).f3))) (ds := []) #[false, false, false, false, false, false, false, false, false, false, false] (by kernel_rfl) rfl rfl ⟨(blk_cell BK103.out 0).trans rfl, (blk_cell BK103.out 1).trans rfl, (blk_cell BK103.out 2).trans rfl, ((HB.out.cell (World.block_lt_of_cell? w _ hw104_0)).trans hw104_0), ((HB.out.cell (World.block_lt_of_cell? w _ hw105_0)).trans hw105_0), ((HB.out.cell (World.block_lt_of_cell? w _ hw105_1)).trans hw105_1), ((HB.out.cell (World.block_lt_of_cell? w _ hw105_2)).trans hw105_2), ((HB.out.cell (World.block_lt_of_cell? w _ hw105_3)).trans hw105_3)⟩ (fun hHeld => ?_); refine with_tabW spec_l6System.tab6 spec_l6System.bits6 (fun HT_ HW_ => ?_)
                  generalize w23.drew = w24 at BK103 HB hx104_0 hx105_0 hx105_1 hx105_2 hx105_3 hHeld ⊢
                  refine pure_ (i := 1) (N := some 27) (v := ?_) (a' := ?_) #[false, true, false, false, false, false, false, false, false, false, false] rfl rfl (any_of HT_.out (by kernel_rfl)) (fun _ _ _ h => h) (Or.inl ⟨by rfl, ?_⟩) ?_ ?_
                  rotate_left
                  · intro w'
                    go_simp
                    with_reducible rfl
                  rotate_left
                  · simp only [Act.put, List.setIfInBounds_toArray, List.set_cons_zero, List.set_cons_succ, i64_w, i32_w]
                    rfl
                  refine pure_ (i := 2) (N := some 28) (v := ?_) (a' := ?_) #[false, true, true, false, false, false, false, false, false, false, false] rfl rfl (any_of HT_.out (by kernel_rfl)) (fun _ _ _ h => h) (Or.inl ⟨by rfl, ?_⟩) ?_ ?_
                  rotate_left
                  · intro w'
                    go_simp
                    with_reducible rfl
                  rotate_left
                  · simp only [Act.put, List.setIfInBounds_toArray, List.set_cons_zero, List.set_cons_succ, i64_w, i32_w]
                    rfl
                  refine pure_ (i := 3) (N := some 29) (v := ?_) (a' := ?_) #[false, true, true, true, false, false, false, false, false, false, false] rfl rfl (any_of HT_.out (by kernel_rfl)) (fun _ _ _ h => h) (Or.inl ⟨by rfl, ?_⟩) ?_ ?_
                  rotate_left
                  · intro w'
                    go_simp
                    with_reducible rfl
                  rotate_left
                  · simp only [Act.put, List.setIfInBounds_toArray, List.set_cons_zero, List.set_cons_succ, i64_w, i32_w]
                    rfl
                  refine pure_ (i := 5) (N := some 31) (v := ?_) (a' := ?_) #[false, true, true, true, false, true, false, false, false, false, false] rfl rfl (any_of HT_.out (by kernel_rfl)) (fun _ _ _ h => h) (Or.inl ⟨by rfl, ?_⟩) ?_ ?_
                  rotate_left
                  · intro w'
                    go_simp
                    with_reducible rfl
                  rotate_left
                  · simp only [Act.put, List.setIfInBounds_toArray, List.set_cons_zero, List.set_cons_succ, i64_w, i32_w]
                    rfl
                  refine pure_ (i := 6) (N := some 32) (v := ?_) (a' := ?_) #[false, true, true, true, false, true, true, false, false, false, false] rfl rfl (any_of HT_.out (by kernel_rfl)) (fun _ _ _ h => h) (Or.inl ⟨by rfl, ?_⟩) ?_ ?_
                  rotate_left
                  · intro w'
                    go_simp
                    with_reducible rfl
                  rotate_left
                  · simp only [Act.put, List.setIfInBounds_toArray, List.set_cons_zero, List.set_cons_succ, i64_w, i32_w]
                    rfl
                  refine pure_ (i := 7) (N := some 33) (v := ?_) (a' := ?_) #[false, true, true, true, false, true, true, true, false, false, false] rfl rfl (any_of HT_.out (by kernel_rfl)) (fun _ _ _ h => h) (Or.inl ⟨by rfl, ?_⟩) ?_ ?_
                  rotate_left
                  · intro w'
                    go_simp
                    with_reducible rfl
                  rotate_left
                  · simp only [Act.put, List.setIfInBounds_toArray, List.set_cons_zero, List.set_cons_succ, i64_w, i32_w]
                    rfl
                  refine pure_ (i := 8) (N := some 34) (v := ?_) (a' := ?_) #[false, true, true, true, false, true, true, true, true, false, false] rfl rfl (any_of HT_.out (by kernel_rfl)) (fun _ _ _ h => h) (Or.inl ⟨by rfl, ?_⟩) ?_ ?_
                  rotate_left
                  · intro w'
                    go_simp
                    with_reducible rfl
                  rotate_left
                  · simp only [Act.put, List.setIfInBounds_toArray, List.set_cons_zero, List.set_cons_succ, i64_w, i32_w]
                    rfl
                  refine take_ (i := 0) (N := some 26) (v := ?_) (a' := ?_) #[true, true, true, true, false, true, true, true, true, false, false] rfl rfl (take_ofW HT_.out HW_.out (by kernel_rfl)) (fun _ _ _ h => h) (Or.inl ⟨by rfl, ?_⟩) hHeld ?_ ?_
                  rotate_left
                  · rintro w' ⟨s0, s1, s2, s3, s4, s5, s6, s7⟩
                    go_simp
                    with_reducible rfl
                  rotate_left
                  · simp only [Act.put, List.setIfInBounds_toArray, List.set_cons_zero, List.set_cons_succ, i64_w, i32_w]
                    rfl
                  refine take_ (i := 4) (N := some 30) (v := ?_) (a' := ?_) #[true, true, true, true, true, true, true, true, true, false, false] rfl rfl (take_ofW HT_.out HW_.out (by kernel_rfl)) (fun _ _ _ h => h) (Or.inl ⟨by rfl, ?_⟩) hHeld ?_ ?_
                  rotate_left
                  · rintro w' ⟨s0, s1, s2, s3, s4, s5, s6, s7⟩
                    go_simp
                    with_reducible rfl
                  rotate_left
                  · simp only [Act.put, List.setIfInBounds_toArray, List.set_cons_zero, List.set_cons_succ, i64_w, i32_w]
                    rfl
                  refine take_ (i := 9) (N := some 35) (v := ?_) (a' := ?_) #[true, true, true, true, true, true, true, true, true, true, false] rfl rfl (take_ofW HT_.out HW_.out (by kernel_rfl)) (fun _ _ _ h => h) (Or.inl ⟨by rfl, ?_⟩) hHeld ?_ ?_
                  rotate_left
                  · rintro w' ⟨s0, s1, s2, s3, s4, s5, s6, s7⟩
                    go_simp
                    with_reducible rfl
                  rotate_left
                  · simp only [Act.put, List.setIfInBounds_toArray, List.set_cons_zero, List.set_cons_succ, i64_w, i32_w]
                    rfl
                  refine one_ (i := 10) (N := some 36) #[true, true, true, true, true, true, true, true, true, true, true] rfl rfl (one_of HT_.out (by kernel_rfl)) (by decide) (fun K hK => ?_)
                  refine goes_ Try.func165 (by kernel_rfl) rfl #[.agg #[.int .i64 ((rd_T64 l1 ((rd_T67 l2 x10_1).f0)).f0), .int .i64 ((rd_T64 l1 ((rd_T67 l2 x10_1).f0)).f1), .int .i64 ((rd_T64 l1 ((rd_T67 l2 x10_1).f0)).f2)], .int .i64 (rd l3 x10_1), .int .i64 ((rd_T67 l2 x10_1).f3)] (by rfl) rfl rfl (by (try simp only [List.map_toArray, List.map_cons, List.map_nil]); first | done | rfl | (simp only [List.length_drop, List.length_take]; rfl)) ?_
                  with_reducible refine (spec_l6Held.calls ((rd_T64 l1 ((rd_T67 l2 x10_1).f0)).f0) ((rd_T64 l1 ((rd_T67 l2 x10_1).f0)).f1) ((rd_T64 l1 ((rd_T67 l2 x10_1).f0)).f2) (rd l3 x10_1) ((rd_T67 l2 x10_1).f3) false _ A10.out).mono ?_
                  rintro e w25 ⟨rfl, hb⟩
                  refine ⟨_, rfl, ?_⟩
                  have n0_ := Aside0.mk (blk_below (g := gb103) (o := .cells #[.int .i64 ((rd_T64 l1 ((rd_T67 l2 x10_1).f0)).f0), .int .i64 ((rd_T64 l1 ((rd_T67 l2 x10_1).f0)).f1), .int .i64 ((rd_T64 l1 ((rd_T67 l2 x10_1).f0)).f2)] 64 (0, 0)) (by (with_reducible repeat (first | refine blk_drewN ?_ _ | refine blk_drew ?_ | refine blk_alloc ?_ _)); exact BK103.out) hb)
                  have n1_ := Aside0.mk (below_step (by repeat (first | (with_reducible first | exact HB.out | apply below_alloc | apply pw_below_drewN | apply below_drew1 | refine below_set ?_ GE103.out) | exact HB.out)) hb)
                  clear BK103
                  clear HB
                  have BK103 := n0_
                  have HB := n1_
                  clear n0_ n1_
                  (try clear hb)
                  (try clear hb2)
                  (try clear hk)
                  (try clear hi)
                  refine hK.out _ _ ⟨(blk_cell BK103.out 0).trans rfl, (blk_cell BK103.out 1).trans rfl, (blk_cell BK103.out 2).trans rfl, ((HB.out.cell (World.block_lt_of_cell? w _ hw104_0)).trans hw104_0), ((HB.out.cell (World.block_lt_of_cell? w _ hw105_0)).trans hw105_0), ((HB.out.cell (World.block_lt_of_cell? w _ hw105_1)).trans hw105_1), ((HB.out.cell (World.block_lt_of_cell? w _ hw105_2)).trans hw105_2), ((HB.out.cell (World.block_lt_of_cell? w _ hw105_3)).trans hw105_3)⟩ (fun hHeld => ?_)
                  clear hK K
                  refine norm_ (a' := ?_) ?_ ?_
                  rotate_left
                  · show Act.put _ (some 36) _ = _
                    simp only [Act.put, List.setIfInBounds_toArray, List.set_cons_zero, List.set_cons_succ, i64_w, i32_w]
                    rfl
                  refine done_ (done_of HT_.out (by kernel_rfl)) ?_
                  try go_wp2
                  go_roundg k1
                  case measure => have := HK1.out; omega
                  case rel => exact ⟨(x9_1), (wrap64 (x10_1 + 1)), (by first | rfl | (simp; done) | (simp [*]; done) | (simp only [i64_w, i32_w]; done) | (simp [*, i64_w, i32_w]; done)), (by first | rfl | (simp; done) | (simp [*]; done) | (simp only [i64_w, i32_w]; done) | (simp [*, i64_w, i32_w]; done)), H', ⟨by have := HK1.out; omega⟩, ⟨by repeat (first | (with_reducible first | exact HB.out | apply below_alloc | apply pw_below_drewN | apply below_drew1 | refine below_set ?_ GE103.out) | exact HB.out)⟩⟩
              · rw [if_neg c9] at H
                exact absurd H (by simp)
            · rw [if_neg c8] at H
              exact absurd H (by simp)
          · rw [if_neg c7] at H
            exact absurd H (by simp)
        · rw [if_neg c6] at H
          exact absurd H (by simp)
      · rw [if_neg c5] at H
        have c5b0 : decide (x10_1 < (l2.length : Int)) = false := decide_eq_false c5
        clear c5
        obtain rfl := Option.some.inj H
        go_wp2
        go_ret
        exact ⟨by first | rfl | (simp [errW_none, errW_some] <;> rfl) | (simp [*, errW_none, errW_some] <;> rfl), by repeat (first | (with_reducible first | exact HB.out | apply below_alloc | apply pw_below_drewN | apply below_drew1) | exact HB.out)⟩



/-! ### spec_SectionsValid: function 133 (given) -/
open Go.Proofs.Ytonifhkplniblaa.Walk
theorem l1In_quiet (a b c : Int) (W : World) : Calls Try.prog 96 #[.int .i64 a, .int .i64 b, .int .i64 c] W fun e w' => e = .returned (.bool (decide (b ≤ a ∧ a ≤ c))) ∧ ∃ m, w' = W.drewN m := by
  have h : spec_l1In.f a b c = some (decide (b ≤ a ∧ a ≤ c)) := by
    unfold spec_l1In.f
    by_cases h : a ≥ b
    · have h' : b ≤ a := h
      simp [h, h']
    · have h' : ¬ b ≤ a := h
      simp [h, h']
  refine (spec_l1In.calls a b c _ W h).mono ?_
  rintro e w' ⟨rfl, hd⟩
  exact ⟨rfl, hd.out⟩
def sSecBad (x : S64) (t : S62) : Bool := decide (x.f1 = 0 ∧ ¬ (x.f0 = 0 ∧ x.f2 = 0)) || (!decide (0 ≤ x.f1 ∧ x.f1 ≤ t.f0) || (!decide (0 ≤ x.f0 ∧ x.f0 ≤ wrap64 (t.f0 - x.f1)) || !decide (0 ≤ x.f2 ∧ x.f2 ≤ 2)))
def spec_SectionsValid.l0 : Nat → List (S62) → List (S64) → Nat → Bool
  | 0, _, _, _ => true
  | n + 1, s, l, j => if sSecBad (l.getD j z64) (s.getD j z62) = true then false else spec_SectionsValid.l0 n s l (j + 1)
def spec_SectionsValid.f (k : Nat) (l0 : List (S62)) (l1 : List (S64)) : Option Bool := (spec_SetValid.f k l0).bind fun b => some (b && (decide (l1.length = l0.length) && spec_SectionsValid.l0 l1.length l0 l1 0))
theorem spec_SectionsValid.mono : ∀ a0 a1 k, LeO (spec_SectionsValid.f k a0 a1) (spec_SectionsValid.f (k + 1) a0 a1) := by
  intro a0 a1 k
  unfold spec_SectionsValid.f
  exact LeO.bind (spec_SetValid.mono _ _) (fun _ => LeO.refl _)
set_option maxHeartbeats 4000000 in
set_option maxRecDepth 100000 in
theorem spec_SectionsValid.calls (k : Nat) (A0 : Option Addr) (c0 : Nat) (l0 : List (S62)) (A1 : Option Addr) (c1 : Nat) (l1 : List (S64)) (r : Bool) (w : World) (hr0 : Kd.C k62 w A0 l0.length l0) (hc0 : l0.length ≤ c0) (hr1 : Kd.C k64 w A1 l1.length l1) (hc1 : l1.length ≤ c1) (h : spec_SectionsValid.f k l0 l1 = some r) :
    Calls Try.prog 133 #[.slice A0 l0.length c0, .slice A1 l1.length c1] w fun e w' => e = .returned (.bool r) ∧ Below w.heap.size w w' := by
  unfold spec_SectionsValid.f at h
  obtain ⟨b, hb⟩ : ∃ b, spec_SetValid.f k l0 = some b := by
    cases hs : spec_SetValid.f k l0 with
    | none => rw [hs] at h; cases h
    | some b => exact ⟨b, rfl⟩
  rw [hb, Option.bind_some] at h
  obtain rfl := Option.some.inj h
  clear h
  have HS := Lib.hid (spec_SetValid.calls k A0 c0 l0 b w hr0 hc0 hb)
  cases b with
  | false =>
    clear hr0 hc0 hr1 hc1 hb
    go_enter Try.func133, Try.ntmps133
    go_wp2_with (go_at_call 95; refine HS.out.mono ?_; rintro e w2 ⟨rfl, hb2⟩)
    go_ret
    exact ⟨by simp, hb2⟩
  | true =>
    by_cases h2 : l1.length = l0.length
    · have h2b : ((l1.length : Int) == (l0.length : Int)) = true := by rw [beq_iff_eq]; omega
      have h2c : ((l1.length : Int) != (l0.length : Int)) = false := by rw [bne_eq_false_iff_eq]; omega
      have h2d : (l1.length == l0.length) = true := by rw [beq_iff_eq]; exact h2
      have h2e : (l1.length != l0.length) = false := by rw [bne_eq_false_iff_eq]; exact h2
      have H2 := Lib.hid h2
      have HR0 := Aside0.mk hr0
      have HR1 := Aside0.mk hr1
      have hmx : l1.length ≤ 9223372036854775807 := hr1.2.1
      clear hr0 hc0 hr1 hc1 hb h2
      go_enter Try.func133, Try.ntmps133
      go_wp2_with (go_at_call 95; refine HS.out.mono ?_; rintro e w2 ⟨rfl, hb2⟩; have HB := Aside0.mk hb2; clear hb2)
      go_loopw [5] (fun v5 w' => ∃ j : Nat, v5 = .int .i64 j ∧ Aside0 (j ≤ l1.length ∧ spec_SectionsValid.l0 l1.length l0 l1 0 = spec_SectionsValid.l0 (l1.length - j) l0 l1 j) ∧ Aside0 (Below w.heap.size w w')) (fun v5 _ => l1.length - (intOf v5).toNat)
      case atStart => exact ⟨0, rfl, ⟨Nat.zero_le _, rfl⟩, HB⟩
      case round =>
        clear HB
        obtain ⟨j, rfl, ⟨HJ⟩, HB⟩ := hrel
        by_cases hlt : j < l1.length
        · have b1 : decide ((j : Int) < (l1.length : Int)) = true := decide_eq_true (by omega)
          have hlt0 : j < l0.length := by have := H2.out; omega
          obtain ⟨ad1, e1, hx0, hx1, hx2⟩ := at_T64 HR1.out (j : Int) (by omega) (by omega)
          cases e1
          obtain ⟨ad0, e0, hy0, hy1, hy2⟩ := at_T62 HR0.out (j : Int) (by omega) (by omega)
          cases e0
          replace hx0 := (HB.out.cell (World.block_lt_of_cell? w _ hx0)).trans hx0
          replace hx1 := (HB.out.cell (World.block_lt_of_cell? w _ hx1)).trans hx1
          replace hx2 := (HB.out.cell (World.block_lt_of_cell? w _ hx2)).trans hx2
          replace hy0 := (HB.out.cell (World.block_lt_of_cell? w _ hy0)).trans hy0
          simp only [Int.toNat_natCast] at hx0 hx1 hx2 hy0
          have hrd : rd_T64 l1 (j : Int) = l1.getD j z64 := rfl
          have hrd2 : rd_T62 l0 (j : Int) = l0.getD j z62 := rfl
          rw [hrd] at hx0 hx1 hx2
          rw [hrd2] at hy0
          obtain ⟨x, hx⟩ : ∃ x, x = l1.getD j z64 := ⟨_, rfl⟩
          obtain ⟨y, hy⟩ : ∃ y, y = l0.getD j z62 := ⟨_, rfl⟩
          rw [← hx] at hx0 hx1 hx2
          rw [← hy] at hy0
          have hstep : spec_SectionsValid.l0 (l1.length - j) l0 l1 j = if sSecBad x y = true then false else spec_SectionsValid.l0 (l1.length - (j + 1)) l0 l1 (j + 1) := by
            obtain ⟨d, hd⟩ : ∃ d, l1.length - j = d + 1 := ⟨l1.length - j - 1, by omega⟩
            rw [hd, show l1.length - (j + 1) = d by omega, hx, hy]
            rfl
          have HST := Aside0.mk hstep
          have HJA := Aside0.mk HJ
          have q0 : 0 ≤ (j : Int) := by omega
          have q1 : (j : Int) < (l1.length : Int) := by omega
          have q2 : (j : Int) < (l0.length : Int) := by omega
          clear hstep HJ hx hy hrd hrd2 hy1 hy2
          obtain ⟨xa, xb, xc⟩ := x
          obtain ⟨ya, yb, yc⟩ := y
          obtain ⟨b1, hb1⟩ : ∃ b, b = decide (0 ≤ xb ∧ xb ≤ ya) := ⟨_, rfl⟩
          obtain ⟨b2, hb2⟩ : ∃ b, b = decide (0 ≤ xa ∧ xa ≤ wrap64 (ya - xb)) := ⟨_, rfl⟩
          obtain ⟨b3, hb3⟩ : ∃ b, b = decide (0 ≤ xc ∧ xc ≤ 2) := ⟨_, rfl⟩
          have hyA : (wr.alloc (.cells #[.int .i64 xa, .int .i64 xb, .int .i64 xc] 64)).cell? (ad0.add (j * 3)) = some (.int .i64 ya) := ((below_alloc (Below.refl _ _) _).cell (World.block_lt_of_cell? _ _ hy0)).trans hy0
          have Q1 := Lib.hid (fun W => hb1 ▸ l1In_quiet xb 0 ya W)
          have Q2 := Lib.hid (fun W => hb2 ▸ l1In_quiet xa 0 (wrap64 (ya - xb)) W)
          have Q3 := Lib.hid (fun W => hb3 ▸ l1In_quiet xc 0 2 W)
          by_cases hb : xb = 0
          · have e1 : (xb == 0) = true := by rw [beq_iff_eq]; exact hb
            by_cases ha : xa = 0
            · have e2 : (xa == 0) = true := by rw [beq_iff_eq]; exact ha
              have e3 : (xa != 0) = false := by rw [bne_eq_false_iff_eq]; exact ha
              by_cases hc : xc = 0
              · have e4 : (xc == 0) = true := by rw [beq_iff_eq]; exact hc
                have e5 : (xc != 0) = false := by rw [bne_eq_false_iff_eq]; exact hc
                have HS2 := Lib.hid (show sSecBad ⟨xa, xb, xc⟩ ⟨ya, yb, yc⟩ = (!b1 || (!b2 || !b3)) by unfold sSecBad; rw [decide_eq_false (p := _ ∧ ¬ _) (fun h => h.2 ⟨ha, hc⟩), Bool.false_or, hb1, hb2, hb3])
                clear hb1 hb2 hb3 ha hb hc
                cases b1 with
                | false => ((go_wp2_with fail; go_quiet ((go_at_call 96; with_reducible first | exact Calls.quiet_of (Q1.out _) | exact Calls.quiet_of (Q2.out _) | exact Calls.quiet_of (Q3.out _) | (rw [i64_w]; exact Calls.quiet_of (Q2.out _)))); go_wp2_with fail)); ((go_ret; refine ⟨?_, pw_below_drewN (below_alloc HB.out _) _⟩; rw [HJA.out.2, HST.out, HS2.out]; simp))
                | true =>
                  cases b2 with
                  | false => ((go_wp2_with fail; go_quiet ((go_at_call 96; with_reducible first | exact Calls.quiet_of (Q1.out _) | exact Calls.quiet_of (Q2.out _) | exact Calls.quiet_of (Q3.out _) | (rw [i64_w]; exact Calls.quiet_of (Q2.out _)))); go_wp2_with fail)); ((go_ret; refine ⟨?_, pw_below_drewN (below_alloc HB.out _) _⟩; rw [HJA.out.2, HST.out, HS2.out]; simp))
                  | true =>
                    cases b3 with
                    | false => ((go_wp2_with fail; go_quiet ((go_at_call 96; with_reducible first | exact Calls.quiet_of (Q1.out _) | exact Calls.quiet_of (Q2.out _) | exact Calls.quiet_of (Q3.out _) | (rw [i64_w]; exact Calls.quiet_of (Q2.out _)))); go_wp2_with fail)); ((go_ret; refine ⟨?_, pw_below_drewN (below_alloc HB.out _) _⟩; rw [HJA.out.2, HST.out, HS2.out]; simp))
                    | true => ((go_wp2_with fail; go_quiet ((go_at_call 96; with_reducible first | exact Calls.quiet_of (Q1.out _) | exact Calls.quiet_of (Q2.out _) | exact Calls.quiet_of (Q3.out _) | (rw [i64_w]; exact Calls.quiet_of (Q2.out _)))); go_wp2_with fail)); ((refine ⟨⟨j + 1, by simp, ⟨by omega, ?_⟩, ⟨pw_below_drewN (below_alloc HB.out _) _⟩⟩, ?_⟩; (rw [HJA.out.2, HST.out, HS2.out]; rfl); (show l1.length - ((j : Int) + 1).toNat < l1.length - (j : Int).toNat); omega))
              · have e4 : (xc == 0) = false := by rw [beq_eq_false_iff_ne]; exact hc
                have e5 : (xc != 0) = true := by rw [bne_iff_ne]; exact hc
                have HA := Lib.hid (show sSecBad ⟨xa, xb, xc⟩ ⟨ya, yb, yc⟩ = true by unfold sSecBad; rw [decide_eq_true (p := _ ∧ ¬ _) ⟨hb, fun h => hc h.2⟩, Bool.true_or])
                clear hb1 hb2 hb3 ha hb hc
                ((go_wp2_with fail; go_quiet ((go_at_call 96; with_reducible first | exact Calls.quiet_of (Q1.out _) | exact Calls.quiet_of (Q2.out _) | exact Calls.quiet_of (Q3.out _) | (rw [i64_w]; exact Calls.quiet_of (Q2.out _)))); go_wp2_with fail))
                ((go_ret; refine ⟨?_, pw_below_drewN (below_alloc HB.out _) _⟩; rw [HJA.out.2, HST.out, HA.out]; simp))
            · have e2 : (xa == 0) = false := by rw [beq_eq_false_iff_ne]; exact ha
              have e3 : (xa != 0) = true := by rw [bne_iff_ne]; exact ha
              have HA := Lib.hid (show sSecBad ⟨xa, xb, xc⟩ ⟨ya, yb, yc⟩ = true by unfold sSecBad; rw [decide_eq_true (p := _ ∧ ¬ _) ⟨hb, fun h => ha h.1⟩, Bool.true_or])
              clear hb1 hb2 hb3 ha hb
              ((go_wp2_with fail; go_quiet ((go_at_call 96; with_reducible first | exact Calls.quiet_of (Q1.out _) | exact Calls.quiet_of (Q2.out _) | exact Calls.quiet_of (Q3.out _) | (rw [i64_w]; exact Calls.quiet_of (Q2.out _)))); go_wp2_with fail))
              ((go_ret; refine ⟨?_, pw_below_drewN (below_alloc HB.out _) _⟩; rw [HJA.out.2, HST.out, HA.out]; simp))
          · have e1 : (xb == 0) = false := by rw [beq_eq_false_iff_ne]; exact hb
            have HS2 := Lib.hid (show sSecBad ⟨xa, xb, xc⟩ ⟨ya, yb, yc⟩ = (!b1 || (!b2 || !b3)) by unfold sSecBad; rw [decide_eq_false (p := _ ∧ ¬ _) (fun h => hb h.1), Bool.false_or, hb1, hb2, hb3])
            clear hb1 hb2 hb3 hb
            cases b1 with
            | false => ((go_wp2_with fail; go_quiet ((go_at_call 96; with_reducible first | exact Calls.quiet_of (Q1.out _) | exact Calls.quiet_of (Q2.out _) | exact Calls.quiet_of (Q3.out _) | (rw [i64_w]; exact Calls.quiet_of (Q2.out _)))); go_wp2_with fail)); ((go_ret; refine ⟨?_, pw_below_drewN (below_alloc HB.out _) _⟩; rw [HJA.out.2, HST.out, HS2.out]; simp))
            | true =>
              cases b2 with
              | false => ((go_wp2_with fail; go_quiet ((go_at_call 96; with_reducible first | exact Calls.quiet_of (Q1.out _) | exact Calls.quiet_of (Q2.out _) | exact Calls.quiet_of (Q3.out _) | (rw [i64_w]; exact Calls.quiet_of (Q2.out _)))); go_wp2_with fail)); ((go_ret; refine ⟨?_, pw_below_drewN (below_alloc HB.out _) _⟩; rw [HJA.out.2, HST.out, HS2.out]; simp))
              | true =>
                cases b3 with
                | false => ((go_wp2_with fail; go_quiet ((go_at_call 96; with_reducible first | exact Calls.quiet_of (Q1.out _) | exact Calls.quiet_of (Q2.out _) | exact Calls.quiet_of (Q3.out _) | (rw [i64_w]; exact Calls.quiet_of (Q2.out _)))); go_wp2_with fail)); ((go_ret; refine ⟨?_, pw_below_drewN (below_alloc HB.out _) _⟩; rw [HJA.out.2, HST.out, HS2.out]; simp))
                | true => ((go_wp2_with fail; go_quiet ((go_at_call 96; with_reducible first | exact Calls.quiet_of (Q1.out _) | exact Calls.quiet_of (Q2.out _) | exact Calls.quiet_of (Q3.out _) | (rw [i64_w]; exact Calls.quiet_of (Q2.out _)))); go_wp2_with fail)); ((refine ⟨⟨j + 1, by simp, ⟨by omega, ?_⟩, ⟨pw_below_drewN (below_alloc HB.out _) _⟩⟩, ?_⟩; (rw [HJA.out.2, HST.out, HS2.out]; rfl); (show l1.length - ((j : Int) + 1).toNat < l1.length - (j : Int).toNat); omega))
        · have b1 : decide ((j : Int) < (l1.length : Int)) = false := decide_eq_false (by omega)
          have HJA := Lib.hid (show spec_SectionsValid.l0 l1.length l0 l1 0 = true by rw [HJ.2, show l1.length - j = 0 by omega]; rfl)
          have b2 : decide (j < l1.length) = false := decide_eq_false hlt
          clear HJ
          go_wp2_with fail
          go_ret
          exact ⟨by rw [HJA.out, decide_eq_true H2.out]; rfl, HB.out⟩
    · have h2b : ((l1.length : Int) == (l0.length : Int)) = false := by rw [beq_eq_false_iff_ne]; omega
      have h2c : ((l1.length : Int) != (l0.length : Int)) = true := by rw [bne_iff_ne]; omega
      have h2d : (l1.length == l0.length) = false := by rw [beq_eq_false_iff_ne]; exact h2
      have h2e : (l1.length != l0.length) = true := by rw [bne_iff_ne]; exact h2
      have H2 := Lib.hid h2
      clear hr0 hc0 hr1 hc1 hb h2
      go_enter Try.func133, Try.ntmps133
      go_wp2_with (go_at_call 95; refine HS.out.mono ?_; rintro e w2 ⟨rfl, hb2⟩)
      go_ret
      exact ⟨by simp [H2.out], hb2⟩

end Go.Proofs.Ytonifhkplniblaa.Print
