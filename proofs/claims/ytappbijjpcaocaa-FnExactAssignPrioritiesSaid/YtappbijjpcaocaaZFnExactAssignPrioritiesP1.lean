/- Functions of the translation as plain Lean functions, and their contracts. No condition. -/
import Derived.Test.YtappbijjpcaocaaPB
import Derived.Test.YtappbijjpcaocaaZFnExactAssignPrioritiesP0
namespace Go.Proofs.Ytappbijjpcaocaa.Print
open Go.RowKit Go.Proofs.YtappbijjpcaocaaW.PrintWords Go.Proofs.YtappbijjpcaocaaW.PrintLast Go.Proofs.YtappbijjpcaocaaW.PrintMore
attribute [local go_sem] max2_int min2_int max_two min_two max_three min_three max_four min_four   -- for this text's walks alone
set_option linter.unusedVariables false
set_option linter.unusedSimpArgs false

/-! ### spec_l4Index: function 47 -/
def spec_l4Index.l0 : Nat → List Int → Int → Int → Option (Int)
  | 0, _, _, _ => none
  | k + 1, x0, x1, x5 => if x5 < (x0.length : Int) then (if 0 ≤ x5 then (if (rd x0 x5) = x1 then (some x5) else (spec_l4Index.l0 k x0 x1 (wrap64 (x5 + 1)))) else (none)) else (some (-1))
def spec_l4Index.f (k : Nat) (l0 : List Int) (a1 : Int) : Option (Int) := spec_l4Index.l0 k l0 a1 0
theorem spec_l4Index.mono_l : ∀ k, (∀ y0 y1 y2, LeO (spec_l4Index.l0 k y0 y1 y2) (spec_l4Index.l0 (k + 1) y0 y1 y2))
  | 0 => fun _ _ _ r h => by simp [spec_l4Index.l0] at h
  | k + 1 => by
    have ih0 := spec_l4Index.mono_l k
    · intro y0 y1 y2
      unfold spec_l4Index.l0
      repeat' first
      | (with_reducible exact ih0 _ _ _)
      | (with_reducible exact LeO.refl _)
      | (with_reducible exact LeO.none _)
      | (with_reducible refine LeO.ite ?_ ?_)
      | (with_reducible refine LeO.bind ?_ (fun _ => ?_))
      | exact ih0 _ _ _
      | exact LeO.none _
      | refine LeO.ite ?_ ?_
      | refine LeO.bind ?_ (fun _ => ?_)
theorem spec_l4Index.mono : ∀ a0 a1 k, LeO (spec_l4Index.f k a0 a1) (spec_l4Index.f (k + 1) a0 a1) := by
  intro a0 a1 k
  have ih0 := spec_l4Index.mono_l k
  unfold spec_l4Index.f
  repeat' first
      | (with_reducible exact ih0 _ _ _)
      | (with_reducible exact LeO.refl _)
      | (with_reducible exact LeO.none _)
      | (with_reducible refine LeO.ite ?_ ?_)
      | (with_reducible refine LeO.bind ?_ (fun _ => ?_))
      | exact ih0 _ _ _
      | exact LeO.none _
      | refine LeO.ite ?_ ?_
      | refine LeO.bind ?_ (fun _ => ?_)
set_option maxHeartbeats 8000000 in
set_option maxRecDepth 100000 in
theorem spec_l4Index.calls (k : Nat) (A0 : Option Addr) (c0 : Nat) (l0 : List Int) (a1 : Int) (r : Int) (w : World) (hr0 : Kd.C (Kd.int .i64) w A0 l0.length l0) (hc0 : l0.length ≤ c0) (h : spec_l4Index.f k l0 a1 = some r) :
    Calls Try.prog 47 #[.slice A0 l0.length c0, .int .i64 a1] w fun e w' => e = .returned (.int .i64 r) ∧ Drawn0 w w' := by
  have HR0 := Aside0.mk hr0
  have HC0 := Aside0.mk hc0
  clear hr0 hc0
  have H : (spec_l4Index.l0 k l0 a1 0) = some r := h
  clear h
  have H' := Aside0.mk H
  clear H
  go_enter Try.func47, Try.ntmps47
  go_wp2
  go_loopg [5] k (fun kq v5 w' => ∃ (x5_1 : Int), v5 = .int .i64 x5_1 ∧ Aside0 (spec_l4Index.l0 kq l0 a1 x5_1 = some r) ∧ Aside0 (kq ≤ k) ∧ Drawn0 w w')
  case atStart => exact ⟨(0), (by first | rfl | (simp; done) | (simp [*]; done) | (simp only [i64_w, i32_w]; done) | (simp [*, i64_w, i32_w]; done)), H', ⟨Nat.le_refl _⟩, by repeat (first | exact Drawn0.refl _ | apply Drawn0.step)⟩
  case round =>
    clear H'
    try clear p2
    obtain ⟨x5_1, rfl, HA, HK1, ⟨m1, rfl⟩⟩ := hrel
    cases gk with
    | zero => exact absurd HA.out (by simp [spec_l4Index.l0])
    | succ k1 =>
      have H := HA.out
      clear HA
      simp only [spec_l4Index.l0] at H
      by_cases c3 : x5_1 < (l0.length : Int)
      · rw [if_pos c3] at H
        have c3b0 : decide (x5_1 < (l0.length : Int)) = true := decide_eq_true c3
        clear c3
        by_cases c4 : 0 ≤ x5_1
        · rw [if_pos c4] at H
          have c4b0 : decide (0 ≤ x5_1) = true := decide_eq_true c4
          clear c4
          by_cases c5 : (rd l0 x5_1) = a1
          · rw [if_pos c5] at H
            have c5b0 : ((rd l0 x5_1) == a1) = true := beq_iff_eq.mpr c5
            have c5b1 : ((rd l0 x5_1) != a1) = false := bne_eq_false_iff_eq.mpr c5
            clear c5
            obtain rfl := Option.some.inj H
            have p101 : 0 ≤ (x5_1 : Int) := of_decide_eq_true (by first | (with_reducible assumption) | assumption)
            have q101 : x5_1 < (l0.length : Int) := of_decide_eq_true (by first | (with_reducible assumption) | assumption)
            obtain ⟨ad101, e101, hx101_0⟩ := Kd.at_int HR0.out x5_1 p101 q101
            cases e101
            replace p101 := eq_true p101
            replace q101 := eq_true q101
            go_wp2
            go_ret
            exact ⟨by first | rfl | (simp; done) | (simp [*]; done) | (simp only [i64_w, i32_w]; done) | (simp [*, i64_w, i32_w]; done), by repeat (first | exact Drawn0.refl _ | apply Drawn0.step)⟩
          · rw [if_neg c5] at H
            have c5b0 : ((rd l0 x5_1) == a1) = false := beq_eq_false_iff_ne.mpr c5
            have c5b1 : ((rd l0 x5_1) != a1) = true := bne_iff_ne.mpr c5
            have H' := Aside0.mk H
            clear H
            have p101 : 0 ≤ (x5_1 : Int) := of_decide_eq_true (by first | (with_reducible assumption) | assumption)
            have q101 : x5_1 < (l0.length : Int) := of_decide_eq_true (by first | (with_reducible assumption) | assumption)
            obtain ⟨ad101, e101, hx101_0⟩ := Kd.at_int HR0.out x5_1 p101 q101
            cases e101
            replace p101 := eq_true p101
            replace q101 := eq_true q101
            go_wp2
            go_roundg k1
            case measure => have := HK1.out; omega
            case rel => exact ⟨(wrap64 (x5_1 + 1)), (by first | rfl | (simp; done) | (simp [*]; done) | (simp only [i64_w, i32_w]; done) | (simp [*, i64_w, i32_w]; done)), H', ⟨by have := HK1.out; omega⟩, by repeat (first | exact Drawn0.refl _ | apply Drawn0.step)⟩
        · rw [if_neg c4] at H
          exact absurd H (by simp)
      · rw [if_neg c3] at H
        have c3b0 : decide (x5_1 < (l0.length : Int)) = false := decide_eq_false c3
        clear c3
        obtain rfl := Option.some.inj H
        go_wp2
        go_ret
        exact ⟨by first | rfl | (simp; done) | (simp [*]; done) | (simp only [i64_w, i32_w]; done) | (simp [*, i64_w, i32_w]; done), by repeat (first | exact Drawn0.refl _ | apply Drawn0.step)⟩



/-! ### spec_l4Others: function 66 -/
def spec_l4Others.l0 : Nat → Int → Int → List Int → List Int → Int → Option (List Int)
  | 0, _, _, _, _, _ => none
  | k + 1, x0, x1, x2, x7, x8 => if x8 < x0 then (if x8 = x1 then (spec_l4Others.l0 k x0 x1 x2 x7 (wrap64 (x8 + 1))) else ((spec_l4Index.f k x2 x8).bind fun t104 => (if t104 < 0 then (if x7.length < 17592186044416 then (spec_l4Others.l0 k x0 x1 x2 (x7 ++ [x8]) (wrap64 (x8 + 1))) else (none)) else (spec_l4Others.l0 k x0 x1 x2 x7 (wrap64 (x8 + 1)))))) else (some x7)
def spec_l4Others.f (k : Nat) (a0 : Int) (a1 : Int) (l2 : List Int) : Option (List Int) := spec_l4Others.l0 k a0 a1 l2 (([] : List Int)) 0
theorem spec_l4Others.mono_l : ∀ k, (∀ y0 y1 y2 y3 y4, LeO (spec_l4Others.l0 k y0 y1 y2 y3 y4) (spec_l4Others.l0 (k + 1) y0 y1 y2 y3 y4))
  | 0 => fun _ _ _ _ _ r h => by simp [spec_l4Others.l0] at h
  | k + 1 => by
    have ih0 := spec_l4Others.mono_l k
    · intro y0 y1 y2 y3 y4
      unfold spec_l4Others.l0
      repeat' first
      | (with_reducible exact ih0 _ _ _ _ _)
      | (with_reducible exact spec_l4Index.mono _ _ _)
      | (with_reducible exact LeO.refl _)
      | (with_reducible exact LeO.none _)
      | (with_reducible refine LeO.ite ?_ ?_)
      | (with_reducible refine LeO.bind ?_ (fun _ => ?_))
      | exact ih0 _ _ _ _ _
      | exact spec_l4Index.mono _ _ _
      | exact LeO.none _
      | refine LeO.ite ?_ ?_
      | refine LeO.bind ?_ (fun _ => ?_)
theorem spec_l4Others.mono : ∀ a0 a1 a2 k, LeO (spec_l4Others.f k a0 a1 a2) (spec_l4Others.f (k + 1) a0 a1 a2) := by
  intro a0 a1 a2 k
  have ih0 := spec_l4Others.mono_l k
  unfold spec_l4Others.f
  repeat' first
      | (with_reducible exact ih0 _ _ _ _ _)
      | (with_reducible exact spec_l4Index.mono _ _ _)
      | (with_reducible exact LeO.refl _)
      | (with_reducible exact LeO.none _)
      | (with_reducible refine LeO.ite ?_ ?_)
      | (with_reducible refine LeO.bind ?_ (fun _ => ?_))
      | exact ih0 _ _ _ _ _
      | exact spec_l4Index.mono _ _ _
      | exact LeO.none _
      | refine LeO.ite ?_ ?_
      | refine LeO.bind ?_ (fun _ => ?_)
set_option maxHeartbeats 8000000 in
set_option maxRecDepth 100000 in
theorem spec_l4Others.calls (k : Nat) (a0 : Int) (a1 : Int) (A2 : Option Addr) (c2 : Nat) (l2 : List Int) (r : List Int) (w : World) (hr2 : Kd.C (Kd.int .i64) w A2 l2.length l2) (hc2 : l2.length ≤ c2) (h : spec_l4Others.f k a0 a1 l2 = some r) :
    Calls Try.prog 66 #[.int .i64 a0, .int .i64 a1, .slice A2 l2.length c2] w fun e w' => ∃ v0_ : Value, e = .returned (v0_) ∧ Kd.R (Kd.int .i64) 3 w' w.heap.size (fun _ => True) v0_ r ∧ Below w.heap.size w w' := by
  have HR2 := Aside0.mk hr2
  have HC2 := Aside0.mk hc2
  clear hr2 hc2
  have HB := Aside0.mk (Below.refl w.heap.size w)
  have H : (spec_l4Others.l0 k a0 a1 l2 (([] : List Int)) 0) = some r := h
  clear h
  obtain ⟨y101, hy101⟩ : ∃ y_ : List Int, y_ = (([] : List Int)) := ⟨_, rfl⟩
  replace H : (spec_l4Others.l0 k a0 a1 l2 y101 0) = some r := by first | (rw [hy101]; with_reducible exact H) | (have H2_ := (Option.bind_some _ _).symm.trans H; rw [hy101]; with_reducible exact H2_) | (have H2_ := (Option.bind_some _ _).symm.trans H; with_reducible exact H2_) | with_reducible exact H | (rw [hy101]; exact H) | exact H
  have Ny101 := Aside0.mk hy101
  clear hy101
  have H' := Aside0.mk H
  clear H
  go_enter Try.func66, Try.ntmps66
  go_wp2_with (first | ((with_reducible refine gate_dst (N := 9) rfl ?_); refine Kd.R_lit (Kd.int .i64) _ 3 ?hg (N := 9) ?hd (xs := ([] : List Int)) (inner := []) (ok := fun _ => True) (okp := fun _ => True) ?hr ?hp (fun _ hk => hk) trivial (Below.refl _ _) (Nat.le_refl _) (by simp) ?_; (case hd => rfl); (case hg => rfl); (case hr => first | (go_simp; done) | (go_simp; rfl)); (case hp => exact (Reps.none _ _)); intro v102 w4 ho5 hb hg_ hnew_; clear hg_ hnew_; (first | rw [← Ny101.out] at ho5 | (simp only [Int.reduceToNat] at ho5; rw [← Ny101.out] at ho5)); have n0_ := Aside0.mk (Kd.R_lower ho5 (below_size (by repeat (first | (with_reducible first | exact HB.out | apply below_alloc | apply pw_below_drewN | apply below_drew1) | exact HB.out)))); have n1_ := Aside0.mk (below_step (by repeat (first | (with_reducible first | exact HB.out | apply below_alloc | apply pw_below_drewN | apply below_drew1) | exact HB.out)) hb); clear HB; have HO103 := n0_; have HB := n1_; clear n0_ n1_; clear hb ho5))
  go_loopg [7, 8] k (fun kq v7 v8 w' => ∃ (x7_1 : List Int) (x8_1 : Int), v8 = .int .i64 x8_1 ∧ Aside0 (spec_l4Others.l0 kq a0 a1 l2 x7_1 x8_1 = some r) ∧ Aside0 (kq ≤ k) ∧ Aside0 (Kd.R (Kd.int .i64) 3 w' w.heap.size (fun _ => True) v7 x7_1) ∧ Aside0 (Below w.heap.size w w'))
  case atStart => exact ⟨(y101), (0), (by first | rfl | (simp; done) | (simp [*]; done) | (simp only [i64_w, i32_w]; done) | (simp [*, i64_w, i32_w]; done)), H', ⟨Nat.le_refl _⟩, ⟨by (with_reducible repeat (first | apply Kd.R_alloc | apply Kd.R_drewN | apply Kd.R_drew)); exact HO103.out⟩, ⟨by repeat (first | (with_reducible first | exact HB.out | apply below_alloc | apply pw_below_drewN | apply below_drew1) | exact HB.out)⟩⟩
  case round =>
    clear H'
    try clear c2
    try clear p2
    obtain ⟨x7_1, x8_1, rfl, HA, HK1, HO_7, HB⟩ := hrel
    cases gk with
    | zero => exact absurd HA.out (by simp [spec_l4Others.l0])
    | succ k1 =>
      have H := HA.out
      clear HA
      simp only [spec_l4Others.l0] at H
      by_cases c6 : x8_1 < a0
      · rw [if_pos c6] at H
        have c6b0 : decide (x8_1 < a0) = true := decide_eq_true c6
        clear c6
        by_cases c7 : x8_1 = a1
        · rw [if_pos c7] at H
          have c7b0 : (x8_1 == a1) = true := beq_iff_eq.mpr c7
          have c7b1 : (x8_1 != a1) = false := bne_eq_false_iff_eq.mpr c7
          clear c7
          have H' := Aside0.mk H
          clear H
          go_wp2
          go_roundg k1
          case measure => have := HK1.out; omega
          case rel => exact ⟨(x7_1), (wrap64 (x8_1 + 1)), (by first | rfl | (simp; done) | (simp [*]; done) | (simp only [i64_w, i32_w]; done) | (simp [*, i64_w, i32_w]; done)), H', ⟨by have := HK1.out; omega⟩, ⟨by (with_reducible repeat (first | apply Kd.R_alloc | apply Kd.R_drewN | apply Kd.R_drew)); exact HO_7.out⟩, ⟨by repeat (first | (with_reducible first | exact HB.out | apply below_alloc | apply pw_below_drewN | apply below_drew1) | exact HB.out)⟩⟩
        · rw [if_neg c7] at H
          have c7b0 : (x8_1 == a1) = false := beq_eq_false_iff_ne.mpr c7
          have c7b1 : (x8_1 != a1) = true := bne_iff_ne.mpr c7
          replace H := Option.bind_eq_some_iff.mp H
          obtain ⟨t104, A80, H⟩ := H
          replace H : (if t104 < 0 then (if x7_1.length < 17592186044416 then (spec_l4Others.l0 k1 a0 a1 l2 (x7_1 ++ [x8_1]) (wrap64 (x8_1 + 1))) else (none)) else (spec_l4Others.l0 k1 a0 a1 l2 x7_1 (wrap64 (x8_1 + 1)))) = some r := H
          have A8 := Aside0.mk A80
          clear A80
          by_cases c9 : t104 < 0
          · rw [if_pos c9] at H
            have c9b0 : decide (t104 < 0) = true := decide_eq_true c9
            clear c9
            by_cases c10 : x7_1.length < 17592186044416
            · rw [if_pos c10] at H
              have LMc10 := Aside0.mk c10
              clear c10
              obtain ⟨y105, hy105⟩ : ∃ y_ : List Int, y_ = (x7_1 ++ [x8_1]) := ⟨_, rfl⟩
              replace H : (spec_l4Others.l0 k1 a0 a1 l2 y105 (wrap64 (x8_1 + 1))) = some r := by first | (rw [hy105]; with_reducible exact H) | (have H2_ := (Option.bind_some _ _).symm.trans H; rw [hy105]; with_reducible exact H2_) | (have H2_ := (Option.bind_some _ _).symm.trans H; with_reducible exact H2_) | with_reducible exact H | (rw [hy105]; exact H) | exact H
              have Ny105 := Aside0.mk hy105
              clear hy105
              have H' := Aside0.mk H
              clear H
              go_wp2_with (first | (go_at_call 47; (with_reducible refine (spec_l4Index.calls k1 _ _ l2 x8_1 t104 _ ?side1 ?side2 A8.out).mono ?_); (case side1 => repeat (first | exact (Kd.C_below HR2.out HB.out) | (with_reducible refine Kd.C_alloc ?_ _) | (with_reducible refine Kd.C_drewN ?_ _) | (with_reducible refine Kd.C_drew ?_))); (case side2 => exact HC2.out); rintro e w' ⟨rfl, ⟨nd, rfl⟩⟩) | ((with_reducible refine gate_builtin (b := .append) (xs := #[.tmp 24, .tmp 26]) rfl ?_); at_builtin; refine Kd.R_append (Kd.int .i64) (w0 := w) w.heap.size rfl (.tmp 24) (.tmp 26) 23 3 (.int .i64 0) 8 rfl Try.underlying23 info3 rfl (by decide) (by omega) u7 x7_1 x8_1 [.int .i64 x8_1] (fun _ => True) (fun _ => False) rfl rfl ?aP (fun _ hk => hk.elim) ?aF ?aO ?aB ?aS ?aL ?_; (case aP => exact rfl); (case aB => exact (by repeat (first | (with_reducible first | exact HB.out | apply below_alloc | apply pw_below_drewN | apply below_drew1) | exact HB.out))); (case aF => exact (fun _ _ => trivial)); (case aO => exact (by (with_reducible repeat (first | apply Kd.R_alloc | apply Kd.R_drewN | apply Kd.R_drew)); exact HO_7.out)); (case aS => exact (below_size (by repeat (first | (with_reducible first | exact HB.out | apply below_alloc | apply pw_below_drewN | apply below_drew1) | exact HB.out)))); (case aL => have := LMc10.out; omega); intro v106 w11 ho hb hg hat; rw [← Ny105.out] at ho; have n0_ := Aside0.mk (hb); have n1_ := Aside0.mk (ho); clear HB; clear HO_7; have HB := n0_; have HO107 := n1_; clear n0_ n1_; clear ho hb hg hat))
              go_roundg k1
              case measure => have := HK1.out; omega
              case rel => exact ⟨(y105), (wrap64 (x8_1 + 1)), (by first | rfl | (simp; done) | (simp [*]; done) | (simp only [i64_w, i32_w]; done) | (simp [*, i64_w, i32_w]; done)), H', ⟨by have := HK1.out; omega⟩, ⟨by (with_reducible repeat (first | apply Kd.R_alloc | apply Kd.R_drewN | apply Kd.R_drew)); exact HO107.out⟩, ⟨by repeat (first | (with_reducible first | exact HB.out | apply below_alloc | apply pw_below_drewN | apply below_drew1) | exact HB.out)⟩⟩
            · rw [if_neg c10] at H
              exact absurd H (by simp)
          · rw [if_neg c9] at H
            have c9b0 : decide (t104 < 0) = false := decide_eq_false c9
            clear c9
            have H' := Aside0.mk H
            clear H
            go_wp2_with (first | (go_at_call 47; (with_reducible refine (spec_l4Index.calls k1 _ _ l2 x8_1 t104 _ ?side1 ?side2 A8.out).mono ?_); (case side1 => repeat (first | exact (Kd.C_below HR2.out HB.out) | (with_reducible refine Kd.C_alloc ?_ _) | (with_reducible refine Kd.C_drewN ?_ _) | (with_reducible refine Kd.C_drew ?_))); (case side2 => exact HC2.out); rintro e w' ⟨rfl, ⟨nd, rfl⟩⟩))
            go_roundg k1
            case measure => have := HK1.out; omega
            case rel => exact ⟨(x7_1), (wrap64 (x8_1 + 1)), (by first | rfl | (simp; done) | (simp [*]; done) | (simp only [i64_w, i32_w]; done) | (simp [*, i64_w, i32_w]; done)), H', ⟨by have := HK1.out; omega⟩, ⟨by (with_reducible repeat (first | apply Kd.R_alloc | apply Kd.R_drewN | apply Kd.R_drew)); exact HO_7.out⟩, ⟨by repeat (first | (with_reducible first | exact HB.out | apply below_alloc | apply pw_below_drewN | apply below_drew1) | exact HB.out)⟩⟩
      · rw [if_neg c6] at H
        have c6b0 : decide (x8_1 < a0) = false := decide_eq_false c6
        clear c6
        obtain rfl := Option.some.inj H
        go_wp2
        go_ret
        exact ⟨_, by first | rfl | (simp [errW_none, errW_some] <;> rfl) | (simp [*, errW_none, errW_some] <;> rfl), by (with_reducible repeat (first | apply Kd.R_alloc | apply Kd.R_drewN | apply Kd.R_drew)); exact HO_7.out, by repeat (first | (with_reducible first | exact HB.out | apply below_alloc | apply pw_below_drewN | apply below_drew1) | exact HB.out)⟩



/-! ### spec_l4Response: function 61 -/
mutual
def spec_l4Response.l0 : Nat → List (S54) → List Int → Int → Int → Option (Int)
  | 0, _, _, _, _ => none
  | k + 1, x0, x1, x2, x7 => if 0 ≤ x2 then (if x2 < (x0.length : Int) then (if x7 ≤ ((rd_T54 x0 x2).f1) then (spec_l4Response.l1 k x0 x1 x2 x7 ((rd_T54 x0 x2).f0) 0) else (some (-1))) else (none)) else (none)
def spec_l4Response.l1 : Nat → List (S54) → List Int → Int → Int → Int → Int → Option (Int)
  | 0, _, _, _, _, _, _ => none
  | k + 1, x0, x1, x2, x7, x8, x9 => if x9 < (x1.length : Int) then (if 0 ≤ x9 then (if 0 ≤ (rd x1 x9) then (if (rd x1 x9) < (x0.length : Int) then (if ((rd_T54 x0 (rd x1 x9)).f2) = 0 then (none) else (spec_l4Response.l1 k x0 x1 x2 x7 (wrap64 (x8 + (wrap64 ((wrap64 (Int.tdiv (wrap64 ((wrap64 (x7 + ((rd_T54 x0 (rd x1 x9)).f2))) - 1)) ((rd_T54 x0 (rd x1 x9)).f2))) * ((rd_T54 x0 (rd x1 x9)).f0))))) (wrap64 (x9 + 1)))) else (none)) else (none)) else (none)) else (if x8 = x7 then (some x7) else (spec_l4Response.l0 k x0 x1 x2 x8))
end
def spec_l4Response.f (k : Nat) (l0 : List (S54)) (l1 : List Int) (a2 : Int) : Option (Int) := if 0 ≤ a2 then (if a2 < (l0.length : Int) then (spec_l4Response.l0 k l0 l1 a2 ((rd_T54 l0 a2).f0)) else (none)) else (none)
theorem spec_l4Response.mono_l : ∀ k, (∀ y0 y1 y2 y3, LeO (spec_l4Response.l0 k y0 y1 y2 y3) (spec_l4Response.l0 (k + 1) y0 y1 y2 y3)) ∧ (∀ y0 y1 y2 y3 y4 y5, LeO (spec_l4Response.l1 k y0 y1 y2 y3 y4 y5) (spec_l4Response.l1 (k + 1) y0 y1 y2 y3 y4 y5))
  | 0 => ⟨fun _ _ _ _ r h => by simp [spec_l4Response.l0] at h, fun _ _ _ _ _ _ r h => by simp [spec_l4Response.l1] at h⟩
  | k + 1 => by
    obtain ⟨ih0, ih1⟩ := spec_l4Response.mono_l k
    refine ⟨?_, ?_⟩
    · intro y0 y1 y2 y3
      unfold spec_l4Response.l0
      repeat' first
      | (with_reducible exact ih0 _ _ _ _)
      | (with_reducible exact ih1 _ _ _ _ _ _)
      | (with_reducible exact LeO.refl _)
      | (with_reducible exact LeO.none _)
      | (with_reducible refine LeO.ite ?_ ?_)
      | (with_reducible refine LeO.bind ?_ (fun _ => ?_))
      | exact ih0 _ _ _ _
      | exact ih1 _ _ _ _ _ _
      | exact LeO.none _
      | refine LeO.ite ?_ ?_
      | refine LeO.bind ?_ (fun _ => ?_)
    · intro y0 y1 y2 y3 y4 y5
      unfold spec_l4Response.l1
      repeat' first
      | (with_reducible exact ih0 _ _ _ _)
      | (with_reducible exact ih1 _ _ _ _ _ _)
      | (with_reducible exact LeO.refl _)
      | (with_reducible exact LeO.none _)
      | (with_reducible refine LeO.ite ?_ ?_)
      | (with_reducible refine LeO.bind ?_ (fun _ => ?_))
      | exact ih0 _ _ _ _
      | exact ih1 _ _ _ _ _ _
      | exact LeO.none _
      | refine LeO.ite ?_ ?_
      | refine LeO.bind ?_ (fun _ => ?_)
theorem spec_l4Response.mono : ∀ a0 a1 a2 k, LeO (spec_l4Response.f k a0 a1 a2) (spec_l4Response.f (k + 1) a0 a1 a2) := by
  intro a0 a1 a2 k
  obtain ⟨ih0, ih1⟩ := spec_l4Response.mono_l k
  unfold spec_l4Response.f
  repeat' first
      | (with_reducible exact ih0 _ _ _ _)
      | (with_reducible exact ih1 _ _ _ _ _ _)
      | (with_reducible exact LeO.refl _)
      | (with_reducible exact LeO.none _)
      | (with_reducible refine LeO.ite ?_ ?_)
      | (with_reducible refine LeO.bind ?_ (fun _ => ?_))
      | exact ih0 _ _ _ _
      | exact ih1 _ _ _ _ _ _
      | exact LeO.none _
      | refine LeO.ite ?_ ?_
      | refine LeO.bind ?_ (fun _ => ?_)
set_option maxHeartbeats 8000000 in
set_option maxRecDepth 100000 in
theorem spec_l4Response.calls (k : Nat) (A0 : Option Addr) (c0 : Nat) (l0 : List (S54)) (A1 : Option Addr) (c1 : Nat) (l1 : List Int) (a2 : Int) (r : Int) (w : World) (hr0 : Kd.C k54 w A0 l0.length l0) (hc0 : l0.length ≤ c0) (hr1 : Kd.C (Kd.int .i64) w A1 l1.length l1) (hc1 : l1.length ≤ c1) (h : spec_l4Response.f k l0 l1 a2 = some r) :
    Calls Try.prog 61 #[.slice A0 l0.length c0, .slice A1 l1.length c1, .int .i64 a2] w fun e w' => e = .returned (.int .i64 r) ∧ Below w.heap.size w w' := by
  have hu54 := Try.underlying54
  have HR0 := Aside0.mk hr0
  have HC0 := Aside0.mk hc0
  clear hr0 hc0
  have HR1 := Aside0.mk hr1
  have HC1 := Aside0.mk hc1
  clear hr1 hc1
  have HB := Aside0.mk (Below.refl w.heap.size w)
  have H : (if 0 ≤ a2 then (if a2 < (l0.length : Int) then (spec_l4Response.l0 k l0 l1 a2 ((rd_T54 l0 a2).f0)) else (none)) else (none)) = some r := h
  clear h
  by_cases c4 : 0 ≤ a2
  · rw [if_pos c4] at H
    have c4b0 : decide (0 ≤ a2) = true := decide_eq_true c4
    clear c4
    by_cases c5 : a2 < (l0.length : Int)
    · rw [if_pos c5] at H
      have c5b0 : decide (a2 < (l0.length : Int)) = true := decide_eq_true c5
      clear c5
      have H' := Aside0.mk H
      clear H
      have p101 : 0 ≤ (a2 : Int) := of_decide_eq_true (by first | (with_reducible assumption) | assumption)
      have q101 : a2 < (l0.length : Int) := of_decide_eq_true (by first | (with_reducible assumption) | assumption)
      obtain ⟨ad101, e101, hx101_0, hx101_1, hx101_2⟩ := at_T54 HR0.out a2 p101 q101
      cases e101
      replace p101 := eq_true p101
      replace q101 := eq_true q101
      go_enter Try.func61, Try.ntmps61
      go_wp2
      repeat (go_quiet (fail); try go_wp2)
      go_loopg [7] k (fun kq v7 w' => ∃ (x7_1 : Int), v7 = .int .i64 x7_1 ∧ Aside0 (spec_l4Response.l0 kq l0 l1 a2 x7_1 = some r) ∧ Aside0 (kq ≤ k) ∧ Aside0 (Below w.heap.size w w'))
      case atStart => exact ⟨((rd_T54 l0 a2).f0), (by first | rfl | (simp; done) | (simp [*]; done) | (simp only [i64_w, i32_w]; done) | (simp [*, i64_w, i32_w]; done)), H', ⟨Nat.le_refl _⟩, ⟨by repeat (first | (with_reducible first | exact HB.out | apply below_alloc | apply pw_below_drewN | apply below_drew1) | exact HB.out)⟩⟩
      case round =>
        clear H'
        try clear c1
        try clear p1
        try clear q1
        try clear hx1
        try clear p2
        try clear c4
        try clear c4b0
        try clear c5
        try clear c5b0
        try clear hx101_0
        try clear hx101_1
        try clear hx101_2
        try clear p101
        try clear q101
        obtain ⟨x7_1, rfl, HA, HK1, HB⟩ := hrel
        cases gk with
        | zero => exact absurd HA.out (by simp [spec_l4Response.l0])
        | succ k1 =>
          have H := HA.out
          clear HA
          simp only [spec_l4Response.l0] at H
          by_cases c6 : 0 ≤ a2
          · rw [if_pos c6] at H
            have c6b0 : decide (0 ≤ a2) = true := decide_eq_true c6
            clear c6
            by_cases c7 : a2 < (l0.length : Int)
            · rw [if_pos c7] at H
              have c7b0 : decide (a2 < (l0.length : Int)) = true := decide_eq_true c7
              clear c7
              by_cases c8 : x7_1 ≤ ((rd_T54 l0 a2).f1)
              · rw [if_pos c8] at H
                have c8b0 : decide (x7_1 ≤ ((rd_T54 l0 a2).f1)) = true := decide_eq_true c8
                clear c8
                have H' := Aside0.mk H
                clear H
                have p102 : 0 ≤ (a2 : Int) := of_decide_eq_true (by first | (with_reducible assumption) | assumption)
                have q102 : a2 < (l0.length : Int) := of_decide_eq_true (by first | (with_reducible assumption) | assumption)
                obtain ⟨ad102, e102, hx102_0, hx102_1, hx102_2⟩ := at_T54 HR0.out a2 p102 q102
                obtain rfl : ad101 = ad102 := (by injection e102)
                replace hx102_0 := (HB.out.cell (World.block_lt_of_cell? w _ hx102_0)).trans hx102_0
                replace hx102_1 := (HB.out.cell (World.block_lt_of_cell? w _ hx102_1)).trans hx102_1
                replace hx102_2 := (HB.out.cell (World.block_lt_of_cell? w _ hx102_2)).trans hx102_2
                replace p102 := eq_true p102
                replace q102 := eq_true q102
                have p103 : 0 ≤ (a2 : Int) := of_decide_eq_true (by first | (with_reducible assumption) | assumption)
                have q103 : a2 < (l0.length : Int) := of_decide_eq_true (by first | (with_reducible assumption) | assumption)
                obtain ⟨ad103, e103, hx103_0, hx103_1, hx103_2⟩ := at_T54 HR0.out a2 p103 q103
                obtain rfl : ad101 = ad103 := (by injection e103)
                replace hx103_0 := (HB.out.cell (World.block_lt_of_cell? w _ hx103_0)).trans hx103_0
                replace hx103_1 := (HB.out.cell (World.block_lt_of_cell? w _ hx103_1)).trans hx103_1
                replace hx103_2 := (HB.out.cell (World.block_lt_of_cell? w _ hx103_2)).trans hx103_2
                replace p103 := eq_true p103
                replace q103 := eq_true q103
                go_wp2
                repeat (go_quiet (fail); try go_wp2)
                go_loopg [8, 9] k1 (fun kq v8 v9 w' => ∃ (x8_2 : Int) (x9_2 : Int), v8 = .int .i64 x8_2 ∧ v9 = .int .i64 x9_2 ∧ Aside0 (spec_l4Response.l1 kq l0 l1 a2 x7_1 x8_2 x9_2 = some r) ∧ Aside0 (kq ≤ k1) ∧ Aside0 (Below w.heap.size w w'))
                case atStart => exact ⟨((rd_T54 l0 a2).f0), (0), (by first | rfl | (simp; done) | (simp [*]; done) | (simp only [i64_w, i32_w]; done) | (simp [*, i64_w, i32_w]; done)), (by first | rfl | (simp; done) | (simp [*]; done) | (simp only [i64_w, i32_w]; done) | (simp [*, i64_w, i32_w]; done)), H', ⟨Nat.le_refl _⟩, ⟨by repeat (first | (with_reducible first | exact HB.out | apply below_alloc | apply pw_below_drewN | apply below_drew1) | exact HB.out)⟩⟩
                case round =>
                  clear H'
                  try clear c1
                  try clear p1
                  try clear q1
                  try clear hx1
                  try clear p2
                  try clear c4
                  try clear c4b0
                  try clear c5
                  try clear c5b0
                  try clear c6
                  try clear c6b0
                  try clear c7
                  try clear c7b0
                  try clear c8
                  try clear c8b0
                  try clear hx101_0
                  try clear hx101_1
                  try clear hx101_2
                  try clear hx102_0
                  try clear hx102_1
                  try clear hx102_2
                  try clear hx103_0
                  try clear hx103_1
                  try clear hx103_2
                  try clear p1
                  try clear p101
                  try clear p102
                  try clear p103
                  try clear p2
                  try clear q1
                  try clear q101
                  try clear q102
                  try clear q103
                  obtain ⟨x8_2, x9_2, rfl, rfl, HA, HK2, HB⟩ := hrel
                  cases gk with
                  | zero => exact absurd HA.out (by simp [spec_l4Response.l1])
                  | succ k2 =>
                    have H := HA.out
                    clear HA
                    simp only [spec_l4Response.l1] at H
                    by_cases c9 : x9_2 < (l1.length : Int)
                    · rw [if_pos c9] at H
                      have c9b0 : decide (x9_2 < (l1.length : Int)) = true := decide_eq_true c9
                      clear c9
                      by_cases c10 : 0 ≤ x9_2
                      · rw [if_pos c10] at H
                        have c10b0 : decide (0 ≤ x9_2) = true := decide_eq_true c10
                        clear c10
                        by_cases c11 : 0 ≤ (rd l1 x9_2)
                        · rw [if_pos c11] at H
                          have c11b0 : decide (0 ≤ (rd l1 x9_2)) = true := decide_eq_true c11
                          clear c11
                          by_cases c12 : (rd l1 x9_2) < (l0.length : Int)
                          · rw [if_pos c12] at H
                            have c12b0 : decide ((rd l1 x9_2) < (l0.length : Int)) = true := decide_eq_true c12
                            clear c12
                            by_cases c13 : ((rd_T54 l0 (rd l1 x9_2)).f2) = 0
                            · rw [if_pos c13] at H
                              exact absurd H (by simp)
                            · rw [if_neg c13] at H
                              have c13b0 : (((rd_T54 l0 (rd l1 x9_2)).f2) == 0) = false := beq_eq_false_iff_ne.mpr c13
                              have c13b1 : (((rd_T54 l0 (rd l1 x9_2)).f2) != 0) = true := bne_iff_ne.mpr c13
                              have H' := Aside0.mk H
                              clear H
                              have p104 : 0 ≤ (x9_2 : Int) := of_decide_eq_true (by first | (with_reducible assumption) | assumption)
                              have q104 : x9_2 < (l1.length : Int) := of_decide_eq_true (by first | (with_reducible assumption) | assumption)
                              obtain ⟨ad104, e104, hx104_0⟩ := Kd.at_int HR1.out x9_2 p104 q104
                              cases e104
                              replace hx104_0 := (HB.out.cell (World.block_lt_of_cell? w _ hx104_0)).trans hx104_0
                              replace p104 := eq_true p104
                              replace q104 := eq_true q104
                              have p105 : 0 ≤ ((rd l1 x9_2) : Int) := of_decide_eq_true (by first | (with_reducible assumption) | assumption)
                              have q105 : (rd l1 x9_2) < (l0.length : Int) := of_decide_eq_true (by first | (with_reducible assumption) | assumption)
                              obtain ⟨ad105, e105, hx105_0, hx105_1, hx105_2⟩ := at_T54 HR0.out (rd l1 x9_2) p105 q105
                              obtain rfl : ad101 = ad105 := (by injection e105)
                              replace hx105_0 := (HB.out.cell (World.block_lt_of_cell? w _ hx105_0)).trans hx105_0
                              replace hx105_1 := (HB.out.cell (World.block_lt_of_cell? w _ hx105_1)).trans hx105_1
                              replace hx105_2 := (HB.out.cell (World.block_lt_of_cell? w _ hx105_2)).trans hx105_2
                              replace p105 := eq_true p105
                              replace q105 := eq_true q105
                              go_wp2_with (first | ((with_reducible refine gate_dst (N := 10) rfl ?_); refine box_event ?hg (N := 10) ?hd (cs := #[.int .i64 0, .int .i64 0, .int .i64 0]) (t := 54) ?hr ?_; (case hd => rfl); (case hg => rfl); (case hr => first | (go_simp; done) | (go_simp; rfl)); intro gb106 hg w14 hbox hb; have n0_ := Aside0.mk (below_step (by repeat (first | (with_reducible first | exact HB.out | apply below_alloc | apply pw_below_drewN | apply below_drew1) | exact HB.out)) hb); have n1_ := Aside0.mk (hbox); have n2_ := Aside0.mk ((by rw [hg]; exact (below_size (by repeat (first | (with_reducible first | exact HB.out | apply below_alloc | apply pw_below_drewN | apply below_drew1) | exact HB.out))) : w.heap.size ≤ gb106)); have n3_ := Aside0.mk ((by rw [hg]; exact (below_size (by repeat (first | (with_reducible first | exact HB.out | apply below_alloc | apply pw_below_drewN | apply below_drew1) | exact HB.out))) : w.heap.size ≤ gb106)); clear HB; have HB := n0_; have BK106 := n1_; have GW106 := n2_; have GE106 := n3_; clear n0_ n1_ n2_ n3_; clear hb hbox hg; have hcz15_0 : w14.cell? ⟨gb106, 0, none⟩ = some (.int .i64 0) := (blk_cell BK106.out 0).trans rfl; have hcz15_1 : w14.cell? ⟨gb106, 1, none⟩ = some (.int .i64 0) := (blk_cell BK106.out 1).trans rfl; have hcz15_2 : w14.cell? ⟨gb106, 2, none⟩ = some (.int .i64 0) := (blk_cell BK106.out 2).trans rfl; have hfz15_0 := blk_frozen BK106.out 0; have hfz15_1 := blk_frozen BK106.out 1; have hfz15_2 := blk_frozen BK106.out 2))
                              repeat (go_quiet (first | ((with_reducible refine gate_dst (N := 10) rfl ?_); refine box_event ?hg (N := 10) ?hd (cs := #[.int .i64 0, .int .i64 0, .int .i64 0]) (t := 54) ?hr ?_; (case hd => rfl); (case hg => rfl); (case hr => first | (go_simp; done) | (go_simp; rfl)); intro gb106 hg w14 hbox hb; have n0_ := Aside0.mk (below_step (by repeat (first | (with_reducible first | exact HB.out | apply below_alloc | apply pw_below_drewN | apply below_drew1) | exact HB.out)) hb); have n1_ := Aside0.mk (hbox); have n2_ := Aside0.mk ((by rw [hg]; exact (below_size (by repeat (first | (with_reducible first | exact HB.out | apply below_alloc | apply pw_below_drewN | apply below_drew1) | exact HB.out))) : w.heap.size ≤ gb106)); have n3_ := Aside0.mk ((by rw [hg]; exact (below_size (by repeat (first | (with_reducible first | exact HB.out | apply below_alloc | apply pw_below_drewN | apply below_drew1) | exact HB.out))) : w.heap.size ≤ gb106)); clear HB; have HB := n0_; have BK106 := n1_; have GW106 := n2_; have GE106 := n3_; clear n0_ n1_ n2_ n3_; clear hb hbox hg; have hcz15_0 : w14.cell? ⟨gb106, 0, none⟩ = some (.int .i64 0) := (blk_cell BK106.out 0).trans rfl; have hcz15_1 : w14.cell? ⟨gb106, 1, none⟩ = some (.int .i64 0) := (blk_cell BK106.out 1).trans rfl; have hcz15_2 : w14.cell? ⟨gb106, 2, none⟩ = some (.int .i64 0) := (blk_cell BK106.out 2).trans rfl; have hfz15_0 := blk_frozen BK106.out 0; have hfz15_1 := blk_frozen BK106.out 1; have hfz15_2 := blk_frozen BK106.out 2)); try go_wp2_with (first | ((with_reducible refine gate_dst (N := 10) rfl ?_); refine box_event ?hg (N := 10) ?hd (cs := #[.int .i64 0, .int .i64 0, .int .i64 0]) (t := 54) ?hr ?_; (case hd => rfl); (case hg => rfl); (case hr => first | (go_simp; done) | (go_simp; rfl)); intro gb106 hg w14 hbox hb; have n0_ := Aside0.mk (below_step (by repeat (first | (with_reducible first | exact HB.out | apply below_alloc | apply pw_below_drewN | apply below_drew1) | exact HB.out)) hb); have n1_ := Aside0.mk (hbox); have n2_ := Aside0.mk ((by rw [hg]; exact (below_size (by repeat (first | (with_reducible first | exact HB.out | apply below_alloc | apply pw_below_drewN | apply below_drew1) | exact HB.out))) : w.heap.size ≤ gb106)); have n3_ := Aside0.mk ((by rw [hg]; exact (below_size (by repeat (first | (with_reducible first | exact HB.out | apply below_alloc | apply pw_below_drewN | apply below_drew1) | exact HB.out))) : w.heap.size ≤ gb106)); clear HB; have HB := n0_; have BK106 := n1_; have GW106 := n2_; have GE106 := n3_; clear n0_ n1_ n2_ n3_; clear hb hbox hg; have hcz15_0 : w14.cell? ⟨gb106, 0, none⟩ = some (.int .i64 0) := (blk_cell BK106.out 0).trans rfl; have hcz15_1 : w14.cell? ⟨gb106, 1, none⟩ = some (.int .i64 0) := (blk_cell BK106.out 1).trans rfl; have hcz15_2 : w14.cell? ⟨gb106, 2, none⟩ = some (.int .i64 0) := (blk_cell BK106.out 2).trans rfl; have hfz15_0 := blk_frozen BK106.out 0; have hfz15_1 := blk_frozen BK106.out 1; have hfz15_2 := blk_frozen BK106.out 2)))
                              go_roundg k2
                              case measure => have := HK1.out; have := HK2.out; omega
                              case rel => exact ⟨(wrap64 (x8_2 + (wrap64 ((wrap64 (Int.tdiv (wrap64 ((wrap64 (x7_1 + ((rd_T54 l0 (rd l1 x9_2)).f2))) - 1)) ((rd_T54 l0 (rd l1 x9_2)).f2))) * ((rd_T54 l0 (rd l1 x9_2)).f0))))), (wrap64 (x9_2 + 1)), (by first | rfl | (simp; done) | (simp [*]; done) | (simp only [i64_w, i32_w]; done) | (simp [*, i64_w, i32_w]; done)), (by first | rfl | (simp; done) | (simp [*]; done) | (simp only [i64_w, i32_w]; done) | (simp [*, i64_w, i32_w]; done)), H', ⟨by have := HK1.out; have := HK2.out; omega⟩, ⟨by repeat (first | (with_reducible first | exact HB.out | apply below_alloc | apply pw_below_drewN | apply below_drew1 | refine below_set ?_ GE106.out) | exact HB.out)⟩⟩
                          · rw [if_neg c12] at H
                            exact absurd H (by simp)
                        · rw [if_neg c11] at H
                          exact absurd H (by simp)
                      · rw [if_neg c10] at H
                        exact absurd H (by simp)
                    · rw [if_neg c9] at H
                      have c9b0 : decide (x9_2 < (l1.length : Int)) = false := decide_eq_false c9
                      clear c9
                      by_cases c16 : x8_2 = x7_1
                      · rw [if_pos c16] at H
                        have c16b0 : (x8_2 == x7_1) = true := beq_iff_eq.mpr c16
                        have c16b1 : (x8_2 != x7_1) = false := bne_eq_false_iff_eq.mpr c16
                        clear c16
                        obtain rfl := Option.some.inj H
                        go_wp2
                        repeat (go_quiet (fail); try go_wp2)
                        go_ret
                        exact ⟨by first | rfl | (simp [errW_none, errW_some] <;> rfl) | (simp [*, errW_none, errW_some] <;> rfl), by repeat (first | (with_reducible first | exact HB.out | apply below_alloc | apply pw_below_drewN | apply below_drew1) | exact HB.out)⟩
                      · rw [if_neg c16] at H
                        have c16b0 : (x8_2 == x7_1) = false := beq_eq_false_iff_ne.mpr c16
                        have c16b1 : (x8_2 != x7_1) = true := bne_iff_ne.mpr c16
                        have H' := Aside0.mk H
                        clear H
                        go_wp2
                        repeat (go_quiet (fail); try go_wp2)
                        go_roundg k2
                        case measure => have := HK1.out; have := HK2.out; omega
                        case rel => exact ⟨(x8_2), (by first | rfl | (simp; done) | (simp [*]; done) | (simp only [i64_w, i32_w]; done) | (simp [*, i64_w, i32_w]; done)), H', ⟨by have := HK1.out; have := HK2.out; omega⟩, ⟨by repeat (first | (with_reducible first | exact HB.out | apply below_alloc | apply pw_below_drewN | apply below_drew1) | exact HB.out)⟩⟩
              · rw [if_neg c8] at H
                have c8b0 : decide (x7_1 ≤ ((rd_T54 l0 a2).f1)) = false := decide_eq_false c8
                clear c8
                obtain rfl := Option.some.inj H
                have p102 : 0 ≤ (a2 : Int) := of_decide_eq_true (by first | (with_reducible assumption) | assumption)
                have q102 : a2 < (l0.length : Int) := of_decide_eq_true (by first | (with_reducible assumption) | assumption)
                obtain ⟨ad102, e102, hx102_0, hx102_1, hx102_2⟩ := at_T54 HR0.out a2 p102 q102
                obtain rfl : ad101 = ad102 := (by injection e102)
                replace hx102_0 := (HB.out.cell (World.block_lt_of_cell? w _ hx102_0)).trans hx102_0
                replace hx102_1 := (HB.out.cell (World.block_lt_of_cell? w _ hx102_1)).trans hx102_1
                replace hx102_2 := (HB.out.cell (World.block_lt_of_cell? w _ hx102_2)).trans hx102_2
                replace p102 := eq_true p102
                replace q102 := eq_true q102
                go_wp2
                repeat (go_quiet (fail); try go_wp2)
                go_ret
                exact ⟨by first | rfl | (simp [errW_none, errW_some] <;> rfl) | (simp [*, errW_none, errW_some] <;> rfl), by repeat (first | (with_reducible first | exact HB.out | apply below_alloc | apply pw_below_drewN | apply below_drew1) | exact HB.out)⟩
            · rw [if_neg c7] at H
              exact absurd H (by simp)
          · rw [if_neg c6] at H
            exact absurd H (by simp)
    · rw [if_neg c5] at H
      exact absurd H (by simp)
  · rw [if_neg c4] at H
    exact absurd H (by simp)



/-! ### spec_l1In: function 46 -/
def spec_l1In.f (a0 : Int) (a1 : Int) (a2 : Int) : Option (Bool) := if a0 ≥ a1 then (some (decide (a0 ≤ a2))) else (some false)
set_option maxHeartbeats 8000000 in
set_option maxRecDepth 100000 in
theorem spec_l1In.calls (a0 : Int) (a1 : Int) (a2 : Int) (r : Bool) (w : World) (h : spec_l1In.f a0 a1 a2 = some r) :
    Calls Try.prog 46 #[.int .i64 a0, .int .i64 a1, .int .i64 a2] w fun e w' => e = .returned (.bool r) ∧ Drawn0 w w' := by
  have H : (if a0 ≥ a1 then (some (decide (a0 ≤ a2))) else (some false)) = some r := h
  clear h
  by_cases c4 : a0 ≥ a1
  · rw [if_pos c4] at H
    have c4b0 : decide (a1 ≤ a0) = true := decide_eq_true c4
    clear c4
    obtain rfl := Option.some.inj H
    go_enter Try.func46, Try.ntmps46
    go_wp2
    go_ret
    exact ⟨by first | rfl | (simp; done) | (simp [*]; done) | (simp only [i64_w, i32_w]; done) | (simp [*, i64_w, i32_w]; done), by repeat (first | exact Drawn0.refl _ | apply Drawn0.step)⟩
  · rw [if_neg c4] at H
    have c4b0 : decide (a1 ≤ a0) = false := decide_eq_false c4
    clear c4
    obtain rfl := Option.some.inj H
    go_enter Try.func46, Try.ntmps46
    go_wp2
    go_ret
    exact ⟨by first | rfl | (simp; done) | (simp [*]; done) | (simp only [i64_w, i32_w]; done) | (simp [*, i64_w, i32_w]; done), by repeat (first | exact Drawn0.refl _ | apply Drawn0.step)⟩



/-! ### spec_TaskValid: function 80 -/
def spec_TaskValid.f (a0_0 : Int) (a0_1 : Int) (a0_2 : Int) : Option (Bool) := (spec_l1In.f a0_0 1 8).bind fun t102 => (if t102 = true then ((spec_l1In.f a0_1 a0_0 a0_2).bind fun t103 => (if t103 = true then ((spec_l1In.f a0_2 1 12).bind fun t104 => (some t104)) else (some false))) else (some false))
set_option maxHeartbeats 8000000 in
set_option maxRecDepth 100000 in
theorem spec_TaskValid.calls (a0_0 : Int) (a0_1 : Int) (a0_2 : Int) (r : Bool) (w : World) (h : spec_TaskValid.f a0_0 a0_1 a0_2 = some r) :
    Calls Try.prog 80 #[.agg #[.int .i64 a0_0, .int .i64 a0_1, .int .i64 a0_2]] w fun e w' => e = .returned (.bool r) ∧ Below w.heap.size w w' := by
  have hu54 := Try.underlying54
  have HB := Aside0.mk (Below.refl w.heap.size w)
  have H : ((spec_l1In.f a0_0 1 8).bind fun t102 => (if t102 = true then ((spec_l1In.f a0_1 a0_0 a0_2).bind fun t103 => (if t103 = true then ((spec_l1In.f a0_2 1 12).bind fun t104 => (some t104)) else (some false))) else (some false))) = some r := h
  clear h
  replace H := Option.bind_eq_some_iff.mp H
  obtain ⟨t102, A20, H⟩ := H
  replace H : (if t102 = true then ((spec_l1In.f a0_1 a0_0 a0_2).bind fun t103 => (if t103 = true then ((spec_l1In.f a0_2 1 12).bind fun t104 => (some t104)) else (some false))) else (some false)) = some r := H
  have A2 := Aside0.mk A20
  clear A20
  by_cases c3 : t102 = true
  · subst c3
    have H1 : ((spec_l1In.f a0_1 a0_0 a0_2).bind fun t103 => (if t103 = true then ((spec_l1In.f a0_2 1 12).bind fun t104 => (some t104)) else (some false))) = some r := by rw [if_pos rfl] at H; exact H
    clear H
    have H := H1
    clear H1
    replace H := Option.bind_eq_some_iff.mp H
    obtain ⟨t103, A40, H⟩ := H
    replace H : (if t103 = true then ((spec_l1In.f a0_2 1 12).bind fun t104 => (some t104)) else (some false)) = some r := H
    have A4 := Aside0.mk A40
    clear A40
    by_cases c5 : t103 = true
    · subst c5
      have H1 : ((spec_l1In.f a0_2 1 12).bind fun t104 => (some t104)) = some r := by rw [if_pos rfl] at H; exact H
      clear H
      have H := H1
      clear H1
      replace H := Option.bind_eq_some_iff.mp H
      obtain ⟨t104, A60, H⟩ := H
      replace H : (some t104) = some r := H
      have A6 := Aside0.mk A60
      clear A60
      obtain rfl := Option.some.inj H
      go_enter Try.func80, Try.ntmps80
      go_wp2_with (first | ((with_reducible refine gate_dst (N := 1) rfl ?_); refine box_event ?hg (N := 1) ?hd (cs := #[.int .i64 a0_0, .int .i64 a0_1, .int .i64 a0_2]) (t := 54) ?hr ?_; (case hd => rfl); (case hg => rfl); (case hr => first | (go_simp; done) | (go_simp; rfl)); intro gb101 hg w7 hbox hb; have n0_ := Aside0.mk (below_step (by repeat (first | (with_reducible first | exact HB.out | apply below_alloc | apply pw_below_drewN | apply below_drew1) | exact HB.out)) hb); have n1_ := Aside0.mk (hbox); have n2_ := Aside0.mk ((by rw [hg]; exact (below_size (by repeat (first | (with_reducible first | exact HB.out | apply below_alloc | apply pw_below_drewN | apply below_drew1) | exact HB.out))) : w.heap.size ≤ gb101)); have n3_ := Aside0.mk ((by rw [hg]; exact (below_size (by repeat (first | (with_reducible first | exact HB.out | apply below_alloc | apply pw_below_drewN | apply below_drew1) | exact HB.out))) : w.heap.size ≤ gb101)); clear HB; have HB := n0_; have BK101 := n1_; have GW101 := n2_; have GE101 := n3_; clear n0_ n1_ n2_ n3_; clear hb hbox hg; have hcz8_0 : w7.cell? ⟨gb101, 0, none⟩ = some (.int .i64 a0_0) := (blk_cell BK101.out 0).trans rfl; have hcz8_1 : w7.cell? ⟨gb101, 1, none⟩ = some (.int .i64 a0_1) := (blk_cell BK101.out 1).trans rfl; have hcz8_2 : w7.cell? ⟨gb101, 2, none⟩ = some (.int .i64 a0_2) := (blk_cell BK101.out 2).trans rfl; have hfz8_0 := blk_frozen BK101.out 0; have hfz8_1 := blk_frozen BK101.out 1; have hfz8_2 := blk_frozen BK101.out 2) | ((with_reducible refine gate_callee (f := 46) rfl ?_); refine goesL_ (some 5) rfl rfl Try.func46 (by kernel_rfl) rfl #[.int .i64 a0_0, .int .i64 1, .int .i64 8] rfl (by (try simp only [List.map_toArray, List.map_cons, List.map_nil]); first | done | rfl | (simp only [List.length_drop, List.length_take]; rfl)) ?_; (with_reducible refine (spec_l1In.calls a0_0 1 8 true _ A2.out).mono ?_); rintro e w' ⟨rfl, ⟨nd, rfl⟩⟩; refine ⟨_, rfl, ?_⟩) | (go_at_call 46; (with_reducible refine (spec_l1In.calls a0_1 a0_0 a0_2 true _ A4.out).mono ?_); rintro e w' ⟨rfl, ⟨nd, rfl⟩⟩) | (go_at_call 46; (with_reducible refine (spec_l1In.calls a0_2 1 12 t104 _ A6.out).mono ?_); rintro e w' ⟨rfl, ⟨nd, rfl⟩⟩))
      go_ret
      exact ⟨by first | rfl | (simp [errW_none, errW_some] <;> rfl) | (simp [*, errW_none, errW_some] <;> rfl), by repeat (first | (with_reducible first | exact HB.out | apply below_alloc | apply pw_below_drewN | apply below_drew1 | refine below_set ?_ GE101.out) | exact HB.out)⟩
    · replace c5 := Bool.eq_false_iff.mpr c5
      subst c5
      have H1 : (some false) = some r := by rw [if_neg (show ¬ (false = true) by decide)] at H; exact H
      clear H
      have H := H1
      clear H1
      obtain rfl := Option.some.inj H
      go_enter Try.func80, Try.ntmps80
      go_wp2_with (first | ((with_reducible refine gate_dst (N := 1) rfl ?_); refine box_event ?hg (N := 1) ?hd (cs := #[.int .i64 a0_0, .int .i64 a0_1, .int .i64 a0_2]) (t := 54) ?hr ?_; (case hd => rfl); (case hg => rfl); (case hr => first | (go_simp; done) | (go_simp; rfl)); intro gb101 hg w9 hbox hb; have n0_ := Aside0.mk (below_step (by repeat (first | (with_reducible first | exact HB.out | apply below_alloc | apply pw_below_drewN | apply below_drew1) | exact HB.out)) hb); have n1_ := Aside0.mk (hbox); have n2_ := Aside0.mk ((by rw [hg]; exact (below_size (by repeat (first | (with_reducible first | exact HB.out | apply below_alloc | apply pw_below_drewN | apply below_drew1) | exact HB.out))) : w.heap.size ≤ gb101)); have n3_ := Aside0.mk ((by rw [hg]; exact (below_size (by repeat (first | (with_reducible first | exact HB.out | apply below_alloc | apply pw_below_drewN | apply below_drew1) | exact HB.out))) : w.heap.size ≤ gb101)); clear HB; have HB := n0_; have BK101 := n1_; have GW101 := n2_; have GE101 := n3_; clear n0_ n1_ n2_ n3_; clear hb hbox hg; have hcz10_0 : w9.cell? ⟨gb101, 0, none⟩ = some (.int .i64 a0_0) := (blk_cell BK101.out 0).trans rfl; have hcz10_1 : w9.cell? ⟨gb101, 1, none⟩ = some (.int .i64 a0_1) := (blk_cell BK101.out 1).trans rfl; have hcz10_2 : w9.cell? ⟨gb101, 2, none⟩ = some (.int .i64 a0_2) := (blk_cell BK101.out 2).trans rfl; have hfz10_0 := blk_frozen BK101.out 0; have hfz10_1 := blk_frozen BK101.out 1; have hfz10_2 := blk_frozen BK101.out 2) | ((with_reducible refine gate_callee (f := 46) rfl ?_); refine goesL_ (some 5) rfl rfl Try.func46 (by kernel_rfl) rfl #[.int .i64 a0_0, .int .i64 1, .int .i64 8] rfl (by (try simp only [List.map_toArray, List.map_cons, List.map_nil]); first | done | rfl | (simp only [List.length_drop, List.length_take]; rfl)) ?_; (with_reducible refine (spec_l1In.calls a0_0 1 8 true _ A2.out).mono ?_); rintro e w' ⟨rfl, ⟨nd, rfl⟩⟩; refine ⟨_, rfl, ?_⟩) | (go_at_call 46; (with_reducible refine (spec_l1In.calls a0_1 a0_0 a0_2 false _ A4.out).mono ?_); rintro e w' ⟨rfl, ⟨nd, rfl⟩⟩))
      go_ret
      exact ⟨by first | rfl | (simp [errW_none, errW_some] <;> rfl) | (simp [*, errW_none, errW_some] <;> rfl), by repeat (first | (with_reducible first | exact HB.out | apply below_alloc | apply pw_below_drewN | apply below_drew1 | refine below_set ?_ GE101.out) | exact HB.out)⟩
  · replace c3 := Bool.eq_false_iff.mpr c3
    subst c3
    have H1 : (some false) = some r := by rw [if_neg (show ¬ (false = true) by decide)] at H; exact H
    clear H
    have H := H1
    clear H1
    obtain rfl := Option.some.inj H
    go_enter Try.func80, Try.ntmps80
    go_wp2_with (first | ((with_reducible refine gate_dst (N := 1) rfl ?_); refine box_event ?hg (N := 1) ?hd (cs := #[.int .i64 a0_0, .int .i64 a0_1, .int .i64 a0_2]) (t := 54) ?hr ?_; (case hd => rfl); (case hg => rfl); (case hr => first | (go_simp; done) | (go_simp; rfl)); intro gb101 hg w11 hbox hb; have n0_ := Aside0.mk (below_step (by repeat (first | (with_reducible first | exact HB.out | apply below_alloc | apply pw_below_drewN | apply below_drew1) | exact HB.out)) hb); have n1_ := Aside0.mk (hbox); have n2_ := Aside0.mk ((by rw [hg]; exact (below_size (by repeat (first | (with_reducible first | exact HB.out | apply below_alloc | apply pw_below_drewN | apply below_drew1) | exact HB.out))) : w.heap.size ≤ gb101)); have n3_ := Aside0.mk ((by rw [hg]; exact (below_size (by repeat (first | (with_reducible first | exact HB.out | apply below_alloc | apply pw_below_drewN | apply below_drew1) | exact HB.out))) : w.heap.size ≤ gb101)); clear HB; have HB := n0_; have BK101 := n1_; have GW101 := n2_; have GE101 := n3_; clear n0_ n1_ n2_ n3_; clear hb hbox hg; have hcz12_0 : w11.cell? ⟨gb101, 0, none⟩ = some (.int .i64 a0_0) := (blk_cell BK101.out 0).trans rfl; have hcz12_1 : w11.cell? ⟨gb101, 1, none⟩ = some (.int .i64 a0_1) := (blk_cell BK101.out 1).trans rfl; have hcz12_2 : w11.cell? ⟨gb101, 2, none⟩ = some (.int .i64 a0_2) := (blk_cell BK101.out 2).trans rfl; have hfz12_0 := blk_frozen BK101.out 0; have hfz12_1 := blk_frozen BK101.out 1; have hfz12_2 := blk_frozen BK101.out 2) | ((with_reducible refine gate_callee (f := 46) rfl ?_); refine goesL_ (some 5) rfl rfl Try.func46 (by kernel_rfl) rfl #[.int .i64 a0_0, .int .i64 1, .int .i64 8] rfl (by (try simp only [List.map_toArray, List.map_cons, List.map_nil]); first | done | rfl | (simp only [List.length_drop, List.length_take]; rfl)) ?_; (with_reducible refine (spec_l1In.calls a0_0 1 8 false _ A2.out).mono ?_); rintro e w' ⟨rfl, ⟨nd, rfl⟩⟩; refine ⟨_, rfl, ?_⟩))
    go_ret
    exact ⟨by first | rfl | (simp [errW_none, errW_some] <;> rfl) | (simp [*, errW_none, errW_some] <;> rfl), by repeat (first | (with_reducible first | exact HB.out | apply below_alloc | apply pw_below_drewN | apply below_drew1 | refine below_set ?_ GE101.out) | exact HB.out)⟩



/-! ### spec_SetValid: function 45 -/
def spec_SetValid.l0 : Nat → List (S54) → Int → Option (Bool)
  | 0, _, _ => none
  | k + 1, x0, x3 => if x3 < (x0.length : Int) then (if 0 ≤ x3 then ((spec_TaskValid.f ((rd_T54 x0 x3).f0) ((rd_T54 x0 x3).f1) ((rd_T54 x0 x3).f2)).bind fun t102 => (if t102 = true then (spec_SetValid.l0 k x0 (wrap64 (x3 + 1))) else (some false))) else (none)) else (some (decide ((x0.length : Int) ≤ 5)))
def spec_SetValid.f (k : Nat) (l0 : List (S54)) : Option (Bool) := spec_SetValid.l0 k l0 0
theorem spec_SetValid.mono_l : ∀ k, (∀ y0 y1, LeO (spec_SetValid.l0 k y0 y1) (spec_SetValid.l0 (k + 1) y0 y1))
  | 0 => fun _ _ r h => by simp [spec_SetValid.l0] at h
  | k + 1 => by
    have ih0 := spec_SetValid.mono_l k
    · intro y0 y1
      unfold spec_SetValid.l0
      repeat' first
      | (with_reducible exact ih0 _ _)
      | (with_reducible exact LeO.refl _)
      | (with_reducible exact LeO.none _)
      | (with_reducible refine LeO.ite ?_ ?_)
      | (with_reducible refine LeO.bind ?_ (fun _ => ?_))
      | exact ih0 _ _
      | exact LeO.none _
      | refine LeO.ite ?_ ?_
      | refine LeO.bind ?_ (fun _ => ?_)
theorem spec_SetValid.mono : ∀ a0 k, LeO (spec_SetValid.f k a0) (spec_SetValid.f (k + 1) a0) := by
  intro a0 k
  have ih0 := spec_SetValid.mono_l k
  unfold spec_SetValid.f
  repeat' first
      | (with_reducible exact ih0 _ _)
      | (with_reducible exact LeO.refl _)
      | (with_reducible exact LeO.none _)
      | (with_reducible refine LeO.ite ?_ ?_)
      | (with_reducible refine LeO.bind ?_ (fun _ => ?_))
      | exact ih0 _ _
      | exact LeO.none _
      | refine LeO.ite ?_ ?_
      | refine LeO.bind ?_ (fun _ => ?_)
set_option maxHeartbeats 8000000 in
set_option maxRecDepth 100000 in
theorem spec_SetValid.calls (k : Nat) (A0 : Option Addr) (c0 : Nat) (l0 : List (S54)) (r : Bool) (w : World) (hr0 : Kd.C k54 w A0 l0.length l0) (hc0 : l0.length ≤ c0) (h : spec_SetValid.f k l0 = some r) :
    Calls Try.prog 45 #[.slice A0 l0.length c0] w fun e w' => e = .returned (.bool r) ∧ Below w.heap.size w w' := by
  have hu54 := Try.underlying54
  have HR0 := Aside0.mk hr0
  have HC0 := Aside0.mk hc0
  clear hr0 hc0
  have HB := Aside0.mk (Below.refl w.heap.size w)
  have H : (spec_SetValid.l0 k l0 0) = some r := h
  clear h
  have H' := Aside0.mk H
  clear H
  go_enter Try.func45, Try.ntmps45
  go_wp2
  go_loopg [3] k (fun kq v3 w' => ∃ (x3_1 : Int), v3 = .int .i64 x3_1 ∧ Aside0 (spec_SetValid.l0 kq l0 x3_1 = some r) ∧ Aside0 (kq ≤ k) ∧ Aside0 (Below w.heap.size w w'))
  case atStart => exact ⟨(0), (by first | rfl | (simp; done) | (simp [*]; done) | (simp only [i64_w, i32_w]; done) | (simp [*, i64_w, i32_w]; done)), H', ⟨Nat.le_refl _⟩, ⟨by repeat (first | (with_reducible first | exact HB.out | apply below_alloc | apply pw_below_drewN | apply below_drew1) | exact HB.out)⟩⟩
  case round =>
    clear H'
    obtain ⟨x3_1, rfl, HA, HK1, HB⟩ := hrel
    cases gk with
    | zero => exact absurd HA.out (by simp [spec_SetValid.l0])
    | succ k1 =>
      have H := HA.out
      clear HA
      simp only [spec_SetValid.l0] at H
      by_cases c2 : x3_1 < (l0.length : Int)
      · rw [if_pos c2] at H
        have c2b0 : decide (x3_1 < (l0.length : Int)) = true := decide_eq_true c2
        clear c2
        by_cases c3 : 0 ≤ x3_1
        · rw [if_pos c3] at H
          have c3b0 : decide (0 ≤ x3_1) = true := decide_eq_true c3
          clear c3
          replace H := Option.bind_eq_some_iff.mp H
          obtain ⟨t102, A40, H⟩ := H
          replace H : (if t102 = true then (spec_SetValid.l0 k1 l0 (wrap64 (x3_1 + 1))) else (some false)) = some r := H
          have A4 := Aside0.mk A40
          clear A40
          by_cases c5 : t102 = true
          · subst c5
            have H1 : (spec_SetValid.l0 k1 l0 (wrap64 (x3_1 + 1))) = some r := by rw [if_pos rfl] at H; exact H
            clear H
            have H := H1
            clear H1
            have H' := Aside0.mk H
            clear H
            have p101 : 0 ≤ (x3_1 : Int) := of_decide_eq_true (by first | (with_reducible assumption) | assumption)
            have q101 : x3_1 < (l0.length : Int) := of_decide_eq_true (by first | (with_reducible assumption) | assumption)
            obtain ⟨ad101, e101, hx101_0, hx101_1, hx101_2⟩ := at_T54 HR0.out x3_1 p101 q101
            cases e101
            replace hx101_0 := (HB.out.cell (World.block_lt_of_cell? w _ hx101_0)).trans hx101_0
            replace hx101_1 := (HB.out.cell (World.block_lt_of_cell? w _ hx101_1)).trans hx101_1
            replace hx101_2 := (HB.out.cell (World.block_lt_of_cell? w _ hx101_2)).trans hx101_2
            replace p101 := eq_true p101
            replace q101 := eq_true q101
            go_wp2_with (first | ((with_reducible refine gate_callee (f := 80) rfl ?_); refine goesL_ (some 14) rfl rfl Try.func80 (by kernel_rfl) rfl #[.agg #[.int .i64 ((rd_T54 l0 x3_1).f0), .int .i64 ((rd_T54 l0 x3_1).f1), .int .i64 ((rd_T54 l0 x3_1).f2)]] rfl (by (try simp only [List.map_toArray, List.map_cons, List.map_nil]); first | done | rfl | (simp only [List.length_drop, List.length_take]; rfl)) ?_; (with_reducible refine (spec_TaskValid.calls ((rd_T54 l0 x3_1).f0) ((rd_T54 l0 x3_1).f1) ((rd_T54 l0 x3_1).f2) true _ A4.out).mono ?_); rintro e w6 ⟨rfl, hb⟩; refine ⟨_, rfl, ?_⟩; have n0_ := Aside0.mk (below_step (by repeat (first | (with_reducible first | exact HB.out | apply below_alloc | apply pw_below_drewN | apply below_drew1) | exact HB.out)) hb); clear HB; have HB := n0_; clear n0_; (try clear hb); (try clear hb2); (try clear hk); (try clear hi)))
            go_roundg k1
            case measure => have := HK1.out; omega
            case rel => exact ⟨(wrap64 (x3_1 + 1)), (by first | rfl | (simp; done) | (simp [*]; done) | (simp only [i64_w, i32_w]; done) | (simp [*, i64_w, i32_w]; done)), H', ⟨by have := HK1.out; omega⟩, ⟨by repeat (first | (with_reducible first | exact HB.out | apply below_alloc | apply pw_below_drewN | apply below_drew1) | exact HB.out)⟩⟩
          · replace c5 := Bool.eq_false_iff.mpr c5
            subst c5
            have H1 : (some false) = some r := by rw [if_neg (show ¬ (false = true) by decide)] at H; exact H
            clear H
            have H := H1
            clear H1
            obtain rfl := Option.some.inj H
            have p101 : 0 ≤ (x3_1 : Int) := of_decide_eq_true (by first | (with_reducible assumption) | assumption)
            have q101 : x3_1 < (l0.length : Int) := of_decide_eq_true (by first | (with_reducible assumption) | assumption)
            obtain ⟨ad101, e101, hx101_0, hx101_1, hx101_2⟩ := at_T54 HR0.out x3_1 p101 q101
            cases e101
            replace hx101_0 := (HB.out.cell (World.block_lt_of_cell? w _ hx101_0)).trans hx101_0
            replace hx101_1 := (HB.out.cell (World.block_lt_of_cell? w _ hx101_1)).trans hx101_1
            replace hx101_2 := (HB.out.cell (World.block_lt_of_cell? w _ hx101_2)).trans hx101_2
            replace p101 := eq_true p101
            replace q101 := eq_true q101
            go_wp2_with (first | ((with_reducible refine gate_callee (f := 80) rfl ?_); refine goesL_ (some 14) rfl rfl Try.func80 (by kernel_rfl) rfl #[.agg #[.int .i64 ((rd_T54 l0 x3_1).f0), .int .i64 ((rd_T54 l0 x3_1).f1), .int .i64 ((rd_T54 l0 x3_1).f2)]] rfl (by (try simp only [List.map_toArray, List.map_cons, List.map_nil]); first | done | rfl | (simp only [List.length_drop, List.length_take]; rfl)) ?_; (with_reducible refine (spec_TaskValid.calls ((rd_T54 l0 x3_1).f0) ((rd_T54 l0 x3_1).f1) ((rd_T54 l0 x3_1).f2) false _ A4.out).mono ?_); rintro e w7 ⟨rfl, hb⟩; refine ⟨_, rfl, ?_⟩; have n0_ := Aside0.mk (below_step (by repeat (first | (with_reducible first | exact HB.out | apply below_alloc | apply pw_below_drewN | apply below_drew1) | exact HB.out)) hb); clear HB; have HB := n0_; clear n0_; (try clear hb); (try clear hb2); (try clear hk); (try clear hi)))
            go_ret
            exact ⟨by first | rfl | (simp [errW_none, errW_some] <;> rfl) | (simp [*, errW_none, errW_some] <;> rfl), by repeat (first | (with_reducible first | exact HB.out | apply below_alloc | apply pw_below_drewN | apply below_drew1) | exact HB.out)⟩
        · rw [if_neg c3] at H
          exact absurd H (by simp)
      · rw [if_neg c2] at H
        have c2b0 : decide (x3_1 < (l0.length : Int)) = false := decide_eq_false c2
        clear c2
        obtain rfl := Option.some.inj H
        go_wp2
        go_ret
        exact ⟨by first | rfl | (simp [errW_none, errW_some] <;> rfl) | (simp [*, errW_none, errW_some] <;> rfl), by repeat (first | (with_reducible first | exact HB.out | apply below_alloc | apply pw_below_drewN | apply below_drew1) | exact HB.out)⟩



/-! ### spec_AssignPriorities: function 38 -/
mutual
def spec_AssignPriorities.l0 : Nat → List (S54) → List Int → Option (List Int × Bool)
  | 0, _, _ => none
  | k + 1, x0, x4 => if (x4.length : Int) < (x0.length : Int) then (spec_AssignPriorities.l1 k x0 x4 (-1) (wrap64 ((x0.length : Int) - 1))) else (some (x4, true))
def spec_AssignPriorities.l1 : Nat → List (S54) → List Int → Int → Int → Option (List Int × Bool)
  | 0, _, _, _, _ => none
  | k + 1, x0, x4, x5, x6 => if x6 ≥ 0 then ((spec_l4Index.f k x4 x6).bind fun t117 => (if t117 < 0 then ((spec_l4Others.f k (x0.length : Int) x6 x4).bind fun t118 => ((spec_l4Response.f k x0 t118 x6).bind fun t121 => (if t121 ≥ 0 then (spec_AssignPriorities.l1 k x0 x4 x6 (wrap64 (x6 - 1))) else (spec_AssignPriorities.l1 k x0 x4 x5 (wrap64 (x6 - 1)))))) else (spec_AssignPriorities.l1 k x0 x4 x5 (wrap64 (x6 - 1))))) else (if x5 < 0 then (some ((([] : List Int)), false)) else ((some (([x5] : List Int) : List Int)).bind fun y111 => (if y111.length + x4.length < 17592186044416 then (spec_AssignPriorities.l0 k x0 (y111 ++ x4)) else (none))))
end
def spec_AssignPriorities.f (k : Nat) (l0 : List (S54)) : Option (List Int × Bool) := (spec_SetValid.f k l0).bind fun t101 => (if t101 = true then (spec_AssignPriorities.l0 k l0 (([] : List Int))) else (some ((([] : List Int)), false)))
theorem spec_AssignPriorities.mono_l : ∀ k, (∀ y0 y1, LeO (spec_AssignPriorities.l0 k y0 y1) (spec_AssignPriorities.l0 (k + 1) y0 y1)) ∧ (∀ y0 y1 y2 y3, LeO (spec_AssignPriorities.l1 k y0 y1 y2 y3) (spec_AssignPriorities.l1 (k + 1) y0 y1 y2 y3))
  | 0 => ⟨fun _ _ r h => by simp [spec_AssignPriorities.l0] at h, fun _ _ _ _ r h => by simp [spec_AssignPriorities.l1] at h⟩
  | k + 1 => by
    obtain ⟨ih0, ih1⟩ := spec_AssignPriorities.mono_l k
    refine ⟨?_, ?_⟩
    · intro y0 y1
      unfold spec_AssignPriorities.l0
      repeat' first
      | (with_reducible exact ih0 _ _)
      | (with_reducible exact ih1 _ _ _ _)
      | (with_reducible exact spec_SetValid.mono _ _)
      | (with_reducible exact spec_l4Index.mono _ _ _)
      | (with_reducible exact spec_l4Others.mono _ _ _ _)
      | (with_reducible exact spec_l4Response.mono _ _ _ _)
      | (with_reducible exact LeO.refl _)
      | (with_reducible exact LeO.none _)
      | (with_reducible refine LeO.ite ?_ ?_)
      | (with_reducible refine LeO.bind ?_ (fun _ => ?_))
      | exact ih0 _ _
      | exact ih1 _ _ _ _
      | exact spec_SetValid.mono _ _
      | exact spec_l4Index.mono _ _ _
      | exact spec_l4Others.mono _ _ _ _
      | exact spec_l4Response.mono _ _ _ _
      | exact LeO.none _
      | refine LeO.ite ?_ ?_
      | refine LeO.bind ?_ (fun _ => ?_)
    · intro y0 y1 y2 y3
      unfold spec_AssignPriorities.l1
      repeat' first
      | (with_reducible exact ih0 _ _)
      | (with_reducible exact ih1 _ _ _ _)
      | (with_reducible exact spec_SetValid.mono _ _)
      | (with_reducible exact spec_l4Index.mono _ _ _)
      | (with_reducible exact spec_l4Others.mono _ _ _ _)
      | (with_reducible exact spec_l4Response.mono _ _ _ _)
      | (with_reducible exact LeO.refl _)
      | (with_reducible exact LeO.none _)
      | (with_reducible refine LeO.ite ?_ ?_)
      | (with_reducible refine LeO.bind ?_ (fun _ => ?_))
      | exact ih0 _ _
      | exact ih1 _ _ _ _
      | exact spec_SetValid.mono _ _
      | exact spec_l4Index.mono _ _ _
      | exact spec_l4Others.mono _ _ _ _
      | exact spec_l4Response.mono _ _ _ _
      | exact LeO.none _
      | refine LeO.ite ?_ ?_
      | refine LeO.bind ?_ (fun _ => ?_)
theorem spec_AssignPriorities.mono : ∀ a0 k, LeO (spec_AssignPriorities.f k a0) (spec_AssignPriorities.f (k + 1) a0) := by
  intro a0 k
  obtain ⟨ih0, ih1⟩ := spec_AssignPriorities.mono_l k
  unfold spec_AssignPriorities.f
  repeat' first
      | (with_reducible exact ih0 _ _)
      | (with_reducible exact ih1 _ _ _ _)
      | (with_reducible exact spec_SetValid.mono _ _)
      | (with_reducible exact spec_l4Index.mono _ _ _)
      | (with_reducible exact spec_l4Others.mono _ _ _ _)
      | (with_reducible exact spec_l4Response.mono _ _ _ _)
      | (with_reducible exact LeO.refl _)
      | (with_reducible exact LeO.none _)
      | (with_reducible refine LeO.ite ?_ ?_)
      | (with_reducible refine LeO.bind ?_ (fun _ => ?_))
      | exact ih0 _ _
      | exact ih1 _ _ _ _
      | exact spec_SetValid.mono _ _
      | exact spec_l4Index.mono _ _ _
      | exact spec_l4Others.mono _ _ _ _
      | exact spec_l4Response.mono _ _ _ _
      | exact LeO.none _
      | refine LeO.ite ?_ ?_
      | refine LeO.bind ?_ (fun _ => ?_)
set_option maxHeartbeats 8000000 in
set_option maxRecDepth 100000 in
theorem spec_AssignPriorities.calls (k : Nat) (A0 : Option Addr) (c0 : Nat) (l0 : List (S54)) (r1 : List Int) (r2 : Bool) (w : World) (hr0 : Kd.C k54 w A0 l0.length l0) (hc0 : l0.length ≤ c0) (h : spec_AssignPriorities.f k l0 = some (r1, r2)) :
    Calls Try.prog 38 #[.slice A0 l0.length c0] w fun e w' => ∃ v0_ : Value, e = .returned (.tuple #[v0_, .bool r2]) ∧ Kd.R (Kd.int .i64) 3 w' w.heap.size (fun _ => True) v0_ r1 ∧ Below w.heap.size w w' := by
  have HR0 := Aside0.mk hr0
  have HC0 := Aside0.mk hc0
  clear hr0 hc0
  have HB := Aside0.mk (Below.refl w.heap.size w)
  have H : ((spec_SetValid.f k l0).bind fun t101 => (if t101 = true then (spec_AssignPriorities.l0 k l0 (([] : List Int))) else (some ((([] : List Int)), false)))) = some (r1, r2) := h
  clear h
  replace H := Option.bind_eq_some_iff.mp H
  obtain ⟨t101, A20, H⟩ := H
  replace H : (if t101 = true then (spec_AssignPriorities.l0 k l0 (([] : List Int))) else (some ((([] : List Int)), false))) = some (r1, r2) := H
  have A2 := Aside0.mk A20
  clear A20
  by_cases c3 : t101 = true
  · subst c3
    have H1 : (spec_AssignPriorities.l0 k l0 (([] : List Int))) = some (r1, r2) := by rw [if_pos rfl] at H; exact H
    clear H
    have H := H1
    clear H1
    obtain ⟨y105, hy105⟩ : ∃ y_ : List Int, y_ = (([] : List Int)) := ⟨_, rfl⟩
    replace H : (spec_AssignPriorities.l0 k l0 y105) = some (r1, r2) := by first | (rw [hy105]; with_reducible exact H) | (have H2_ := (Option.bind_some _ _).symm.trans H; rw [hy105]; with_reducible exact H2_) | (have H2_ := (Option.bind_some _ _).symm.trans H; with_reducible exact H2_) | with_reducible exact H | (rw [hy105]; exact H) | exact H
    have Ny105 := Aside0.mk hy105
    clear hy105
    have H' := Aside0.mk H
    clear H
    go_enter Try.func38, Try.ntmps38
    go_wp2_with (first | ((with_reducible refine gate_callee (f := 45) rfl ?_); refine goesL_ (some 8) rfl rfl Try.func45 (by kernel_rfl) rfl #[.slice A0 l0.length c0] rfl (by (try simp only [List.map_toArray, List.map_cons, List.map_nil]); first | done | rfl | (simp only [List.length_drop, List.length_take]; rfl)) ?_; (with_reducible refine (spec_SetValid.calls k _ _ l0 true _ ?side1 ?side2 A2.out).mono ?_); (case side1 => repeat (first | exact HR0.out | (with_reducible refine Kd.C_alloc ?_ _) | (with_reducible refine Kd.C_drewN ?_ _) | (with_reducible refine Kd.C_drew ?_))); (case side2 => exact HC0.out); rintro e w4 ⟨rfl, hb⟩; refine ⟨_, rfl, ?_⟩; have n0_ := Aside0.mk (below_step (by repeat (first | (with_reducible first | exact HB.out | apply below_alloc | apply pw_below_drewN | apply below_drew1) | exact HB.out)) hb); clear HB; have HB := n0_; clear n0_; (try clear hb); (try clear hb2); (try clear hk); (try clear hi)) | ((with_reducible refine gate_dst (N := 11) rfl ?_); (try (refine gate_guard (by rfl) ?_; dsimp only)); refine Kd.R_lit (Kd.int .i64) _ 3 ?hg (N := 11) ?hd (xs := ([] : List Int)) (inner := []) (ok := fun _ => True) (okp := fun _ => True) ?hr ?hp (fun _ hk => hk) trivial (Below.refl _ _) (Nat.le_refl _) (by simp) ?_; (case hd => rfl); (case hg => rfl); (case hr => first | (go_simp; done) | (go_simp; rfl)); (case hp => exact (Reps.none _ _)); intro v106 w5 ho6 hb hg_ hnew_; clear hg_ hnew_; (first | rw [← Ny105.out] at ho6 | (simp only [Int.reduceToNat] at ho6; rw [← Ny105.out] at ho6)); have n0_ := Aside0.mk (Kd.R_lower ho6 (below_size (by repeat (first | (with_reducible first | exact HB.out | apply below_alloc | apply pw_below_drewN | apply below_drew1) | exact HB.out)))); have n1_ := Aside0.mk (below_step (by repeat (first | (with_reducible first | exact HB.out | apply below_alloc | apply pw_below_drewN | apply below_drew1) | exact HB.out)) hb); clear HB; have HO107 := n0_; have HB := n1_; clear n0_ n1_; clear hb ho6))
    go_loopg [4] k (fun kq v4 w' => ∃ (x4_1 : List Int), Aside0 (spec_AssignPriorities.l0 kq l0 x4_1 = some (r1, r2)) ∧ Aside0 (kq ≤ k) ∧ Aside0 (Kd.R (Kd.int .i64) 3 w' w.heap.size (fun _ => True) v4 x4_1) ∧ Aside0 (Below w.heap.size w w'))
    case atStart => exact ⟨(y105), H', ⟨Nat.le_refl _⟩, ⟨by (with_reducible repeat (first | apply Kd.R_alloc | apply Kd.R_drewN | apply Kd.R_drew)); exact HO107.out⟩, ⟨by repeat (first | (with_reducible first | exact HB.out | apply below_alloc | apply pw_below_drewN | apply below_drew1) | exact HB.out)⟩⟩
    case round =>
      clear H'
      try clear p2
      try clear c3
      try clear c4
      obtain ⟨x4_1, HA, HK1, HO_4, HB⟩ := hrel
      cases gk with
      | zero => exact absurd HA.out (by simp [spec_AssignPriorities.l0])
      | succ k1 =>
        have H := HA.out
        clear HA
        simp only [spec_AssignPriorities.l0] at H
        by_cases c7 : (x4_1.length : Int) < (l0.length : Int)
        · rw [if_pos c7] at H
          have c7b0 : decide ((x4_1.length : Int) < (l0.length : Int)) = true := decide_eq_true c7
          have c7b1 : decide (x4_1.length < l0.length) = true := decide_eq_true (Int.ofNat_lt.mp c7)
          clear c7
          have H' := Aside0.mk H
          clear H
          obtain ⟨Ao8, co8, eo8⟩ := Kd.R_slice HO_4.out
          subst eo8
          go_wp2
          go_loopg [5, 6] k1 (fun kq v5 v6 w' => ∃ (x5_2 : Int) (x6_2 : Int), v5 = .int .i64 x5_2 ∧ v6 = .int .i64 x6_2 ∧ Aside0 (spec_AssignPriorities.l1 kq l0 x4_1 x5_2 x6_2 = some (r1, r2)) ∧ Aside0 (kq ≤ k1) ∧ Aside0 (Kd.R (Kd.int .i64) 3 w' w.heap.size (fun _ => True) (.slice Ao8 x4_1.length co8) x4_1) ∧ Aside0 (Below w.heap.size w w'))
          case atStart => exact ⟨((-1)), (wrap64 ((l0.length : Int) - 1)), (by first | rfl | (simp; done) | (simp [*]; done) | (simp only [i64_w, i32_w]; done) | (simp [*, i64_w, i32_w]; done)), (by first | rfl | (simp; done) | (simp [*]; done) | (simp only [i64_w, i32_w]; done) | (simp [*, i64_w, i32_w]; done)), H', ⟨Nat.le_refl _⟩, ⟨by (with_reducible repeat (first | apply Kd.R_alloc | apply Kd.R_drewN | apply Kd.R_drew)); exact HO_4.out⟩, ⟨by repeat (first | (with_reducible first | exact HB.out | apply below_alloc | apply pw_below_drewN | apply below_drew1) | exact HB.out)⟩⟩
          case round =>
            clear H'
            try clear p2
            try clear c3
            try clear c4
            try clear p6
            try clear c7
            try clear c7b0
            try clear c7b1
            try clear p2
            obtain ⟨x5_2, x6_2, rfl, rfl, HA, HK2, HO_4, HB⟩ := hrel
            cases gk with
            | zero => exact absurd HA.out (by simp [spec_AssignPriorities.l1])
            | succ k2 =>
              have H := HA.out
              clear HA
              simp only [spec_AssignPriorities.l1] at H
              by_cases c9 : x6_2 ≥ 0
              · rw [if_pos c9] at H
                have c9b0 : decide (0 ≤ x6_2) = true := decide_eq_true c9
                clear c9
                replace H := Option.bind_eq_some_iff.mp H
                obtain ⟨t117, A100, H⟩ := H
                replace H : (if t117 < 0 then ((spec_l4Others.f k2 (l0.length : Int) x6_2 x4_1).bind fun t118 => ((spec_l4Response.f k2 l0 t118 x6_2).bind fun t121 => (if t121 ≥ 0 then (spec_AssignPriorities.l1 k2 l0 x4_1 x6_2 (wrap64 (x6_2 - 1))) else (spec_AssignPriorities.l1 k2 l0 x4_1 x5_2 (wrap64 (x6_2 - 1)))))) else (spec_AssignPriorities.l1 k2 l0 x4_1 x5_2 (wrap64 (x6_2 - 1)))) = some (r1, r2) := H
                have A10 := Aside0.mk A100
                clear A100
                by_cases c11 : t117 < 0
                · rw [if_pos c11] at H
                  have c11b0 : decide (t117 < 0) = true := decide_eq_true c11
                  clear c11
                  replace H := Option.bind_eq_some_iff.mp H
                  obtain ⟨t118, A120, H⟩ := H
                  replace H : ((spec_l4Response.f k2 l0 t118 x6_2).bind fun t121 => (if t121 ≥ 0 then (spec_AssignPriorities.l1 k2 l0 x4_1 x6_2 (wrap64 (x6_2 - 1))) else (spec_AssignPriorities.l1 k2 l0 x4_1 x5_2 (wrap64 (x6_2 - 1))))) = some (r1, r2) := H
                  have A12 := Aside0.mk A120
                  clear A120
                  replace H := Option.bind_eq_some_iff.mp H
                  obtain ⟨t121, A130, H⟩ := H
                  replace H : (if t121 ≥ 0 then (spec_AssignPriorities.l1 k2 l0 x4_1 x6_2 (wrap64 (x6_2 - 1))) else (spec_AssignPriorities.l1 k2 l0 x4_1 x5_2 (wrap64 (x6_2 - 1)))) = some (r1, r2) := H
                  have A13 := Aside0.mk A130
                  clear A130
                  by_cases c14 : t121 ≥ 0
                  · rw [if_pos c14] at H
                    have c14b0 : decide (0 ≤ t121) = true := decide_eq_true c14
                    clear c14
                    have H' := Aside0.mk H
                    clear H
                    go_wp2_with (first | ((with_reducible refine gate_callee (f := 47) rfl ?_); refine goesL_ (some 26) rfl rfl Try.func47 (by kernel_rfl) rfl #[.slice Ao8 x4_1.length co8, .int .i64 x6_2] rfl (by (try simp only [List.map_toArray, List.map_cons, List.map_nil]); first | done | rfl | (simp only [List.length_drop, List.length_take]; rfl)) ?_; (with_reducible refine (spec_l4Index.calls k2 _ _ x4_1 x6_2 t117 _ ?side1 ?side2 A10.out).mono ?_); (case side1 => repeat (first | exact (Kd.R_reads' HO_4.out).2.2 | (with_reducible refine Kd.C_alloc ?_ _) | (with_reducible refine Kd.C_drewN ?_ _) | (with_reducible refine Kd.C_drew ?_))); (case side2 => exact (Kd.R_reads' HO_4.out).2.1); rintro e w' ⟨rfl, ⟨nd, rfl⟩⟩; refine ⟨_, rfl, ?_⟩) | (go_at_call 66; (with_reducible refine (spec_l4Others.calls k2 (l0.length : Int) x6_2 _ _ x4_1 t118 _ ?side1 ?side2 A12.out).mono ?_); (case side1 => repeat (first | exact (Kd.R_reads' HO_4.out).2.2 | (with_reducible refine Kd.C_alloc ?_ _) | (with_reducible refine Kd.C_drewN ?_ _) | (with_reducible refine Kd.C_drew ?_))); (case side2 => exact (Kd.R_reads' HO_4.out).2.1); rintro e w15 ⟨v119, rfl, ho0, hb⟩; have n0_ := Aside0.mk (Kd.R_elder' (by (with_reducible repeat (first | apply Kd.R_alloc | apply Kd.R_drewN | apply Kd.R_drew)); exact HO_4.out) (Kd.R_base ho0) hb); have n1_ := Aside0.mk (Kd.R_lower (Kd.R_new' ho0 (Kd.R_lt (by (with_reducible repeat (first | apply Kd.R_alloc | apply Kd.R_drewN | apply Kd.R_drew)); exact HO_4.out))) (below_size (by repeat (first | (with_reducible first | exact HB.out | apply below_alloc | apply pw_below_drewN | apply below_drew1) | exact HB.out)))); have n2_ := Aside0.mk (below_step (by repeat (first | (with_reducible first | exact HB.out | apply below_alloc | apply pw_below_drewN | apply below_drew1) | exact HB.out)) hb); clear HO_4; clear HB; have HO_4 := n0_; have HO120 := n1_; have HB := n2_; clear n0_ n1_ n2_; (try clear hb); (try clear hb2); (try clear hk); (try clear hi); (try clear ho0); obtain ⟨Ao16, co16, eo16⟩ := Kd.R_slice HO120.out; subst eo16) | (go_at_call 61; (with_reducible refine (spec_l4Response.calls k2 _ _ l0 _ _ t118 x6_2 t121 _ ?side1 ?side2 ?side3 ?side4 A13.out).mono ?_); (case side1 => repeat (first | exact (Kd.C_below HR0.out HB.out) | (with_reducible refine Kd.C_alloc ?_ _) | (with_reducible refine Kd.C_drewN ?_ _) | (with_reducible refine Kd.C_drew ?_))); (case side2 => exact HC0.out); (case side3 => repeat (first | exact (Kd.R_reads' HO120.out).2.2 | (with_reducible refine Kd.C_alloc ?_ _) | (with_reducible refine Kd.C_drewN ?_ _) | (with_reducible refine Kd.C_drew ?_))); (case side4 => exact (Kd.R_reads' HO120.out).2.1); rintro e w17 ⟨rfl, hb⟩; have n0_ := Aside0.mk (Kd.R_below (by (with_reducible repeat (first | apply Kd.R_alloc | apply Kd.R_drewN | apply Kd.R_drew)); exact HO_4.out) hb); have n1_ := Aside0.mk (Kd.R_below (by (with_reducible repeat (first | apply Kd.R_alloc | apply Kd.R_drewN | apply Kd.R_drew)); exact HO120.out) hb); have n2_ := Aside0.mk (below_step (by repeat (first | (with_reducible first | exact HB.out | apply below_alloc | apply pw_below_drewN | apply below_drew1) | exact HB.out)) hb); clear HO_4; clear HO120; clear HB; have HO_4 := n0_; have HO120 := n1_; have HB := n2_; clear n0_ n1_ n2_; (try clear hb); (try clear hb2); (try clear hk); (try clear hi)))
                    go_roundg k2
                    case measure => have := HK1.out; have := HK2.out; omega
                    case rel => exact ⟨(x6_2), (wrap64 (x6_2 - 1)), (by first | rfl | (simp; done) | (simp [*]; done) | (simp only [i64_w, i32_w]; done) | (simp [*, i64_w, i32_w]; done)), (by first | rfl | (simp; done) | (simp [*]; done) | (simp only [i64_w, i32_w]; done) | (simp [*, i64_w, i32_w]; done)), H', ⟨by have := HK1.out; have := HK2.out; omega⟩, ⟨by (with_reducible repeat (first | apply Kd.R_alloc | apply Kd.R_drewN | apply Kd.R_drew)); exact Kd.R_mono HO_4.out (fun _ hk => trivial)⟩, ⟨by repeat (first | (with_reducible first | exact HB.out | apply below_alloc | apply pw_below_drewN | apply below_drew1) | exact HB.out)⟩⟩
                  · rw [if_neg c14] at H
                    have c14b0 : decide (0 ≤ t121) = false := decide_eq_false c14
                    clear c14
                    have H' := Aside0.mk H
                    clear H
                    go_wp2_with (first | ((with_reducible refine gate_callee (f := 47) rfl ?_); refine goesL_ (some 26) rfl rfl Try.func47 (by kernel_rfl) rfl #[.slice Ao8 x4_1.length co8, .int .i64 x6_2] rfl (by (try simp only [List.map_toArray, List.map_cons, List.map_nil]); first | done | rfl | (simp only [List.length_drop, List.length_take]; rfl)) ?_; (with_reducible refine (spec_l4Index.calls k2 _ _ x4_1 x6_2 t117 _ ?side1 ?side2 A10.out).mono ?_); (case side1 => repeat (first | exact (Kd.R_reads' HO_4.out).2.2 | (with_reducible refine Kd.C_alloc ?_ _) | (with_reducible refine Kd.C_drewN ?_ _) | (with_reducible refine Kd.C_drew ?_))); (case side2 => exact (Kd.R_reads' HO_4.out).2.1); rintro e w' ⟨rfl, ⟨nd, rfl⟩⟩; refine ⟨_, rfl, ?_⟩) | (go_at_call 66; (with_reducible refine (spec_l4Others.calls k2 (l0.length : Int) x6_2 _ _ x4_1 t118 _ ?side1 ?side2 A12.out).mono ?_); (case side1 => repeat (first | exact (Kd.R_reads' HO_4.out).2.2 | (with_reducible refine Kd.C_alloc ?_ _) | (with_reducible refine Kd.C_drewN ?_ _) | (with_reducible refine Kd.C_drew ?_))); (case side2 => exact (Kd.R_reads' HO_4.out).2.1); rintro e w18 ⟨v119, rfl, ho0, hb⟩; have n0_ := Aside0.mk (Kd.R_elder' (by (with_reducible repeat (first | apply Kd.R_alloc | apply Kd.R_drewN | apply Kd.R_drew)); exact HO_4.out) (Kd.R_base ho0) hb); have n1_ := Aside0.mk (Kd.R_lower (Kd.R_new' ho0 (Kd.R_lt (by (with_reducible repeat (first | apply Kd.R_alloc | apply Kd.R_drewN | apply Kd.R_drew)); exact HO_4.out))) (below_size (by repeat (first | (with_reducible first | exact HB.out | apply below_alloc | apply pw_below_drewN | apply below_drew1) | exact HB.out)))); have n2_ := Aside0.mk (below_step (by repeat (first | (with_reducible first | exact HB.out | apply below_alloc | apply pw_below_drewN | apply below_drew1) | exact HB.out)) hb); clear HO_4; clear HB; have HO_4 := n0_; have HO120 := n1_; have HB := n2_; clear n0_ n1_ n2_; (try clear hb); (try clear hb2); (try clear hk); (try clear hi); (try clear ho0); obtain ⟨Ao19, co19, eo19⟩ := Kd.R_slice HO120.out; subst eo19) | (go_at_call 61; (with_reducible refine (spec_l4Response.calls k2 _ _ l0 _ _ t118 x6_2 t121 _ ?side1 ?side2 ?side3 ?side4 A13.out).mono ?_); (case side1 => repeat (first | exact (Kd.C_below HR0.out HB.out) | (with_reducible refine Kd.C_alloc ?_ _) | (with_reducible refine Kd.C_drewN ?_ _) | (with_reducible refine Kd.C_drew ?_))); (case side2 => exact HC0.out); (case side3 => repeat (first | exact (Kd.R_reads' HO120.out).2.2 | (with_reducible refine Kd.C_alloc ?_ _) | (with_reducible refine Kd.C_drewN ?_ _) | (with_reducible refine Kd.C_drew ?_))); (case side4 => exact (Kd.R_reads' HO120.out).2.1); rintro e w20 ⟨rfl, hb⟩; have n0_ := Aside0.mk (Kd.R_below (by (with_reducible repeat (first | apply Kd.R_alloc | apply Kd.R_drewN | apply Kd.R_drew)); exact HO_4.out) hb); have n1_ := Aside0.mk (Kd.R_below (by (with_reducible repeat (first | apply Kd.R_alloc | apply Kd.R_drewN | apply Kd.R_drew)); exact HO120.out) hb); have n2_ := Aside0.mk (below_step (by repeat (first | (with_reducible first | exact HB.out | apply below_alloc | apply pw_below_drewN | apply below_drew1) | exact HB.out)) hb); clear HO_4; clear HO120; clear HB; have HO_4 := n0_; have HO120 := n1_; have HB := n2_; clear n0_ n1_ n2_; (try clear hb); (try clear hb2); (try clear hk); (try clear hi)))
                    go_roundg k2
                    case measure => have := HK1.out; have := HK2.out; omega
                    case rel => exact ⟨(x5_2), (wrap64 (x6_2 - 1)), (by first | rfl | (simp; done) | (simp [*]; done) | (simp only [i64_w, i32_w]; done) | (simp [*, i64_w, i32_w]; done)), (by first | rfl | (simp; done) | (simp [*]; done) | (simp only [i64_w, i32_w]; done) | (simp [*, i64_w, i32_w]; done)), H', ⟨by have := HK1.out; have := HK2.out; omega⟩, ⟨by (with_reducible repeat (first | apply Kd.R_alloc | apply Kd.R_drewN | apply Kd.R_drew)); exact Kd.R_mono HO_4.out (fun _ hk => trivial)⟩, ⟨by repeat (first | (with_reducible first | exact HB.out | apply below_alloc | apply pw_below_drewN | apply below_drew1) | exact HB.out)⟩⟩
                · rw [if_neg c11] at H
                  have c11b0 : decide (t117 < 0) = false := decide_eq_false c11
                  clear c11
                  have H' := Aside0.mk H
                  clear H
                  go_wp2_with (first | ((with_reducible refine gate_callee (f := 47) rfl ?_); refine goesL_ (some 26) rfl rfl Try.func47 (by kernel_rfl) rfl #[.slice Ao8 x4_1.length co8, .int .i64 x6_2] rfl (by (try simp only [List.map_toArray, List.map_cons, List.map_nil]); first | done | rfl | (simp only [List.length_drop, List.length_take]; rfl)) ?_; (with_reducible refine (spec_l4Index.calls k2 _ _ x4_1 x6_2 t117 _ ?side1 ?side2 A10.out).mono ?_); (case side1 => repeat (first | exact (Kd.R_reads' HO_4.out).2.2 | (with_reducible refine Kd.C_alloc ?_ _) | (with_reducible refine Kd.C_drewN ?_ _) | (with_reducible refine Kd.C_drew ?_))); (case side2 => exact (Kd.R_reads' HO_4.out).2.1); rintro e w' ⟨rfl, ⟨nd, rfl⟩⟩; refine ⟨_, rfl, ?_⟩))
                  go_roundg k2
                  case measure => have := HK1.out; have := HK2.out; omega
                  case rel => exact ⟨(x5_2), (wrap64 (x6_2 - 1)), (by first | rfl | (simp; done) | (simp [*]; done) | (simp only [i64_w, i32_w]; done) | (simp [*, i64_w, i32_w]; done)), (by first | rfl | (simp; done) | (simp [*]; done) | (simp only [i64_w, i32_w]; done) | (simp [*, i64_w, i32_w]; done)), H', ⟨by have := HK1.out; have := HK2.out; omega⟩, ⟨by (with_reducible repeat (first | apply Kd.R_alloc | apply Kd.R_drewN | apply Kd.R_drew)); exact HO_4.out⟩, ⟨by repeat (first | (with_reducible first | exact HB.out | apply below_alloc | apply pw_below_drewN | apply below_drew1) | exact HB.out)⟩⟩
              · rw [if_neg c9] at H
                have c9b0 : decide (0 ≤ x6_2) = false := decide_eq_false c9
                clear c9
                by_cases c21 : x5_2 < 0
                · rw [if_pos c21] at H
                  have c21b0 : decide (x5_2 < 0) = true := decide_eq_true c21
                  clear c21
                  obtain ⟨y108, hy108⟩ : ∃ y_ : List Int, y_ = (([] : List Int)) := ⟨_, rfl⟩
                  replace H : (some (y108, false)) = some (r1, r2) := by first | (rw [hy108]; with_reducible exact H) | (have H2_ := (Option.bind_some _ _).symm.trans H; rw [hy108]; with_reducible exact H2_) | (have H2_ := (Option.bind_some _ _).symm.trans H; with_reducible exact H2_) | with_reducible exact H | (rw [hy108]; exact H) | exact H
                  have Ny108 := Aside0.mk hy108
                  clear hy108
                  simp only [Option.some.injEq, Prod.mk.injEq] at H
                  obtain ⟨rfl, rfl⟩ := H
                  go_wp2_with (first | ((with_reducible refine gate_dst (N := 42) rfl ?_); (try (refine gate_guard (by rfl) ?_; dsimp only)); refine Kd.R_lit (Kd.int .i64) _ 3 ?hg (N := 42) ?hd (xs := ([] : List Int)) (inner := []) (ok := fun _ => True) (okp := fun _ => True) ?hr ?hp (fun _ hk => hk) trivial (Below.refl _ _) (Nat.le_refl _) (by simp) ?_; (case hd => rfl); (case hg => rfl); (case hr => first | (go_simp; done) | (go_simp; rfl)); (case hp => exact (Reps.none _ _)); intro v109 w22 ho23 hb hg_ hnew_; clear hg_ hnew_; (first | rw [← Ny108.out] at ho23 | (simp only [Int.reduceToNat] at ho23; rw [← Ny108.out] at ho23)); have n0_ := Aside0.mk (Kd.R_elder' (by (with_reducible repeat (first | apply Kd.R_alloc | apply Kd.R_drewN | apply Kd.R_drew)); exact HO_4.out) (Kd.R_base ho23) hb); have n1_ := Aside0.mk (Kd.R_lower (Kd.R_new' ho23 (Kd.R_lt (by (with_reducible repeat (first | apply Kd.R_alloc | apply Kd.R_drewN | apply Kd.R_drew)); exact HO_4.out))) (below_size (by repeat (first | (with_reducible first | exact HB.out | apply below_alloc | apply pw_below_drewN | apply below_drew1) | exact HB.out)))); have n2_ := Aside0.mk (below_step (by repeat (first | (with_reducible first | exact HB.out | apply below_alloc | apply pw_below_drewN | apply below_drew1) | exact HB.out)) hb); clear HO_4; clear HB; have HO_4 := n0_; have HO110 := n1_; have HB := n2_; clear n0_ n1_ n2_; clear hb ho23))
                  go_ret2
                  exact ⟨_, by first | rfl | (simp [errW_none, errW_some] <;> rfl) | (simp [*, errW_none, errW_some] <;> rfl), by (with_reducible repeat (first | apply Kd.R_alloc | apply Kd.R_drewN | apply Kd.R_drew)); exact Kd.R_mono HO110.out (fun _ hk => trivial), by repeat (first | (with_reducible first | exact HB.out | apply below_alloc | apply pw_below_drewN | apply below_drew1) | exact HB.out)⟩
                · rw [if_neg c21] at H
                  have c21b0 : decide (x5_2 < 0) = false := decide_eq_false c21
                  clear c21
                  obtain ⟨y111, hy111⟩ : ∃ y_ : List Int, y_ = (([x5_2] : List Int)) := ⟨_, rfl⟩
                  replace H : (if y111.length + x4_1.length < 17592186044416 then (spec_AssignPriorities.l0 k2 l0 (y111 ++ x4_1)) else (none)) = some (r1, r2) := by first | (rw [hy111]; with_reducible exact H) | (have H2_ := (Option.bind_some _ _).symm.trans H; rw [hy111]; with_reducible exact H2_) | (have H2_ := (Option.bind_some _ _).symm.trans H; with_reducible exact H2_) | with_reducible exact H | (rw [hy111]; exact H) | exact H
                  have Ny111 := Aside0.mk hy111
                  clear hy111
                  by_cases c24 : y111.length + x4_1.length < 17592186044416
                  · rw [if_pos c24] at H
                    have LMc24 := Aside0.mk c24
                    clear c24
                    obtain ⟨y114, hy114⟩ : ∃ y_ : List Int, y_ = (y111 ++ x4_1) := ⟨_, rfl⟩
                    replace H : (spec_AssignPriorities.l0 k2 l0 y114) = some (r1, r2) := by first | (rw [hy114]; with_reducible exact H) | (have H2_ := (Option.bind_some _ _).symm.trans H; rw [hy114]; with_reducible exact H2_) | (have H2_ := (Option.bind_some _ _).symm.trans H; with_reducible exact H2_) | with_reducible exact H | (rw [hy114]; exact H) | exact H
                    have Ny114 := Aside0.mk hy114
                    clear hy114
                    have H' := Aside0.mk H
                    clear H
                    go_wp2_with (first | ((with_reducible refine gate_dst (N := 44) rfl ?_); (try (refine gate_guard (by rfl) ?_; dsimp only)); refine Kd.R_lit (Kd.int .i64) _ 3 ?hg (N := 44) ?hd (xs := ([x5_2] : List Int)) (inner := [.int .i64 x5_2]) (ok := fun _ => True) (okp := fun _ => True) ?hr ?hp (fun _ hk => hk) trivial (Below.refl _ _) (Nat.le_refl _) (by simp) ?_; (case hd => rfl); (case hg => rfl); (case hr => first | (go_simp; done) | (go_simp; rfl)); (case hp => exact (Reps.one (show Kd.M (Kd.int .i64) _ _ _ x5_2 [.int .i64 x5_2] from rfl) (Reps.none _ _))); intro v112 w25 ho26 hb hg_ hnew_; clear hg_ hnew_; (first | rw [← Ny111.out] at ho26 | (simp only [Int.reduceToNat] at ho26; rw [← Ny111.out] at ho26)); have n0_ := Aside0.mk (Kd.R_elder' (by (with_reducible repeat (first | apply Kd.R_alloc | apply Kd.R_drewN | apply Kd.R_drew)); exact HO_4.out) (Kd.R_base ho26) hb); have n1_ := Aside0.mk (Kd.R_lower (Kd.R_new' ho26 (Kd.R_lt (by (with_reducible repeat (first | apply Kd.R_alloc | apply Kd.R_drewN | apply Kd.R_drew)); exact HO_4.out))) (below_size (by repeat (first | (with_reducible first | exact HB.out | apply below_alloc | apply pw_below_drewN | apply below_drew1) | exact HB.out)))); have n2_ := Aside0.mk (below_step (by repeat (first | (with_reducible first | exact HB.out | apply below_alloc | apply pw_below_drewN | apply below_drew1) | exact HB.out)) hb); clear HO_4; clear HB; have HO_4 := n0_; have HO113 := n1_; have HB := n2_; clear n0_ n1_ n2_; clear hb ho26) | ((with_reducible refine gate_builtin (b := .append) (xs := #[.tmp 44, .tmp 45]) rfl ?_); (try (refine gate_guard (by rfl) ?_; dsimp only)); at_builtin; refine Kd.R_append_rows (Kd.int .i64) (w0 := w) w.heap.size rfl (.tmp 44) (.tmp 45) 23 3 (.int .i64 0) 8 rfl Try.underlying23 info3 rfl (by decide) (by omega) v112 y111 x4_1 _ _ _ (fun k_ => some k_ ≠ (.slice Ao8 x4_1.length co8 : Value).ownBlock) (fun _ => False) rfl rfl ?aO ?aR (fun _ _ h => h) (fun _ h => h.elim) ?aF ?aB ?aS ?aL ?_; (case aR => repeat (first | exact (Kd.R_reads' HO_4.out).2.2 | (with_reducible refine Kd.C_alloc ?_ _) | (with_reducible refine Kd.C_drewN ?_ _) | (with_reducible refine Kd.C_drew ?_))); (case aB => exact (by repeat (first | (with_reducible first | exact HB.out | apply below_alloc | apply pw_below_drewN | apply below_drew1) | exact HB.out))); (case aF => exact (fun k_ hk => Kd.fresh' (Kd.R_lt (by (with_reducible repeat (first | apply Kd.R_alloc | apply Kd.R_drewN | apply Kd.R_drew)); exact HO_4.out)) k_ hk)); (case aO => exact (by (with_reducible repeat (first | apply Kd.R_alloc | apply Kd.R_drewN | apply Kd.R_drew)); exact Kd.R_mono HO113.out (fun _ hk => hk.2))); (case aS => exact (below_size (by repeat (first | (with_reducible first | exact HB.out | apply below_alloc | apply pw_below_drewN | apply below_drew1) | exact HB.out)))); (case aL => have := LMc24.out; omega); intro v115 w27 ho hb hg hat; rw [← Ny114.out] at ho; have n0_ := Aside0.mk (Kd.R_after (ok := (fun _ => True)) (by (with_reducible repeat (first | apply Kd.R_alloc | apply Kd.R_drewN | apply Kd.R_drew)); exact HO_4.out) hg hat); have n1_ := Aside0.mk (hb); have n2_ := Aside0.mk (ho); clear HO_4; clear HB; clear HO113; have HO_4 := n0_; have HB := n1_; have HO116 := n2_; clear n0_ n1_ n2_; clear ho hb hg hat))
                    go_roundg k2
                    case measure => have := HK1.out; have := HK2.out; omega
                    case rel => exact ⟨(y114), H', ⟨by have := HK1.out; have := HK2.out; omega⟩, ⟨by (with_reducible repeat (first | apply Kd.R_alloc | apply Kd.R_drewN | apply Kd.R_drew)); exact Kd.R_mono HO116.out (fun _ hk => trivial)⟩, ⟨by repeat (first | (with_reducible first | exact HB.out | apply below_alloc | apply pw_below_drewN | apply below_drew1) | exact HB.out)⟩⟩
                  · rw [if_neg c24] at H
                    exact absurd H (by simp)
        · rw [if_neg c7] at H
          have c7b0 : decide ((x4_1.length : Int) < (l0.length : Int)) = false := decide_eq_false c7
          have c7b1 : decide (x4_1.length < l0.length) = false := decide_eq_false (fun h => c7 (Int.ofNat_lt.mpr h))
          clear c7
          simp only [Option.some.injEq, Prod.mk.injEq] at H
          obtain ⟨rfl, rfl⟩ := H
          obtain ⟨Ao28, co28, eo28⟩ := Kd.R_slice HO_4.out
          subst eo28
          go_wp2
          go_ret2
          exact ⟨_, by first | rfl | (simp [errW_none, errW_some] <;> rfl) | (simp [*, errW_none, errW_some] <;> rfl), by (with_reducible repeat (first | apply Kd.R_alloc | apply Kd.R_drewN | apply Kd.R_drew)); exact HO_4.out, by repeat (first | (with_reducible first | exact HB.out | apply below_alloc | apply pw_below_drewN | apply below_drew1) | exact HB.out)⟩
  · replace c3 := Bool.eq_false_iff.mpr c3
    subst c3
    have H1 : (some ((([] : List Int)), false)) = some (r1, r2) := by rw [if_neg (show ¬ (false = true) by decide)] at H; exact H
    clear H
    have H := H1
    clear H1
    obtain ⟨y102, hy102⟩ : ∃ y_ : List Int, y_ = (([] : List Int)) := ⟨_, rfl⟩
    replace H : (some (y102, false)) = some (r1, r2) := by first | (rw [hy102]; with_reducible exact H) | (have H2_ := (Option.bind_some _ _).symm.trans H; rw [hy102]; with_reducible exact H2_) | (have H2_ := (Option.bind_some _ _).symm.trans H; with_reducible exact H2_) | with_reducible exact H | (rw [hy102]; exact H) | exact H
    have Ny102 := Aside0.mk hy102
    clear hy102
    simp only [Option.some.injEq, Prod.mk.injEq] at H
    obtain ⟨rfl, rfl⟩ := H
    go_enter Try.func38, Try.ntmps38
    go_wp2_with (first | ((with_reducible refine gate_callee (f := 45) rfl ?_); refine goesL_ (some 8) rfl rfl Try.func45 (by kernel_rfl) rfl #[.slice A0 l0.length c0] rfl (by (try simp only [List.map_toArray, List.map_cons, List.map_nil]); first | done | rfl | (simp only [List.length_drop, List.length_take]; rfl)) ?_; (with_reducible refine (spec_SetValid.calls k _ _ l0 false _ ?side1 ?side2 A2.out).mono ?_); (case side1 => repeat (first | exact HR0.out | (with_reducible refine Kd.C_alloc ?_ _) | (with_reducible refine Kd.C_drewN ?_ _) | (with_reducible refine Kd.C_drew ?_))); (case side2 => exact HC0.out); rintro e w29 ⟨rfl, hb⟩; refine ⟨_, rfl, ?_⟩; have n0_ := Aside0.mk (below_step (by repeat (first | (with_reducible first | exact HB.out | apply below_alloc | apply pw_below_drewN | apply below_drew1) | exact HB.out)) hb); clear HB; have HB := n0_; clear n0_; (try clear hb); (try clear hb2); (try clear hk); (try clear hi)) | ((with_reducible refine gate_dst (N := 10) rfl ?_); (try (refine gate_guard (by rfl) ?_; dsimp only)); refine Kd.R_lit (Kd.int .i64) _ 3 ?hg (N := 10) ?hd (xs := ([] : List Int)) (inner := []) (ok := fun _ => True) (okp := fun _ => True) ?hr ?hp (fun _ hk => hk) trivial (Below.refl _ _) (Nat.le_refl _) (by simp) ?_; (case hd => rfl); (case hg => rfl); (case hr => first | (go_simp; done) | (go_simp; rfl)); (case hp => exact (Reps.none _ _)); intro v103 w30 ho31 hb hg_ hnew_; clear hg_ hnew_; (first | rw [← Ny102.out] at ho31 | (simp only [Int.reduceToNat] at ho31; rw [← Ny102.out] at ho31)); have n0_ := Aside0.mk (Kd.R_lower ho31 (below_size (by repeat (first | (with_reducible first | exact HB.out | apply below_alloc | apply pw_below_drewN | apply below_drew1) | exact HB.out)))); have n1_ := Aside0.mk (below_step (by repeat (first | (with_reducible first | exact HB.out | apply below_alloc | apply pw_below_drewN | apply below_drew1) | exact HB.out)) hb); clear HB; have HO104 := n0_; have HB := n1_; clear n0_ n1_; clear hb ho31))
    go_ret2
    exact ⟨_, by first | rfl | (simp [errW_none, errW_some] <;> rfl) | (simp [*, errW_none, errW_some] <;> rfl), by (with_reducible repeat (first | apply Kd.R_alloc | apply Kd.R_drewN | apply Kd.R_drew)); exact HO104.out, by repeat (first | (with_reducible first | exact HB.out | apply below_alloc | apply pw_below_drewN | apply below_drew1) | exact HB.out)⟩



/-! ### laws_FnExactAssignPriorities: function 10 -/
mutual
def laws_FnExactAssignPriorities.j0 : Nat → List (S56) → List Int → Bool → List (S54) → List Int → Bool → Bool → Option (Bool)
  | 0, _, _, _, _, _, _, _ => none
  | k + 1, x0, x4, x5, x6, x7, x8, x40 => if x40 = true then (some false) else ((laws_toTaskS.f k x0).bind fun t117 => ((laws_eqTaskS.f k x6 t117).bind fun t120 => (if t120 = true then ((laws_markTaskS.f k x6 1).bind fun bt121 => (if bt121.1 < 0 then (laws_FnExactAssignPriorities.j1 k x0 x4 x5 x7 true) else ((laws_eqIntS.f k x7 x4).bind fun t123 => (if t123 = true then (laws_FnExactAssignPriorities.j1 k x0 x4 x5 x7 (x8 != x5)) else (laws_FnExactAssignPriorities.j1 k x0 x4 x5 x7 true))))) else (some false))))
def laws_FnExactAssignPriorities.j1 : Nat → List (S56) → List Int → Bool → List Int → Bool → Option (Bool)
  | 0, _, _, _, _, _ => none
  | k + 1, x0, x4, x5, x7, x61 => if x61 = true then (some false) else ((laws_markIntS.f k x7 1).bind fun bt124 => ((laws_heldIntS.f k bt124.2 1).bind fun t126 => (if t126 < 0 then (some false) else (if t126 = bt124.1 then ((laws_toTaskS.f k x0).bind fun t127 => ((impl_AssignPriorities.f k t127).bind fun bt130 => ((laws_eqIntS.f k bt130.1 x4).bind fun t134 => (if t134 = true then (laws_FnExactAssignPriorities.j2 k bt124.2 bt124.1 (bt130.2 != x5)) else (laws_FnExactAssignPriorities.j2 k bt124.2 bt124.1 true))))) else (some false)))))
def laws_FnExactAssignPriorities.j2 : Nat → List Int → Int → Bool → Option (Bool)
  | 0, _, _, _ => none
  | k + 1, x7, x10, x87 => if x87 = true then (some false) else ((laws_heldIntS.f k x7 1).bind fun t135 => (if t135 < 0 then (some false) else (if t135 = x10 then (some true) else (some false))))
end
def laws_FnExactAssignPriorities.f (k : Nat) (l0 : List (S56)) : Option (Bool) := (laws_szTaskS.f l0 1048576).bind fun t101 => (if t101 < 0 then (some true) else ((laws_toTaskS.f k l0).bind fun t102 => ((spec_AssignPriorities.f k t102).bind fun bt105 => ((laws_toTaskS.f k l0).bind fun t109 => ((impl_AssignPriorities.f k t109).bind fun bt112 => ((laws_eqIntS.f k bt112.1 bt105.1).bind fun t116 => (if t116 = true then (laws_FnExactAssignPriorities.j0 k l0 bt105.1 bt105.2 t109 bt112.1 bt112.2 (bt112.2 != bt105.2)) else (laws_FnExactAssignPriorities.j0 k l0 bt105.1 bt105.2 t109 bt112.1 bt112.2 true))))))))
theorem laws_FnExactAssignPriorities.mono_l : ∀ k, (∀ y0 y1 y2 y3 y4 y5 y6, LeO (laws_FnExactAssignPriorities.j0 k y0 y1 y2 y3 y4 y5 y6) (laws_FnExactAssignPriorities.j0 (k + 1) y0 y1 y2 y3 y4 y5 y6)) ∧ (∀ y0 y1 y2 y3 y4, LeO (laws_FnExactAssignPriorities.j1 k y0 y1 y2 y3 y4) (laws_FnExactAssignPriorities.j1 (k + 1) y0 y1 y2 y3 y4)) ∧ (∀ y0 y1 y2, LeO (laws_FnExactAssignPriorities.j2 k y0 y1 y2) (laws_FnExactAssignPriorities.j2 (k + 1) y0 y1 y2))
  | 0 => ⟨fun _ _ _ _ _ _ _ r h => by simp [laws_FnExactAssignPriorities.j0] at h, fun _ _ _ _ _ r h => by simp [laws_FnExactAssignPriorities.j1] at h, fun _ _ _ r h => by simp [laws_FnExactAssignPriorities.j2] at h⟩
  | k + 1 => by
    obtain ⟨ih0, ih1, ih2⟩ := laws_FnExactAssignPriorities.mono_l k
    refine ⟨?_, ?_, ?_⟩
    · intro y0 y1 y2 y3 y4 y5 y6
      unfold laws_FnExactAssignPriorities.j0
      repeat' first
      | (with_reducible exact ih0 _ _ _ _ _ _ _)
      | (with_reducible exact ih1 _ _ _ _ _)
      | (with_reducible exact ih2 _ _ _)
      | (with_reducible exact impl_AssignPriorities.mono _ _)
      | (with_reducible exact laws_eqIntS.mono _ _ _)
      | (with_reducible exact laws_eqTaskS.mono _ _ _)
      | (with_reducible exact laws_heldIntS.mono _ _ _)
      | (with_reducible exact laws_markIntS.mono _ _ _)
      | (with_reducible exact laws_markTaskS.mono _ _ _)
      | (with_reducible exact laws_toTaskS.mono _ _)
      | (with_reducible exact spec_AssignPriorities.mono _ _)
      | (with_reducible exact LeO.refl _)
      | (with_reducible exact LeO.none _)
      | (with_reducible refine LeO.ite ?_ ?_)
      | (with_reducible refine LeO.bind ?_ (fun _ => ?_))
      | exact ih0 _ _ _ _ _ _ _
      | exact ih1 _ _ _ _ _
      | exact ih2 _ _ _
      | exact impl_AssignPriorities.mono _ _
      | exact laws_eqIntS.mono _ _ _
      | exact laws_eqTaskS.mono _ _ _
      | exact laws_heldIntS.mono _ _ _
      | exact laws_markIntS.mono _ _ _
      | exact laws_markTaskS.mono _ _ _
      | exact laws_toTaskS.mono _ _
      | exact spec_AssignPriorities.mono _ _
      | exact LeO.none _
      | refine LeO.ite ?_ ?_
      | refine LeO.bind ?_ (fun _ => ?_)
    · intro y0 y1 y2 y3 y4
      unfold laws_FnExactAssignPriorities.j1
      repeat' first
      | (with_reducible exact ih0 _ _ _ _ _ _ _)
      | (with_reducible exact ih1 _ _ _ _ _)
      | (with_reducible exact ih2 _ _ _)
      | (with_reducible exact impl_AssignPriorities.mono _ _)
      | (with_reducible exact laws_eqIntS.mono _ _ _)
      | (with_reducible exact laws_eqTaskS.mono _ _ _)
      | (with_reducible exact laws_heldIntS.mono _ _ _)
      | (with_reducible exact laws_markIntS.mono _ _ _)
      | (with_reducible exact laws_markTaskS.mono _ _ _)
      | (with_reducible exact laws_toTaskS.mono _ _)
      | (with_reducible exact spec_AssignPriorities.mono _ _)
      | (with_reducible exact LeO.refl _)
      | (with_reducible exact LeO.none _)
      | (with_reducible refine LeO.ite ?_ ?_)
      | (with_reducible refine LeO.bind ?_ (fun _ => ?_))
      | exact ih0 _ _ _ _ _ _ _
      | exact ih1 _ _ _ _ _
      | exact ih2 _ _ _
      | exact impl_AssignPriorities.mono _ _
      | exact laws_eqIntS.mono _ _ _
      | exact laws_eqTaskS.mono _ _ _
      | exact laws_heldIntS.mono _ _ _
      | exact laws_markIntS.mono _ _ _
      | exact laws_markTaskS.mono _ _ _
      | exact laws_toTaskS.mono _ _
      | exact spec_AssignPriorities.mono _ _
      | exact LeO.none _
      | refine LeO.ite ?_ ?_
      | refine LeO.bind ?_ (fun _ => ?_)
    · intro y0 y1 y2
      unfold laws_FnExactAssignPriorities.j2
      repeat' first
      | (with_reducible exact ih0 _ _ _ _ _ _ _)
      | (with_reducible exact ih1 _ _ _ _ _)
      | (with_reducible exact ih2 _ _ _)
      | (with_reducible exact impl_AssignPriorities.mono _ _)
      | (with_reducible exact laws_eqIntS.mono _ _ _)
      | (with_reducible exact laws_eqTaskS.mono _ _ _)
      | (with_reducible exact laws_heldIntS.mono _ _ _)
      | (with_reducible exact laws_markIntS.mono _ _ _)
      | (with_reducible exact laws_markTaskS.mono _ _ _)
      | (with_reducible exact laws_toTaskS.mono _ _)
      | (with_reducible exact spec_AssignPriorities.mono _ _)
      | (with_reducible exact LeO.refl _)
      | (with_reducible exact LeO.none _)
      | (with_reducible refine LeO.ite ?_ ?_)
      | (with_reducible refine LeO.bind ?_ (fun _ => ?_))
      | exact ih0 _ _ _ _ _ _ _
      | exact ih1 _ _ _ _ _
      | exact ih2 _ _ _
      | exact impl_AssignPriorities.mono _ _
      | exact laws_eqIntS.mono _ _ _
      | exact laws_eqTaskS.mono _ _ _
      | exact laws_heldIntS.mono _ _ _
      | exact laws_markIntS.mono _ _ _
      | exact laws_markTaskS.mono _ _ _
      | exact laws_toTaskS.mono _ _
      | exact spec_AssignPriorities.mono _ _
      | exact LeO.none _
      | refine LeO.ite ?_ ?_
      | refine LeO.bind ?_ (fun _ => ?_)
theorem laws_FnExactAssignPriorities.mono : ∀ a0 k, LeO (laws_FnExactAssignPriorities.f k a0) (laws_FnExactAssignPriorities.f (k + 1) a0) := by
  intro a0 k
  obtain ⟨ih0, ih1, ih2⟩ := laws_FnExactAssignPriorities.mono_l k
  unfold laws_FnExactAssignPriorities.f
  repeat' first
      | (with_reducible exact ih0 _ _ _ _ _ _ _)
      | (with_reducible exact ih1 _ _ _ _ _)
      | (with_reducible exact ih2 _ _ _)
      | (with_reducible exact impl_AssignPriorities.mono _ _)
      | (with_reducible exact laws_eqIntS.mono _ _ _)
      | (with_reducible exact laws_eqTaskS.mono _ _ _)
      | (with_reducible exact laws_heldIntS.mono _ _ _)
      | (with_reducible exact laws_markIntS.mono _ _ _)
      | (with_reducible exact laws_markTaskS.mono _ _ _)
      | (with_reducible exact laws_toTaskS.mono _ _)
      | (with_reducible exact spec_AssignPriorities.mono _ _)
      | (with_reducible exact LeO.refl _)
      | (with_reducible exact LeO.none _)
      | (with_reducible refine LeO.ite ?_ ?_)
      | (with_reducible refine LeO.bind ?_ (fun _ => ?_))
      | exact ih0 _ _ _ _ _ _ _
      | exact ih1 _ _ _ _ _
      | exact ih2 _ _ _
      | exact impl_AssignPriorities.mono _ _
      | exact laws_eqIntS.mono _ _ _
      | exact laws_eqTaskS.mono _ _ _
      | exact laws_heldIntS.mono _ _ _
      | exact laws_markIntS.mono _ _ _
      | exact laws_markTaskS.mono _ _ _
      | exact laws_toTaskS.mono _ _
      | exact spec_AssignPriorities.mono _ _
      | exact LeO.none _
      | refine LeO.ite ?_ ?_
      | refine LeO.bind ?_ (fun _ => ?_)
set_option maxHeartbeats 8000000 in
set_option maxRecDepth 100000 in
theorem laws_FnExactAssignPriorities.calls (k : Nat) (A0 : Option Addr) (c0 : Nat) (l0 : List (S56)) (r : Bool) (w : World) (hr0 : Kd.C k56 w A0 l0.length l0) (hc0 : l0.length ≤ c0) (h : laws_FnExactAssignPriorities.f k l0 = some r) :
    Calls Try.prog 10 #[.slice A0 l0.length c0] w fun e w' => e = .returned (.bool r) ∧ Below w.heap.size w w' := by
  have HR0 := Aside0.mk hr0
  have HC0 := Aside0.mk hc0
  clear hr0 hc0
  have HB := Aside0.mk (Below.refl w.heap.size w)
  have H : ((laws_szTaskS.f l0 1048576).bind fun t101 => (if t101 < 0 then (some true) else ((laws_toTaskS.f k l0).bind fun t102 => ((spec_AssignPriorities.f k t102).bind fun bt105 => ((laws_toTaskS.f k l0).bind fun t109 => ((impl_AssignPriorities.f k t109).bind fun bt112 => ((laws_eqIntS.f k bt112.1 bt105.1).bind fun t116 => (if t116 = true then (laws_FnExactAssignPriorities.j0 k l0 bt105.1 bt105.2 t109 bt112.1 bt112.2 (bt112.2 != bt105.2)) else (laws_FnExactAssignPriorities.j0 k l0 bt105.1 bt105.2 t109 bt112.1 bt112.2 true))))))))) = some r := h
  clear h
  replace H := Option.bind_eq_some_iff.mp H
  obtain ⟨t101, A20, H⟩ := H
  replace H : (if t101 < 0 then (some true) else ((laws_toTaskS.f k l0).bind fun t102 => ((spec_AssignPriorities.f k t102).bind fun bt105 => ((laws_toTaskS.f k l0).bind fun t109 => ((impl_AssignPriorities.f k t109).bind fun bt112 => ((laws_eqIntS.f k bt112.1 bt105.1).bind fun t116 => (if t116 = true then (laws_FnExactAssignPriorities.j0 k l0 bt105.1 bt105.2 t109 bt112.1 bt112.2 (bt112.2 != bt105.2)) else (laws_FnExactAssignPriorities.j0 k l0 bt105.1 bt105.2 t109 bt112.1 bt112.2 true)))))))) = some r := H
  have A2 := Aside0.mk A20
  clear A20
  by_cases c3 : t101 < 0
  · rw [if_pos c3] at H
    have c3b0 : decide (t101 < 0) = true := decide_eq_true c3
    clear c3
    obtain rfl := Option.some.inj H
    go_enter Try.func10, Try.ntmps10
    go_wp2_with (first | ((with_reducible refine gate_callee (f := 13) rfl ?_); refine goesL_ (some 16) rfl rfl Try.func13 (by kernel_rfl) rfl #[.slice A0 l0.length c0, .int .i64 1048576] rfl (by (try simp only [List.map_toArray, List.map_cons, List.map_nil]); first | done | rfl | (simp only [List.length_drop, List.length_take]; rfl)) ?_; (with_reducible refine (laws_szTaskS.calls _ _ l0 1048576 t101 _ ?side1 ?side2 A2.out).mono ?_); (case side1 => repeat (first | exact HR0.out | (with_reducible refine Kd.C_alloc ?_ _) | (with_reducible refine Kd.C_drewN ?_ _) | (with_reducible refine Kd.C_drew ?_))); (case side2 => exact HC0.out); rintro e w' ⟨rfl, ⟨nd, rfl⟩⟩; refine ⟨_, rfl, ?_⟩))
    go_ret
    exact ⟨by first | rfl | (simp [errW_none, errW_some] <;> rfl) | (simp [*, errW_none, errW_some] <;> rfl), by repeat (first | (with_reducible first | exact HB.out | apply below_alloc | apply pw_below_drewN | apply below_drew1) | exact HB.out)⟩
  · rw [if_neg c3] at H
    have c3b0 : decide (t101 < 0) = false := decide_eq_false c3
    clear c3
    replace H := Option.bind_eq_some_iff.mp H
    obtain ⟨t102, A40, H⟩ := H
    replace H : ((spec_AssignPriorities.f k t102).bind fun bt105 => ((laws_toTaskS.f k l0).bind fun t109 => ((impl_AssignPriorities.f k t109).bind fun bt112 => ((laws_eqIntS.f k bt112.1 bt105.1).bind fun t116 => (if t116 = true then (laws_FnExactAssignPriorities.j0 k l0 bt105.1 bt105.2 t109 bt112.1 bt112.2 (bt112.2 != bt105.2)) else (laws_FnExactAssignPriorities.j0 k l0 bt105.1 bt105.2 t109 bt112.1 bt112.2 true)))))) = some r := H
    have A4 := Aside0.mk A40
    clear A40
    replace H := Option.bind_eq_some_iff.mp H
    obtain ⟨⟨t105, t106⟩, A50, H⟩ := H
    replace H : ((laws_toTaskS.f k l0).bind fun t109 => ((impl_AssignPriorities.f k t109).bind fun bt112 => ((laws_eqIntS.f k bt112.1 t105).bind fun t116 => (if t116 = true then (laws_FnExactAssignPriorities.j0 k l0 t105 t106 t109 bt112.1 bt112.2 (bt112.2 != t106)) else (laws_FnExactAssignPriorities.j0 k l0 t105 t106 t109 bt112.1 bt112.2 true))))) = some r := H
    have A5 := Aside0.mk A50
    clear A50
    replace H := Option.bind_eq_some_iff.mp H
    obtain ⟨t109, A60, H⟩ := H
    replace H : ((impl_AssignPriorities.f k t109).bind fun bt112 => ((laws_eqIntS.f k bt112.1 t105).bind fun t116 => (if t116 = true then (laws_FnExactAssignPriorities.j0 k l0 t105 t106 t109 bt112.1 bt112.2 (bt112.2 != t106)) else (laws_FnExactAssignPriorities.j0 k l0 t105 t106 t109 bt112.1 bt112.2 true)))) = some r := H
    have A6 := Aside0.mk A60
    clear A60
    replace H := Option.bind_eq_some_iff.mp H
    obtain ⟨⟨t112, t113⟩, A70, H⟩ := H
    replace H : ((laws_eqIntS.f k t112 t105).bind fun t116 => (if t116 = true then (laws_FnExactAssignPriorities.j0 k l0 t105 t106 t109 t112 t113 (t113 != t106)) else (laws_FnExactAssignPriorities.j0 k l0 t105 t106 t109 t112 t113 true))) = some r := H
    have A7 := Aside0.mk A70
    clear A70
    have HC8 := Aside0.mk H
    clear H
    go_enter Try.func10, Try.ntmps10
    go_upto_region 8 with (first | ((with_reducible refine gate_callee (f := 13) rfl ?_); refine goesL_ (some 16) rfl rfl Try.func13 (by kernel_rfl) rfl #[.slice A0 l0.length c0, .int .i64 1048576] rfl (by (try simp only [List.map_toArray, List.map_cons, List.map_nil]); first | done | rfl | (simp only [List.length_drop, List.length_take]; rfl)) ?_; (with_reducible refine (laws_szTaskS.calls _ _ l0 1048576 t101 _ ?side1 ?side2 A2.out).mono ?_); (case side1 => repeat (first | exact HR0.out | (with_reducible refine Kd.C_alloc ?_ _) | (with_reducible refine Kd.C_drewN ?_ _) | (with_reducible refine Kd.C_drew ?_))); (case side2 => exact HC0.out); rintro e w' ⟨rfl, ⟨nd, rfl⟩⟩; refine ⟨_, rfl, ?_⟩) | ((with_reducible refine gate_callee (f := 15) rfl ?_); refine goesL_ (some 21) rfl rfl Try.func15 (by kernel_rfl) rfl #[.slice A0 l0.length c0] rfl (by (try simp only [List.map_toArray, List.map_cons, List.map_nil]); first | done | rfl | (simp only [List.length_drop, List.length_take]; rfl)) ?_; (with_reducible refine (laws_toTaskS.calls k _ _ l0 t102 _ ?side1 ?side2 A4.out).mono ?_); (case side1 => repeat (first | exact HR0.out | (with_reducible refine Kd.C_alloc ?_ _) | (with_reducible refine Kd.C_drewN ?_ _) | (with_reducible refine Kd.C_drew ?_))); (case side2 => exact HC0.out); rintro e w9 ⟨v103, rfl, ho0, hb⟩; refine ⟨_, rfl, ?_⟩; have n0_ := Aside0.mk (Kd.R_lower ho0 (below_size (by repeat (first | (with_reducible first | exact HB.out | apply below_alloc | apply pw_below_drewN | apply below_drew1) | exact HB.out)))); have n1_ := Aside0.mk (below_step (by repeat (first | (with_reducible first | exact HB.out | apply below_alloc | apply pw_below_drewN | apply below_drew1) | exact HB.out)) hb); clear HB; have HO104 := n0_; have HB := n1_; clear n0_ n1_; (try clear hb); (try clear hb2); (try clear hk); (try clear hi); (try clear ho0); obtain ⟨Ao10, co10, eo10⟩ := Kd.R_slice HO104.out; subst eo10) | ((with_reducible refine gate_callee (f := 38) rfl ?_); refine goesL_ (some 22) rfl rfl Try.func38 (by kernel_rfl) rfl #[.slice Ao10 t102.length co10] rfl (by (try simp only [List.map_toArray, List.map_cons, List.map_nil]); first | done | rfl | (simp only [List.length_drop, List.length_take]; rfl)) ?_; (with_reducible refine (spec_AssignPriorities.calls k _ _ t102 t105 t106 _ ?side1 ?side2 A5.out).mono ?_); (case side1 => repeat (first | exact (Kd.R_reads' HO104.out).2.2 | (with_reducible refine Kd.C_alloc ?_ _) | (with_reducible refine Kd.C_drewN ?_ _) | (with_reducible refine Kd.C_drew ?_))); (case side2 => exact (Kd.R_reads' HO104.out).2.1); rintro e w11 ⟨v107, rfl, ho0, hb⟩; refine ⟨_, rfl, ?_⟩; have n0_ := Aside0.mk (Kd.R_below (by (with_reducible repeat (first | apply Kd.R_alloc | apply Kd.R_drewN | apply Kd.R_drew)); exact HO104.out) hb); have n1_ := Aside0.mk (Kd.R_lower ho0 (below_size (by repeat (first | (with_reducible first | exact HB.out | apply below_alloc | apply pw_below_drewN | apply below_drew1) | exact HB.out)))); have n2_ := Aside0.mk (below_step (by repeat (first | (with_reducible first | exact HB.out | apply below_alloc | apply pw_below_drewN | apply below_drew1) | exact HB.out)) hb); clear HO104; clear HB; have HO104 := n0_; have HO108 := n1_; have HB := n2_; clear n0_ n1_ n2_; (try clear hb); (try clear hb2); (try clear hk); (try clear hi); (try clear ho0)) | ((with_reducible refine gate_callee (f := 15) rfl ?_); refine goesL_ (some 26) rfl rfl Try.func15 (by kernel_rfl) rfl #[.slice A0 l0.length c0] rfl (by (try simp only [List.map_toArray, List.map_cons, List.map_nil]); first | done | rfl | (simp only [List.length_drop, List.length_take]; rfl)) ?_; (with_reducible refine (laws_toTaskS.calls k _ _ l0 t109 _ ?side1 ?side2 A6.out).mono ?_); (case side1 => repeat (first | exact (Kd.C_below HR0.out HB.out) | (with_reducible refine Kd.C_alloc ?_ _) | (with_reducible refine Kd.C_drewN ?_ _) | (with_reducible refine Kd.C_drew ?_))); (case side2 => exact HC0.out); rintro e w12 ⟨v110, rfl, ho0, hb⟩; refine ⟨_, rfl, ?_⟩; have n0_ := Aside0.mk (Kd.R_elder' (by (with_reducible repeat (first | apply Kd.R_alloc | apply Kd.R_drewN | apply Kd.R_drew)); exact HO104.out) (Kd.R_base ho0) hb); have n1_ := Aside0.mk (Kd.R_below (by (with_reducible repeat (first | apply Kd.R_alloc | apply Kd.R_drewN | apply Kd.R_drew)); exact HO108.out) hb); have n2_ := Aside0.mk (Kd.R_lower (Kd.R_new' ho0 (Kd.R_lt (by (with_reducible repeat (first | apply Kd.R_alloc | apply Kd.R_drewN | apply Kd.R_drew)); exact HO104.out))) (below_size (by repeat (first | (with_reducible first | exact HB.out | apply below_alloc | apply pw_below_drewN | apply below_drew1) | exact HB.out)))); have n3_ := Aside0.mk (below_step (by repeat (first | (with_reducible first | exact HB.out | apply below_alloc | apply pw_below_drewN | apply below_drew1) | exact HB.out)) hb); clear HO104; clear HO108; clear HB; have HO104 := n0_; have HO108 := n1_; have HO111 := n2_; have HB := n3_; clear n0_ n1_ n2_ n3_; (try clear hb); (try clear hb2); (try clear hk); (try clear hi); (try clear ho0); obtain ⟨Ao13, co13, eo13⟩ := Kd.R_slice HO111.out; subst eo13) | ((with_reducible refine gate_callee (f := 39) rfl ?_); refine goesL_ (some 29) rfl rfl Try.func39 (by kernel_rfl) rfl #[.slice Ao13 t109.length co13] rfl (by (try simp only [List.map_toArray, List.map_cons, List.map_nil]); first | done | rfl | (simp only [List.length_drop, List.length_take]; rfl)) ?_; (with_reducible refine (impl_AssignPriorities.calls k _ _ t109 t112 t113 _ ?side1 ?side2 A7.out).mono ?_); (case side1 => repeat (first | exact (Kd.R_reads' HO111.out).2.2 | (with_reducible refine Kd.C_alloc ?_ _) | (with_reducible refine Kd.C_drewN ?_ _) | (with_reducible refine Kd.C_drew ?_))); (case side2 => exact (Kd.R_reads' HO111.out).2.1); rintro e w14 ⟨v114, rfl, ho0, hb⟩; refine ⟨_, rfl, ?_⟩; have n0_ := Aside0.mk (Kd.R_below (by (with_reducible repeat (first | apply Kd.R_alloc | apply Kd.R_drewN | apply Kd.R_drew)); exact HO104.out) hb); have n1_ := Aside0.mk (Kd.R_elder' (by (with_reducible repeat (first | apply Kd.R_alloc | apply Kd.R_drewN | apply Kd.R_drew)); exact HO108.out) (Kd.R_base ho0) hb); have n2_ := Aside0.mk (Kd.R_below (by (with_reducible repeat (first | apply Kd.R_alloc | apply Kd.R_drewN | apply Kd.R_drew)); exact HO111.out) hb); have n3_ := Aside0.mk (Kd.R_lower (Kd.R_new' ho0 (Kd.R_lt (by (with_reducible repeat (first | apply Kd.R_alloc | apply Kd.R_drewN | apply Kd.R_drew)); exact HO108.out))) (below_size (by repeat (first | (with_reducible first | exact HB.out | apply below_alloc | apply pw_below_drewN | apply below_drew1) | exact HB.out)))); have n4_ := Aside0.mk (below_step (by repeat (first | (with_reducible first | exact HB.out | apply below_alloc | apply pw_below_drewN | apply below_drew1) | exact HB.out)) hb); clear HO104; clear HO108; clear HO111; clear HB; have HO104 := n0_; have HO108 := n1_; have HO111 := n2_; have HO115 := n3_; have HB := n4_; clear n0_ n1_ n2_ n3_ n4_; (try clear hb); (try clear hb2); (try clear hk); (try clear hi); (try clear ho0)))
    (try simp only [Act.put, List.setIfInBounds_toArray, List.set_cons_zero, List.set_cons_succ])
    go_cut [40] (fun v40 wc => ∃ (kq : Nat) (x40_7 : Bool), v40 = .bool x40_7 ∧ Aside0 (laws_FnExactAssignPriorities.j0 kq l0 t105 t106 t109 t112 t113 x40_7 = some r) ∧ Aside0 (kq ≤ k) ∧ Aside0 (Kd.R (Kd.int .i64) 3 wc w.heap.size (fun k_ => some k_ ≠ (v114 : Value).ownBlock) v107 t105) ∧ Aside0 (Kd.R k54 54 wc w.heap.size (fun _ => True) (.slice Ao13 t109.length co13) t109) ∧ Aside0 (Kd.R (Kd.int .i64) 3 wc w.heap.size (fun k_ => some k_ ≠ (v107 : Value).ownBlock) v114 t112) ∧ Aside0 (Below w.heap.size w wc))
    case first =>
      have H := HC8.out
      clear HC8
      replace H := Option.bind_eq_some_iff.mp H
      obtain ⟨t116, A150, H⟩ := H
      replace H : (if t116 = true then (laws_FnExactAssignPriorities.j0 k l0 t105 t106 t109 t112 t113 (t113 != t106)) else (laws_FnExactAssignPriorities.j0 k l0 t105 t106 t109 t112 t113 true)) = some r := H
      have A15 := Aside0.mk A150
      clear A150
      by_cases c16 : t116 = true
      · subst c16
        have H1 : (laws_FnExactAssignPriorities.j0 k l0 t105 t106 t109 t112 t113 (t113 != t106)) = some r := by rw [if_pos rfl] at H; exact H
        clear H
        have H := H1
        clear H1
        have H' := Aside0.mk H
        clear H
        obtain ⟨Ao17, co17, eo17⟩ := Kd.R_slice HO115.out
        subst eo17
        obtain ⟨Ao18, co18, eo18⟩ := Kd.R_slice HO108.out
        subst eo18
        go_wp2_with (first | ((with_reducible refine gate_callee (f := 19) rfl ?_); refine goesL_ (some 34) rfl rfl Try.func19 (by kernel_rfl) rfl #[.slice Ao17 t112.length co17, .slice Ao18 t105.length co18] rfl (by (try simp only [List.map_toArray, List.map_cons, List.map_nil]); first | done | rfl | (simp only [List.length_drop, List.length_take]; rfl)) ?_; (with_reducible refine (laws_eqIntS.calls k _ _ t112 _ _ t105 true _ ?side1 ?side2 ?side3 ?side4 A15.out).mono ?_); (case side1 => repeat (first | exact (Kd.R_reads' HO115.out).2.2 | (with_reducible refine Kd.C_alloc ?_ _) | (with_reducible refine Kd.C_drewN ?_ _) | (with_reducible refine Kd.C_drew ?_))); (case side2 => exact (Kd.R_reads' HO115.out).2.1); (case side3 => repeat (first | exact (Kd.R_reads' HO108.out).2.2 | (with_reducible refine Kd.C_alloc ?_ _) | (with_reducible refine Kd.C_drewN ?_ _) | (with_reducible refine Kd.C_drew ?_))); (case side4 => exact (Kd.R_reads' HO108.out).2.1); rintro e w' ⟨rfl, ⟨nd, rfl⟩⟩; refine ⟨_, rfl, ?_⟩))
        go_meet
        case rel => exact ⟨_, ((t113 != t106)), (by first | rfl | (simp; done) | (simp [*]; done) | (simp only [i64_w, i32_w]; done) | (simp [*, i64_w, i32_w]; done)), H', ⟨by first | omega | exact Nat.le_refl _⟩, ⟨by (with_reducible repeat (first | apply Kd.R_alloc | apply Kd.R_drewN | apply Kd.R_drew)); exact Kd.R_mono HO108.out (fun _ hk => hk.2)⟩, ⟨by (with_reducible repeat (first | apply Kd.R_alloc | apply Kd.R_drewN | apply Kd.R_drew)); exact Kd.R_mono HO111.out (fun _ hk => trivial)⟩, ⟨by (with_reducible repeat (first | apply Kd.R_alloc | apply Kd.R_drewN | apply Kd.R_drew)); exact Kd.R_mono HO115.out (fun _ hk => hk.2)⟩, ⟨by repeat (first | (with_reducible first | exact HB.out | apply below_alloc | apply pw_below_drewN | apply below_drew1) | exact HB.out)⟩⟩
      · replace c16 := Bool.eq_false_iff.mpr c16
        subst c16
        have H1 : (laws_FnExactAssignPriorities.j0 k l0 t105 t106 t109 t112 t113 true) = some r := by rw [if_neg (show ¬ (false = true) by decide)] at H; exact H
        clear H
        have H := H1
        clear H1
        have H' := Aside0.mk H
        clear H
        obtain ⟨Ao19, co19, eo19⟩ := Kd.R_slice HO115.out
        subst eo19
        obtain ⟨Ao20, co20, eo20⟩ := Kd.R_slice HO108.out
        subst eo20
        go_wp2_with (first | ((with_reducible refine gate_callee (f := 19) rfl ?_); refine goesL_ (some 34) rfl rfl Try.func19 (by kernel_rfl) rfl #[.slice Ao19 t112.length co19, .slice Ao20 t105.length co20] rfl (by (try simp only [List.map_toArray, List.map_cons, List.map_nil]); first | done | rfl | (simp only [List.length_drop, List.length_take]; rfl)) ?_; (with_reducible refine (laws_eqIntS.calls k _ _ t112 _ _ t105 false _ ?side1 ?side2 ?side3 ?side4 A15.out).mono ?_); (case side1 => repeat (first | exact (Kd.R_reads' HO115.out).2.2 | (with_reducible refine Kd.C_alloc ?_ _) | (with_reducible refine Kd.C_drewN ?_ _) | (with_reducible refine Kd.C_drew ?_))); (case side2 => exact (Kd.R_reads' HO115.out).2.1); (case side3 => repeat (first | exact (Kd.R_reads' HO108.out).2.2 | (with_reducible refine Kd.C_alloc ?_ _) | (with_reducible refine Kd.C_drewN ?_ _) | (with_reducible refine Kd.C_drew ?_))); (case side4 => exact (Kd.R_reads' HO108.out).2.1); rintro e w' ⟨rfl, ⟨nd, rfl⟩⟩; refine ⟨_, rfl, ?_⟩))
        go_meet
        case rel => exact ⟨_, (true), (by first | rfl | (simp; done) | (simp [*]; done) | (simp only [i64_w, i32_w]; done) | (simp [*, i64_w, i32_w]; done)), H', ⟨by first | omega | exact Nat.le_refl _⟩, ⟨by (with_reducible repeat (first | apply Kd.R_alloc | apply Kd.R_drewN | apply Kd.R_drew)); exact Kd.R_mono HO108.out (fun _ hk => hk.2)⟩, ⟨by (with_reducible repeat (first | apply Kd.R_alloc | apply Kd.R_drewN | apply Kd.R_drew)); exact Kd.R_mono HO111.out (fun _ hk => trivial)⟩, ⟨by (with_reducible repeat (first | apply Kd.R_alloc | apply Kd.R_drewN | apply Kd.R_drew)); exact Kd.R_mono HO115.out (fun _ hk => hk.2)⟩, ⟨by repeat (first | (with_reducible first | exact HB.out | apply below_alloc | apply pw_below_drewN | apply below_drew1) | exact HB.out)⟩⟩
    case rest =>
      clear HC8
      try clear c1
      try clear p2
      try clear c3
      try clear c3b0
      try clear c10
      try clear c13
      try clear c15
      try clear c16
      try clear c19
      obtain ⟨kq, x40_7, rfl, HA, HJ7, HO_4, HO_6, HO_7, HB⟩ := hcut
      cases kq with
      | zero => exact absurd HA.out (by simp [laws_FnExactAssignPriorities.j0])
      | succ kj7 =>
        have H := HA.out
        clear HA
        simp only [laws_FnExactAssignPriorities.j0] at H
        by_cases c21 : x40_7 = true
        · subst c21
          have H1 : (some false) = some r := by rw [if_pos rfl] at H; exact H
          clear H
          have H := H1
          clear H1
          obtain rfl := Option.some.inj H
          go_wp2
          go_ret
          exact ⟨by first | rfl | (simp [errW_none, errW_some] <;> rfl) | (simp [*, errW_none, errW_some] <;> rfl), by repeat (first | (with_reducible first | exact HB.out | apply below_alloc | apply pw_below_drewN | apply below_drew1) | exact HB.out)⟩
        · replace c21 := Bool.eq_false_iff.mpr c21
          subst c21
          have H1 : ((laws_toTaskS.f kj7 l0).bind fun t117 => ((laws_eqTaskS.f kj7 t109 t117).bind fun t120 => (if t120 = true then ((laws_markTaskS.f kj7 t109 1).bind fun bt121 => (if bt121.1 < 0 then (laws_FnExactAssignPriorities.j1 kj7 l0 t105 t106 t112 true) else ((laws_eqIntS.f kj7 t112 t105).bind fun t123 => (if t123 = true then (laws_FnExactAssignPriorities.j1 kj7 l0 t105 t106 t112 (t113 != t106)) else (laws_FnExactAssignPriorities.j1 kj7 l0 t105 t106 t112 true))))) else (some false)))) = some r := by rw [if_neg (show ¬ (false = true) by decide)] at H; exact H
          clear H
          have H := H1
          clear H1
          replace H := Option.bind_eq_some_iff.mp H
          obtain ⟨t117, A220, H⟩ := H
          replace H : ((laws_eqTaskS.f kj7 t109 t117).bind fun t120 => (if t120 = true then ((laws_markTaskS.f kj7 t109 1).bind fun bt121 => (if bt121.1 < 0 then (laws_FnExactAssignPriorities.j1 kj7 l0 t105 t106 t112 true) else ((laws_eqIntS.f kj7 t112 t105).bind fun t123 => (if t123 = true then (laws_FnExactAssignPriorities.j1 kj7 l0 t105 t106 t112 (t113 != t106)) else (laws_FnExactAssignPriorities.j1 kj7 l0 t105 t106 t112 true))))) else (some false))) = some r := H
          have A22 := Aside0.mk A220
          clear A220
          replace H := Option.bind_eq_some_iff.mp H
          obtain ⟨t120, A230, H⟩ := H
          replace H : (if t120 = true then ((laws_markTaskS.f kj7 t109 1).bind fun bt121 => (if bt121.1 < 0 then (laws_FnExactAssignPriorities.j1 kj7 l0 t105 t106 t112 true) else ((laws_eqIntS.f kj7 t112 t105).bind fun t123 => (if t123 = true then (laws_FnExactAssignPriorities.j1 kj7 l0 t105 t106 t112 (t113 != t106)) else (laws_FnExactAssignPriorities.j1 kj7 l0 t105 t106 t112 true))))) else (some false)) = some r := H
          have A23 := Aside0.mk A230
          clear A230
          by_cases c24 : t120 = true
          · subst c24
            have H1 : ((laws_markTaskS.f kj7 t109 1).bind fun bt121 => (if bt121.1 < 0 then (laws_FnExactAssignPriorities.j1 kj7 l0 t105 t106 t112 true) else ((laws_eqIntS.f kj7 t112 t105).bind fun t123 => (if t123 = true then (laws_FnExactAssignPriorities.j1 kj7 l0 t105 t106 t112 (t113 != t106)) else (laws_FnExactAssignPriorities.j1 kj7 l0 t105 t106 t112 true))))) = some r := by rw [if_pos rfl] at H; exact H
            clear H
            have H := H1
            clear H1
            replace H := Option.bind_eq_some_iff.mp H
            obtain ⟨⟨t121, t122⟩, A250, H⟩ := H
            replace H : (if t121 < 0 then (laws_FnExactAssignPriorities.j1 kj7 l0 t105 t106 t112 true) else ((laws_eqIntS.f kj7 t112 t105).bind fun t123 => (if t123 = true then (laws_FnExactAssignPriorities.j1 kj7 l0 t105 t106 t112 (t113 != t106)) else (laws_FnExactAssignPriorities.j1 kj7 l0 t105 t106 t112 true)))) = some r := H
            have A25 := Aside0.mk A250
            clear A250
            have HC26 := Aside0.mk H
            clear H
            go_upto_region 14 with (first | ((with_reducible refine gate_callee (f := 15) rfl ?_); refine goesL_ (some 43) rfl rfl Try.func15 (by kernel_rfl) rfl #[.slice A0 l0.length c0] rfl (by (try simp only [List.map_toArray, List.map_cons, List.map_nil]); first | done | rfl | (simp only [List.length_drop, List.length_take]; rfl)) ?_; (with_reducible refine (laws_toTaskS.calls kj7 _ _ l0 t117 _ ?side1 ?side2 A22.out).mono ?_); (case side1 => repeat (first | exact (Kd.C_below HR0.out HB.out) | (with_reducible refine Kd.C_alloc ?_ _) | (with_reducible refine Kd.C_drewN ?_ _) | (with_reducible refine Kd.C_drew ?_))); (case side2 => exact HC0.out); rintro e w27 ⟨v118, rfl, ho0, hb⟩; refine ⟨_, rfl, ?_⟩; have n0_ := Aside0.mk (Kd.R_below (by (with_reducible repeat (first | apply Kd.R_alloc | apply Kd.R_drewN | apply Kd.R_drew)); exact HO_4.out) hb); have n1_ := Aside0.mk (Kd.R_elder' (by (with_reducible repeat (first | apply Kd.R_alloc | apply Kd.R_drewN | apply Kd.R_drew)); exact HO_6.out) (Kd.R_base ho0) hb); have n2_ := Aside0.mk (Kd.R_below (by (with_reducible repeat (first | apply Kd.R_alloc | apply Kd.R_drewN | apply Kd.R_drew)); exact HO_7.out) hb); have n3_ := Aside0.mk (Kd.R_lower (Kd.R_new' ho0 (Kd.R_lt (by (with_reducible repeat (first | apply Kd.R_alloc | apply Kd.R_drewN | apply Kd.R_drew)); exact HO_6.out))) (below_size (by repeat (first | (with_reducible first | exact HB.out | apply below_alloc | apply pw_below_drewN | apply below_drew1) | exact HB.out)))); have n4_ := Aside0.mk (below_step (by repeat (first | (with_reducible first | exact HB.out | apply below_alloc | apply pw_below_drewN | apply below_drew1) | exact HB.out)) hb); clear HO_4; clear HO_6; clear HO_7; clear HB; have HO_4 := n0_; have HO_6 := n1_; have HO_7 := n2_; have HO119 := n3_; have HB := n4_; clear n0_ n1_ n2_ n3_ n4_; (try clear hb); (try clear hb2); (try clear hk); (try clear hi); (try clear ho0); obtain ⟨Ao28, co28, eo28⟩ := Kd.R_slice HO119.out; subst eo28) | ((with_reducible refine gate_callee (f := 18) rfl ?_); refine goesL_ (some 44) rfl rfl Try.func18 (by kernel_rfl) rfl #[.slice Ao13 t109.length co13, .slice Ao28 t117.length co28] rfl (by (try simp only [List.map_toArray, List.map_cons, List.map_nil]); first | done | rfl | (simp only [List.length_drop, List.length_take]; rfl)) ?_; (with_reducible refine (laws_eqTaskS.calls kj7 _ _ t109 _ _ t117 true _ ?side1 ?side2 ?side3 ?side4 A23.out).mono ?_); (case side1 => repeat (first | exact (Kd.R_reads' HO_6.out).2.2 | (with_reducible refine Kd.C_alloc ?_ _) | (with_reducible refine Kd.C_drewN ?_ _) | (with_reducible refine Kd.C_drew ?_))); (case side2 => exact (Kd.R_reads' HO_6.out).2.1); (case side3 => repeat (first | exact (Kd.R_reads' HO119.out).2.2 | (with_reducible refine Kd.C_alloc ?_ _) | (with_reducible refine Kd.C_drewN ?_ _) | (with_reducible refine Kd.C_drew ?_))); (case side4 => exact (Kd.R_reads' HO119.out).2.1); rintro e w29 ⟨rfl, hb⟩; refine ⟨_, rfl, ?_⟩; have n0_ := Aside0.mk (Kd.R_below (by (with_reducible repeat (first | apply Kd.R_alloc | apply Kd.R_drewN | apply Kd.R_drew)); exact HO_4.out) hb); have n1_ := Aside0.mk (Kd.R_below (by (with_reducible repeat (first | apply Kd.R_alloc | apply Kd.R_drewN | apply Kd.R_drew)); exact HO_6.out) hb); have n2_ := Aside0.mk (Kd.R_below (by (with_reducible repeat (first | apply Kd.R_alloc | apply Kd.R_drewN | apply Kd.R_drew)); exact HO_7.out) hb); have n3_ := Aside0.mk (Kd.R_below (by (with_reducible repeat (first | apply Kd.R_alloc | apply Kd.R_drewN | apply Kd.R_drew)); exact HO119.out) hb); have n4_ := Aside0.mk (below_step (by repeat (first | (with_reducible first | exact HB.out | apply below_alloc | apply pw_below_drewN | apply below_drew1) | exact HB.out)) hb); clear HO_4; clear HO_6; clear HO_7; clear HO119; clear HB; have HO_4 := n0_; have HO_6 := n1_; have HO_7 := n2_; have HO119 := n3_; have HB := n4_; clear n0_ n1_ n2_ n3_ n4_; (try clear hb); (try clear hb2); (try clear hk); (try clear hi)) | ((with_reducible refine gate_callee (f := 33) rfl ?_); refine goesL_ (some 48) rfl rfl Try.func33 (by kernel_rfl) rfl #[.slice Ao13 t109.length co13, .int .i64 1] rfl (by (try simp only [List.map_toArray, List.map_cons, List.map_nil]); first | done | rfl | (simp only [List.length_drop, List.length_take]; rfl)) ?_; (with_reducible refine (laws_markTaskS.calls kj7 (fun k_ => some k_ = (.slice Ao13 t109.length co13 : Value).ownBlock) (.slice Ao13 t109.length co13) t109 1 t121 t122 w _ ?side1 ?side2 A25.out).mono ?_); (case side1 => repeat (first | (with_reducible first | exact HB.out | apply below_alloc | apply pw_below_drewN | apply below_drew1) | exact HB.out)); (case side2 => exact Kd.R_tight rfl HO_6.out); rintro e w30 ⟨rfl, hy0, hb, hkp⟩; refine ⟨_, rfl, ?_⟩; have n0_ := Aside0.mk (Kd.R_mono (ok' := fun k_ => some k_ ≠ (v114 : Value).ownBlock) (Kd.R_keptB ((Kd.R_apart' HO_4.out (Kd.R_typed HO_6.out) (by decide))) hkp (fun k_ hk_ hs_ => (hk_.2) hs_)) (fun k_ hk_ => hk_.1.1)); have n1_ := Aside0.mk (Kd.R_reok rfl hy0 (fun k_ e_ => HO_6.out.1 k_ e_)); have n2_ := Aside0.mk (Kd.R_mono (ok' := fun k_ => some k_ ≠ (v107 : Value).ownBlock) (Kd.R_keptB ((Kd.R_apart' HO_7.out (Kd.R_typed HO_6.out) (by decide))) hkp (fun k_ hk_ hs_ => (hk_.2) hs_)) (fun k_ hk_ => hk_.1.1)); have n3_ := Aside0.mk (Kd.R_mono (ok' := fun k_ => some k_ ≠ (.slice Ao13 t109.length co13 : Value).ownBlock) (Kd.R_keptB (HO119.out) hkp (fun k_ hk_ hs_ => (hk_.2) hs_)) (fun k_ hk_ => hk_.1.2)); have n4_ := Aside0.mk (hb); clear HO_4; clear HO_6; clear HO_7; clear HO119; clear HB; have HO_4 := n0_; have HO_6 := n1_; have HO_7 := n2_; have HO119 := n3_; have HB := n4_; clear n0_ n1_ n2_ n3_ n4_; (try clear hb); (try clear hkp); (try clear hy0)))
            (try simp only [Act.put, List.setIfInBounds_toArray, List.set_cons_zero, List.set_cons_succ])
            go_cut [61] (fun v61 wc => ∃ (kq : Nat) (x61_25 : Bool), v61 = .bool x61_25 ∧ Aside0 (laws_FnExactAssignPriorities.j1 kq l0 t105 t106 t112 x61_25 = some r) ∧ Aside0 (kq ≤ kj7) ∧ Aside0 (Kd.R (Kd.int .i64) 3 wc w.heap.size (fun k_ => some k_ ≠ (v114 : Value).ownBlock) v107 t105) ∧ Aside0 (Kd.R (Kd.int .i64) 3 wc w.heap.size (fun k_ => some k_ ≠ (v107 : Value).ownBlock) v114 t112) ∧ Aside0 (Below w.heap.size w wc))
            case first =>
              have H := HC26.out
              clear HC26
              by_cases c31 : t121 < 0
              · rw [if_pos c31] at H
                have c31b0 : decide (t121 < 0) = true := decide_eq_true c31
                clear c31
                (first | rw [c31b0] | (simp only [i64_w, i32_w]; rw [c31b0]) | skip)
                have H' := Aside0.mk H
                clear H
                go_wp2
                go_meet
                case rel => exact ⟨_, (true), (by first | rfl | (simp; done) | (simp [*]; done) | (simp only [i64_w, i32_w]; done) | (simp [*, i64_w, i32_w]; done)), H', ⟨by have := HJ7.out; first | omega | exact Nat.le_refl _⟩, ⟨by (with_reducible repeat (first | apply Kd.R_alloc | apply Kd.R_drewN | apply Kd.R_drew)); exact HO_4.out⟩, ⟨by (with_reducible repeat (first | apply Kd.R_alloc | apply Kd.R_drewN | apply Kd.R_drew)); exact HO_7.out⟩, ⟨by repeat (first | (with_reducible first | exact HB.out | apply below_alloc | apply pw_below_drewN | apply below_drew1) | exact HB.out)⟩⟩
              · rw [if_neg c31] at H
                have c31b0 : decide (t121 < 0) = false := decide_eq_false c31
                clear c31
                (first | rw [c31b0] | (simp only [i64_w, i32_w]; rw [c31b0]) | skip)
                replace H := Option.bind_eq_some_iff.mp H
                obtain ⟨t123, A320, H⟩ := H
                replace H : (if t123 = true then (laws_FnExactAssignPriorities.j1 kj7 l0 t105 t106 t112 (t113 != t106)) else (laws_FnExactAssignPriorities.j1 kj7 l0 t105 t106 t112 true)) = some r := H
                have A32 := Aside0.mk A320
                clear A320
                by_cases c33 : t123 = true
                · subst c33
                  have H1 : (laws_FnExactAssignPriorities.j1 kj7 l0 t105 t106 t112 (t113 != t106)) = some r := by rw [if_pos rfl] at H; exact H
                  clear H
                  have H := H1
                  clear H1
                  have H' := Aside0.mk H
                  clear H
                  obtain ⟨Ao34, co34, eo34⟩ := Kd.R_slice HO_7.out
                  subst eo34
                  obtain ⟨Ao35, co35, eo35⟩ := Kd.R_slice HO_4.out
                  subst eo35
                  go_wp2_with (first | (go_at_call 19; (with_reducible refine (laws_eqIntS.calls kj7 _ _ t112 _ _ t105 true _ ?side1 ?side2 ?side3 ?side4 A32.out).mono ?_); (case side1 => repeat (first | exact (Kd.R_reads' HO_7.out).2.2 | (with_reducible refine Kd.C_alloc ?_ _) | (with_reducible refine Kd.C_drewN ?_ _) | (with_reducible refine Kd.C_drew ?_))); (case side2 => exact (Kd.R_reads' HO_7.out).2.1); (case side3 => repeat (first | exact (Kd.R_reads' HO_4.out).2.2 | (with_reducible refine Kd.C_alloc ?_ _) | (with_reducible refine Kd.C_drewN ?_ _) | (with_reducible refine Kd.C_drew ?_))); (case side4 => exact (Kd.R_reads' HO_4.out).2.1); rintro e w' ⟨rfl, ⟨nd, rfl⟩⟩))
                  go_meet
                  case rel => exact ⟨_, ((t113 != t106)), (by first | rfl | (simp; done) | (simp [*]; done) | (simp only [i64_w, i32_w]; done) | (simp [*, i64_w, i32_w]; done)), H', ⟨by have := HJ7.out; first | omega | exact Nat.le_refl _⟩, ⟨by (with_reducible repeat (first | apply Kd.R_alloc | apply Kd.R_drewN | apply Kd.R_drew)); exact HO_4.out⟩, ⟨by (with_reducible repeat (first | apply Kd.R_alloc | apply Kd.R_drewN | apply Kd.R_drew)); exact HO_7.out⟩, ⟨by repeat (first | (with_reducible first | exact HB.out | apply below_alloc | apply pw_below_drewN | apply below_drew1) | exact HB.out)⟩⟩
                · replace c33 := Bool.eq_false_iff.mpr c33
                  subst c33
                  have H1 : (laws_FnExactAssignPriorities.j1 kj7 l0 t105 t106 t112 true) = some r := by rw [if_neg (show ¬ (false = true) by decide)] at H; exact H
                  clear H
                  have H := H1
                  clear H1
                  have H' := Aside0.mk H
                  clear H
                  obtain ⟨Ao36, co36, eo36⟩ := Kd.R_slice HO_7.out
                  subst eo36
                  obtain ⟨Ao37, co37, eo37⟩ := Kd.R_slice HO_4.out
                  subst eo37
                  go_wp2_with (first | (go_at_call 19; (with_reducible refine (laws_eqIntS.calls kj7 _ _ t112 _ _ t105 false _ ?side1 ?side2 ?side3 ?side4 A32.out).mono ?_); (case side1 => repeat (first | exact (Kd.R_reads' HO_7.out).2.2 | (with_reducible refine Kd.C_alloc ?_ _) | (with_reducible refine Kd.C_drewN ?_ _) | (with_reducible refine Kd.C_drew ?_))); (case side2 => exact (Kd.R_reads' HO_7.out).2.1); (case side3 => repeat (first | exact (Kd.R_reads' HO_4.out).2.2 | (with_reducible refine Kd.C_alloc ?_ _) | (with_reducible refine Kd.C_drewN ?_ _) | (with_reducible refine Kd.C_drew ?_))); (case side4 => exact (Kd.R_reads' HO_4.out).2.1); rintro e w' ⟨rfl, ⟨nd, rfl⟩⟩))
                  go_meet
                  case rel => exact ⟨_, (true), (by first | rfl | (simp; done) | (simp [*]; done) | (simp only [i64_w, i32_w]; done) | (simp [*, i64_w, i32_w]; done)), H', ⟨by have := HJ7.out; first | omega | exact Nat.le_refl _⟩, ⟨by (with_reducible repeat (first | apply Kd.R_alloc | apply Kd.R_drewN | apply Kd.R_drew)); exact HO_4.out⟩, ⟨by (with_reducible repeat (first | apply Kd.R_alloc | apply Kd.R_drewN | apply Kd.R_drew)); exact HO_7.out⟩, ⟨by repeat (first | (with_reducible first | exact HB.out | apply below_alloc | apply pw_below_drewN | apply below_drew1) | exact HB.out)⟩⟩
            case rest =>
              clear HC26
              try clear c1
              try clear c2
              try clear p2
              try clear c3
              try clear c3b0
              try clear c10
              try clear c13
              try clear c15
              try clear c16
              try clear c18
              try clear c19
              try clear c21
              try clear c24
              try clear c31
              try clear c31b0
              try clear c33
              try clear p2
              obtain ⟨kq, x61_25, rfl, HA, HJ25, HO_4, HO_7, HB⟩ := hcut
              cases kq with
              | zero => exact absurd HA.out (by simp [laws_FnExactAssignPriorities.j1])
              | succ kj25 =>
                have H := HA.out
                clear HA
                simp only [laws_FnExactAssignPriorities.j1] at H
                by_cases c38 : x61_25 = true
                · subst c38
                  have H1 : (some false) = some r := by rw [if_pos rfl] at H; exact H
                  clear H
                  have H := H1
                  clear H1
                  obtain rfl := Option.some.inj H
                  go_wp2
                  go_ret
                  exact ⟨by first | rfl | (simp [errW_none, errW_some] <;> rfl) | (simp [*, errW_none, errW_some] <;> rfl), by repeat (first | (with_reducible first | exact HB.out | apply below_alloc | apply pw_below_drewN | apply below_drew1) | exact HB.out)⟩
                · replace c38 := Bool.eq_false_iff.mpr c38
                  subst c38
                  have H1 : ((laws_markIntS.f kj25 t112 1).bind fun bt124 => ((laws_heldIntS.f kj25 bt124.2 1).bind fun t126 => (if t126 < 0 then (some false) else (if t126 = bt124.1 then ((laws_toTaskS.f kj25 l0).bind fun t127 => ((impl_AssignPriorities.f kj25 t127).bind fun bt130 => ((laws_eqIntS.f kj25 bt130.1 t105).bind fun t134 => (if t134 = true then (laws_FnExactAssignPriorities.j2 kj25 bt124.2 bt124.1 (bt130.2 != t106)) else (laws_FnExactAssignPriorities.j2 kj25 bt124.2 bt124.1 true))))) else (some false))))) = some r := by rw [if_neg (show ¬ (false = true) by decide)] at H; exact H
                  clear H
                  have H := H1
                  clear H1
                  replace H := Option.bind_eq_some_iff.mp H
                  obtain ⟨⟨t124, t125⟩, A390, H⟩ := H
                  replace H : ((laws_heldIntS.f kj25 t125 1).bind fun t126 => (if t126 < 0 then (some false) else (if t126 = t124 then ((laws_toTaskS.f kj25 l0).bind fun t127 => ((impl_AssignPriorities.f kj25 t127).bind fun bt130 => ((laws_eqIntS.f kj25 bt130.1 t105).bind fun t134 => (if t134 = true then (laws_FnExactAssignPriorities.j2 kj25 t125 t124 (bt130.2 != t106)) else (laws_FnExactAssignPriorities.j2 kj25 t125 t124 true))))) else (some false)))) = some r := H
                  have A39 := Aside0.mk A390
                  clear A390
                  replace H := Option.bind_eq_some_iff.mp H
                  obtain ⟨t126, A400, H⟩ := H
                  replace H : (if t126 < 0 then (some false) else (if t126 = t124 then ((laws_toTaskS.f kj25 l0).bind fun t127 => ((impl_AssignPriorities.f kj25 t127).bind fun bt130 => ((laws_eqIntS.f kj25 bt130.1 t105).bind fun t134 => (if t134 = true then (laws_FnExactAssignPriorities.j2 kj25 t125 t124 (bt130.2 != t106)) else (laws_FnExactAssignPriorities.j2 kj25 t125 t124 true))))) else (some false))) = some r := H
                  have A40 := Aside0.mk A400
                  clear A400
                  by_cases c41 : t126 < 0
                  · rw [if_pos c41] at H
                    have c41b0 : decide (t126 < 0) = true := decide_eq_true c41
                    clear c41
                    obtain rfl := Option.some.inj H
                    obtain ⟨Ao42, co42, eo42⟩ := Kd.R_slice HO_7.out
                    subst eo42
                    go_wp2_with (first | ((with_reducible refine gate_callee (f := 34) rfl ?_); refine goesL_ (some 64) rfl rfl Try.func34 (by kernel_rfl) rfl #[.slice Ao42 t112.length co42, .int .i64 1] rfl (by (try simp only [List.map_toArray, List.map_cons, List.map_nil]); first | done | rfl | (simp only [List.length_drop, List.length_take]; rfl)) ?_; (with_reducible refine (laws_markIntS.calls kj25 (fun k_ => some k_ = (.slice Ao42 t112.length co42 : Value).ownBlock) (.slice Ao42 t112.length co42) t112 1 t124 t125 w _ ?side1 ?side2 A39.out).mono ?_); (case side1 => repeat (first | (with_reducible first | exact HB.out | apply below_alloc | apply pw_below_drewN | apply below_drew1) | exact HB.out)); (case side2 => exact Kd.R_tight rfl HO_7.out); rintro e w43 ⟨rfl, hy0, hb, hkp⟩; refine ⟨_, rfl, ?_⟩; have n0_ := Aside0.mk (Kd.R_mono (ok' := fun k_ => some k_ ≠ (.slice Ao42 t112.length co42 : Value).ownBlock) (Kd.R_keptB (HO_4.out) hkp (fun k_ hk_ hs_ => (hk_) hs_)) (fun k_ hk_ => hk_.1)); have n1_ := Aside0.mk (Kd.R_reok rfl hy0 (fun k_ e_ => HO_7.out.1 k_ e_)); have n2_ := Aside0.mk (hb); clear HO_4; clear HO_7; clear HB; have HO_4 := n0_; have HO_7 := n1_; have HB := n2_; clear n0_ n1_ n2_; (try clear hb); (try clear hkp); (try clear hy0)) | ((with_reducible refine gate_callee (f := 35) rfl ?_); refine goesL_ (some 67) rfl rfl Try.func35 (by kernel_rfl) rfl #[.slice Ao42 t125.length co42, .int .i64 1] rfl (by (try simp only [List.map_toArray, List.map_cons, List.map_nil]); first | done | (rw [show t125.length = t112.length from (Kd.R_reads' HO_7.out).1.symm] <;> rfl) | rfl | (simp only [List.length_drop, List.length_take]; rfl)) ?_; (with_reducible refine (laws_heldIntS.calls kj25 _ _ t125 1 t126 _ ?side1 ?side2 A40.out).mono ?_); (case side1 => repeat (first | exact (Kd.R_reads' HO_7.out).2.2 | (with_reducible refine Kd.C_alloc ?_ _) | (with_reducible refine Kd.C_drewN ?_ _) | (with_reducible refine Kd.C_drew ?_))); (case side2 => rw [show t125.length = t112.length from (Kd.R_reads' HO_7.out).1.symm]; exact (Kd.R_reads' HO_7.out).2.1); rintro e w' ⟨rfl, ⟨nd, rfl⟩⟩; refine ⟨_, rfl, ?_⟩))
                    go_ret
                    exact ⟨by first | rfl | (simp [errW_none, errW_some] <;> rfl) | (simp [*, errW_none, errW_some] <;> rfl), by repeat (first | (with_reducible first | exact HB.out | apply below_alloc | apply pw_below_drewN | apply below_drew1) | exact HB.out)⟩
                  · rw [if_neg c41] at H
                    have c41b0 : decide (t126 < 0) = false := decide_eq_false c41
                    clear c41
                    by_cases c44 : t126 = t124
                    · rw [if_pos c44] at H
                      have c44b0 : (t126 == t124) = true := beq_iff_eq.mpr c44
                      have c44b1 : (t126 != t124) = false := bne_eq_false_iff_eq.mpr c44
                      clear c44
                      replace H := Option.bind_eq_some_iff.mp H
                      obtain ⟨t127, A450, H⟩ := H
                      replace H : ((impl_AssignPriorities.f kj25 t127).bind fun bt130 => ((laws_eqIntS.f kj25 bt130.1 t105).bind fun t134 => (if t134 = true then (laws_FnExactAssignPriorities.j2 kj25 t125 t124 (bt130.2 != t106)) else (laws_FnExactAssignPriorities.j2 kj25 t125 t124 true)))) = some r := H
                      have A45 := Aside0.mk A450
                      clear A450
                      replace H := Option.bind_eq_some_iff.mp H
                      obtain ⟨⟨t130, t131⟩, A460, H⟩ := H
                      replace H : ((laws_eqIntS.f kj25 t130 t105).bind fun t134 => (if t134 = true then (laws_FnExactAssignPriorities.j2 kj25 t125 t124 (t131 != t106)) else (laws_FnExactAssignPriorities.j2 kj25 t125 t124 true))) = some r := H
                      have A46 := Aside0.mk A460
                      clear A460
                      have HC47 := Aside0.mk H
                      clear H
                      obtain ⟨Ao48, co48, eo48⟩ := Kd.R_slice HO_7.out
                      subst eo48
                      go_upto_region 25 with (first | ((with_reducible refine gate_callee (f := 34) rfl ?_); refine goesL_ (some 64) rfl rfl Try.func34 (by kernel_rfl) rfl #[.slice Ao48 t112.length co48, .int .i64 1] rfl (by (try simp only [List.map_toArray, List.map_cons, List.map_nil]); first | done | rfl | (simp only [List.length_drop, List.length_take]; rfl)) ?_; (with_reducible refine (laws_markIntS.calls kj25 (fun k_ => some k_ = (.slice Ao48 t112.length co48 : Value).ownBlock) (.slice Ao48 t112.length co48) t112 1 t124 t125 w _ ?side1 ?side2 A39.out).mono ?_); (case side1 => repeat (first | (with_reducible first | exact HB.out | apply below_alloc | apply pw_below_drewN | apply below_drew1) | exact HB.out)); (case side2 => exact Kd.R_tight rfl HO_7.out); rintro e w49 ⟨rfl, hy0, hb, hkp⟩; refine ⟨_, rfl, ?_⟩; have n0_ := Aside0.mk (Kd.R_mono (ok' := fun k_ => some k_ ≠ (.slice Ao48 t112.length co48 : Value).ownBlock) (Kd.R_keptB (HO_4.out) hkp (fun k_ hk_ hs_ => (hk_) hs_)) (fun k_ hk_ => hk_.1)); have n1_ := Aside0.mk (Kd.R_reok rfl hy0 (fun k_ e_ => HO_7.out.1 k_ e_)); have n2_ := Aside0.mk (hb); clear HO_4; clear HO_7; clear HB; have HO_4 := n0_; have HO_7 := n1_; have HB := n2_; clear n0_ n1_ n2_; (try clear hb); (try clear hkp); (try clear hy0)) | ((with_reducible refine gate_callee (f := 35) rfl ?_); refine goesL_ (some 67) rfl rfl Try.func35 (by kernel_rfl) rfl #[.slice Ao48 t125.length co48, .int .i64 1] rfl (by (try simp only [List.map_toArray, List.map_cons, List.map_nil]); first | done | (rw [show t125.length = t112.length from (Kd.R_reads' HO_7.out).1.symm] <;> rfl) | rfl | (simp only [List.length_drop, List.length_take]; rfl)) ?_; (with_reducible refine (laws_heldIntS.calls kj25 _ _ t125 1 t126 _ ?side1 ?side2 A40.out).mono ?_); (case side1 => repeat (first | exact (Kd.R_reads' HO_7.out).2.2 | (with_reducible refine Kd.C_alloc ?_ _) | (with_reducible refine Kd.C_drewN ?_ _) | (with_reducible refine Kd.C_drew ?_))); (case side2 => rw [show t125.length = t112.length from (Kd.R_reads' HO_7.out).1.symm]; exact (Kd.R_reads' HO_7.out).2.1); rintro e w' ⟨rfl, ⟨nd, rfl⟩⟩; refine ⟨_, rfl, ?_⟩) | ((with_reducible refine gate_callee (f := 15) rfl ?_); refine goesL_ (some 75) rfl rfl Try.func15 (by kernel_rfl) rfl #[.slice A0 l0.length c0] rfl (by (try simp only [List.map_toArray, List.map_cons, List.map_nil]); first | done | rfl | (simp only [List.length_drop, List.length_take]; rfl)) ?_; (with_reducible refine (laws_toTaskS.calls kj25 _ _ l0 t127 _ ?side1 ?side2 A45.out).mono ?_); (case side1 => repeat (first | exact (Kd.C_below HR0.out (by repeat (first | (with_reducible first | exact HB.out | apply below_alloc | apply pw_below_drewN | apply below_drew1) | exact HB.out))) | (with_reducible refine Kd.C_alloc ?_ _) | (with_reducible refine Kd.C_drewN ?_ _) | (with_reducible refine Kd.C_drew ?_))); (case side2 => exact HC0.out); rintro e w50 ⟨v128, rfl, ho0, hb⟩; refine ⟨_, rfl, ?_⟩; have n0_ := Aside0.mk (Kd.R_below (by (with_reducible repeat (first | apply Kd.R_alloc | apply Kd.R_drewN | apply Kd.R_drew)); exact HO_4.out) hb); have n1_ := Aside0.mk (Kd.R_below (by (with_reducible repeat (first | apply Kd.R_alloc | apply Kd.R_drewN | apply Kd.R_drew)); exact HO_7.out) hb); have n2_ := Aside0.mk (Kd.R_lower ho0 (below_size (by repeat (first | (with_reducible first | exact HB.out | apply below_alloc | apply pw_below_drewN | apply below_drew1) | exact HB.out)))); have n3_ := Aside0.mk (below_step (by repeat (first | (with_reducible first | exact HB.out | apply below_alloc | apply pw_below_drewN | apply below_drew1) | exact HB.out)) hb); clear HO_4; clear HO_7; clear HB; have HO_4 := n0_; have HO_7 := n1_; have HO129 := n2_; have HB := n3_; clear n0_ n1_ n2_ n3_; (try clear hb); (try clear hb2); (try clear hk); (try clear hi); (try clear ho0); obtain ⟨Ao51, co51, eo51⟩ := Kd.R_slice HO129.out; subst eo51) | ((with_reducible refine gate_callee (f := 39) rfl ?_); refine goesL_ (some 76) rfl rfl Try.func39 (by kernel_rfl) rfl #[.slice Ao51 t127.length co51] rfl (by (try simp only [List.map_toArray, List.map_cons, List.map_nil]); first | done | rfl | (simp only [List.length_drop, List.length_take]; rfl)) ?_; (with_reducible refine (impl_AssignPriorities.calls kj25 _ _ t127 t130 t131 _ ?side1 ?side2 A46.out).mono ?_); (case side1 => repeat (first | exact (Kd.R_reads' HO129.out).2.2 | (with_reducible refine Kd.C_alloc ?_ _) | (with_reducible refine Kd.C_drewN ?_ _) | (with_reducible refine Kd.C_drew ?_))); (case side2 => exact (Kd.R_reads' HO129.out).2.1); rintro e w52 ⟨v132, rfl, ho0, hb⟩; refine ⟨_, rfl, ?_⟩; have n0_ := Aside0.mk (Kd.R_elder' (by (with_reducible repeat (first | apply Kd.R_alloc | apply Kd.R_drewN | apply Kd.R_drew)); exact HO_4.out) (Kd.R_base ho0) hb); have n1_ := Aside0.mk (Kd.R_elder' (by (with_reducible repeat (first | apply Kd.R_alloc | apply Kd.R_drewN | apply Kd.R_drew)); exact HO_7.out) (Kd.R_base ho0) hb); have n2_ := Aside0.mk (Kd.R_below (by (with_reducible repeat (first | apply Kd.R_alloc | apply Kd.R_drewN | apply Kd.R_drew)); exact HO129.out) hb); have n3_ := Aside0.mk (Kd.R_lower (Kd.R_new' (Kd.R_new' ho0 (Kd.R_lt (by (with_reducible repeat (first | apply Kd.R_alloc | apply Kd.R_drewN | apply Kd.R_drew)); exact HO_4.out))) (Kd.R_lt (by (with_reducible repeat (first | apply Kd.R_alloc | apply Kd.R_drewN | apply Kd.R_drew)); exact HO_7.out))) (below_size (by repeat (first | (with_reducible first | exact HB.out | apply below_alloc | apply pw_below_drewN | apply below_drew1) | exact HB.out)))); have n4_ := Aside0.mk (below_step (by repeat (first | (with_reducible first | exact HB.out | apply below_alloc | apply pw_below_drewN | apply below_drew1) | exact HB.out)) hb); clear HO_4; clear HO_7; clear HO129; clear HB; have HO_4 := n0_; have HO_7 := n1_; have HO129 := n2_; have HO133 := n3_; have HB := n4_; clear n0_ n1_ n2_ n3_ n4_; (try clear hb); (try clear hb2); (try clear hk); (try clear hi); (try clear ho0)))
                      (try simp only [Act.put, List.setIfInBounds_toArray, List.set_cons_zero, List.set_cons_succ])
                      go_cut [87] (fun v87 wc => ∃ (kq : Nat) (x87_46 : Bool), v87 = .bool x87_46 ∧ Aside0 (laws_FnExactAssignPriorities.j2 kq t125 t124 x87_46 = some r) ∧ Aside0 (kq ≤ kj25) ∧ Aside0 (Kd.R (Kd.int .i64) 3 wc w.heap.size (fun _ => True) (.slice Ao48 t112.length co48) t125) ∧ Aside0 (Below w.heap.size w wc))
                      case first =>
                        have H := HC47.out
                        clear HC47
                        replace H := Option.bind_eq_some_iff.mp H
                        obtain ⟨t134, A530, H⟩ := H
                        replace H : (if t134 = true then (laws_FnExactAssignPriorities.j2 kj25 t125 t124 (t131 != t106)) else (laws_FnExactAssignPriorities.j2 kj25 t125 t124 true)) = some r := H
                        have A53 := Aside0.mk A530
                        clear A530
                        by_cases c54 : t134 = true
                        · subst c54
                          have H1 : (laws_FnExactAssignPriorities.j2 kj25 t125 t124 (t131 != t106)) = some r := by rw [if_pos rfl] at H; exact H
                          clear H
                          have H := H1
                          clear H1
                          have H' := Aside0.mk H
                          clear H
                          obtain ⟨Ao55, co55, eo55⟩ := Kd.R_slice HO133.out
                          subst eo55
                          obtain ⟨Ao56, co56, eo56⟩ := Kd.R_slice HO_4.out
                          subst eo56
                          go_wp2_with (first | ((with_reducible refine gate_callee (f := 19) rfl ?_); refine goesL_ (some 81) rfl rfl Try.func19 (by kernel_rfl) rfl #[.slice Ao55 t130.length co55, .slice Ao56 t105.length co56] rfl (by (try simp only [List.map_toArray, List.map_cons, List.map_nil]); first | done | rfl | (simp only [List.length_drop, List.length_take]; rfl)) ?_; (with_reducible refine (laws_eqIntS.calls kj25 _ _ t130 _ _ t105 true _ ?side1 ?side2 ?side3 ?side4 A53.out).mono ?_); (case side1 => repeat (first | exact (Kd.R_reads' HO133.out).2.2 | (with_reducible refine Kd.C_alloc ?_ _) | (with_reducible refine Kd.C_drewN ?_ _) | (with_reducible refine Kd.C_drew ?_))); (case side2 => exact (Kd.R_reads' HO133.out).2.1); (case side3 => repeat (first | exact (Kd.R_reads' HO_4.out).2.2 | (with_reducible refine Kd.C_alloc ?_ _) | (with_reducible refine Kd.C_drewN ?_ _) | (with_reducible refine Kd.C_drew ?_))); (case side4 => exact (Kd.R_reads' HO_4.out).2.1); rintro e w' ⟨rfl, ⟨nd, rfl⟩⟩; refine ⟨_, rfl, ?_⟩))
                          go_meet
                          case rel => exact ⟨_, ((t131 != t106)), (by first | rfl | (simp; done) | (simp [*]; done) | (simp only [i64_w, i32_w]; done) | (simp [*, i64_w, i32_w]; done)), H', ⟨by have := HJ7.out; have := HJ25.out; first | omega | exact Nat.le_refl _⟩, ⟨by (with_reducible repeat (first | apply Kd.R_alloc | apply Kd.R_drewN | apply Kd.R_drew)); exact Kd.R_mono HO_7.out (fun _ hk => trivial)⟩, ⟨by repeat (first | (with_reducible first | exact HB.out | apply below_alloc | apply pw_below_drewN | apply below_drew1) | exact HB.out)⟩⟩
                        · replace c54 := Bool.eq_false_iff.mpr c54
                          subst c54
                          have H1 : (laws_FnExactAssignPriorities.j2 kj25 t125 t124 true) = some r := by rw [if_neg (show ¬ (false = true) by decide)] at H; exact H
                          clear H
                          have H := H1
                          clear H1
                          have H' := Aside0.mk H
                          clear H
                          obtain ⟨Ao57, co57, eo57⟩ := Kd.R_slice HO133.out
                          subst eo57
                          obtain ⟨Ao58, co58, eo58⟩ := Kd.R_slice HO_4.out
                          subst eo58
                          go_wp2_with (first | ((with_reducible refine gate_callee (f := 19) rfl ?_); refine goesL_ (some 81) rfl rfl Try.func19 (by kernel_rfl) rfl #[.slice Ao57 t130.length co57, .slice Ao58 t105.length co58] rfl (by (try simp only [List.map_toArray, List.map_cons, List.map_nil]); first | done | rfl | (simp only [List.length_drop, List.length_take]; rfl)) ?_; (with_reducible refine (laws_eqIntS.calls kj25 _ _ t130 _ _ t105 false _ ?side1 ?side2 ?side3 ?side4 A53.out).mono ?_); (case side1 => repeat (first | exact (Kd.R_reads' HO133.out).2.2 | (with_reducible refine Kd.C_alloc ?_ _) | (with_reducible refine Kd.C_drewN ?_ _) | (with_reducible refine Kd.C_drew ?_))); (case side2 => exact (Kd.R_reads' HO133.out).2.1); (case side3 => repeat (first | exact (Kd.R_reads' HO_4.out).2.2 | (with_reducible refine Kd.C_alloc ?_ _) | (with_reducible refine Kd.C_drewN ?_ _) | (with_reducible refine Kd.C_drew ?_))); (case side4 => exact (Kd.R_reads' HO_4.out).2.1); rintro e w' ⟨rfl, ⟨nd, rfl⟩⟩; refine ⟨_, rfl, ?_⟩))
                          go_meet
                          case rel => exact ⟨_, (true), (by first | rfl | (simp; done) | (simp [*]; done) | (simp only [i64_w, i32_w]; done) | (simp [*, i64_w, i32_w]; done)), H', ⟨by have := HJ7.out; have := HJ25.out; first | omega | exact Nat.le_refl _⟩, ⟨by (with_reducible repeat (first | apply Kd.R_alloc | apply Kd.R_drewN | apply Kd.R_drew)); exact Kd.R_mono HO_7.out (fun _ hk => trivial)⟩, ⟨by repeat (first | (with_reducible first | exact HB.out | apply below_alloc | apply pw_below_drewN | apply below_drew1) | exact HB.out)⟩⟩
                      case rest =>
                        clear HC47
                        try clear c1
                        try clear c2
                        try clear p2
                        try clear c3
                        try clear c3b0
                        try clear c4
                        try clear c5
                        try clear c10
                        try clear c13
                        try clear c15
                        try clear c16
                        try clear c18
                        try clear c19
                        try clear c21
                        try clear c24
                        try clear c31
                        try clear c31b0
                        try clear c33
                        try clear c34
                        try clear c35
                        try clear c38
                        try clear c39
                        try clear c41
                        try clear c41b0
                        try clear c44
                        try clear c44b0
                        try clear c44b1
                        try clear c54
                        try clear p2
                        obtain ⟨kq, x87_46, rfl, HA, HJ46, HO_7, HB⟩ := hcut
                        have hl7_46 := (Kd.R_reads' HO_7.out).1
                        rw [hl7_46] at HO_7
                        (try simp only [hl7_46])
                        cases kq with
                        | zero => exact absurd HA.out (by simp [laws_FnExactAssignPriorities.j2])
                        | succ kj46 =>
                          have H := HA.out
                          clear HA
                          simp only [laws_FnExactAssignPriorities.j2] at H
                          by_cases c59 : x87_46 = true
                          · subst c59
                            have H1 : (some false) = some r := by rw [if_pos rfl] at H; exact H
                            clear H
                            have H := H1
                            clear H1
                            obtain rfl := Option.some.inj H
                            go_wp2
                            go_ret
                            exact ⟨by first | rfl | (simp [errW_none, errW_some] <;> rfl) | (simp [*, errW_none, errW_some] <;> rfl), by repeat (first | (with_reducible first | exact HB.out | apply below_alloc | apply pw_below_drewN | apply below_drew1) | exact HB.out)⟩
                          · replace c59 := Bool.eq_false_iff.mpr c59
                            subst c59
                            have H1 : ((laws_heldIntS.f kj46 t125 1).bind fun t135 => (if t135 < 0 then (some false) else (if t135 = t124 then (some true) else (some false)))) = some r := by rw [if_neg (show ¬ (false = true) by decide)] at H; exact H
                            clear H
                            have H := H1
                            clear H1
                            replace H := Option.bind_eq_some_iff.mp H
                            obtain ⟨t135, A600, H⟩ := H
                            replace H : (if t135 < 0 then (some false) else (if t135 = t124 then (some true) else (some false))) = some r := H
                            have A60 := Aside0.mk A600
                            clear A600
                            by_cases c61 : t135 < 0
                            · rw [if_pos c61] at H
                              have c61b0 : decide (t135 < 0) = true := decide_eq_true c61
                              (try (have c61r0 := c61b0; simp only [hl7_46] at c61r0))
                              clear c61
                              obtain rfl := Option.some.inj H
                              go_wp2_with (first | ((with_reducible refine gate_callee (f := 35) rfl ?_); refine goesL_ (some 90) rfl rfl Try.func35 (by kernel_rfl) rfl #[.slice Ao48 t125.length co48, .int .i64 1] rfl (by (try simp only [List.map_toArray, List.map_cons, List.map_nil]); first | done | rfl | (simp only [List.length_drop, List.length_take]; rfl)) ?_; (with_reducible refine (laws_heldIntS.calls kj46 _ _ t125 1 t135 _ ?side1 ?side2 A60.out).mono ?_); (case side1 => repeat (first | exact (Kd.R_reads' HO_7.out).2.2 | (with_reducible refine Kd.C_alloc ?_ _) | (with_reducible refine Kd.C_drewN ?_ _) | (with_reducible refine Kd.C_drew ?_))); (case side2 => exact (Kd.R_reads' HO_7.out).2.1); rintro e w' ⟨rfl, ⟨nd, rfl⟩⟩; refine ⟨_, rfl, ?_⟩))
                              go_ret
                              exact ⟨by first | rfl | (simp [errW_none, errW_some] <;> rfl) | (simp [*, errW_none, errW_some] <;> rfl), by repeat (first | (with_reducible first | exact HB.out | apply below_alloc | apply pw_below_drewN | apply below_drew1) | exact HB.out)⟩
                            · rw [if_neg c61] at H
                              have c61b0 : decide (t135 < 0) = false := decide_eq_false c61
                              (try (have c61r0 := c61b0; simp only [hl7_46] at c61r0))
                              clear c61
                              by_cases c62 : t135 = t124
                              · rw [if_pos c62] at H
                                have c62b0 : (t135 == t124) = true := beq_iff_eq.mpr c62
                                (try (have c62r0 := c62b0; simp only [hl7_46] at c62r0))
                                have c62b1 : (t135 != t124) = false := bne_eq_false_iff_eq.mpr c62
                                (try (have c62r1 := c62b1; simp only [hl7_46] at c62r1))
                                clear c62
                                obtain rfl := Option.some.inj H
                                go_wp2_with (first | ((with_reducible refine gate_callee (f := 35) rfl ?_); refine goesL_ (some 90) rfl rfl Try.func35 (by kernel_rfl) rfl #[.slice Ao48 t125.length co48, .int .i64 1] rfl (by (try simp only [List.map_toArray, List.map_cons, List.map_nil]); first | done | rfl | (simp only [List.length_drop, List.length_take]; rfl)) ?_; (with_reducible refine (laws_heldIntS.calls kj46 _ _ t125 1 t135 _ ?side1 ?side2 A60.out).mono ?_); (case side1 => repeat (first | exact (Kd.R_reads' HO_7.out).2.2 | (with_reducible refine Kd.C_alloc ?_ _) | (with_reducible refine Kd.C_drewN ?_ _) | (with_reducible refine Kd.C_drew ?_))); (case side2 => exact (Kd.R_reads' HO_7.out).2.1); rintro e w' ⟨rfl, ⟨nd, rfl⟩⟩; refine ⟨_, rfl, ?_⟩))
                                go_ret
                                exact ⟨by first | rfl | (simp [errW_none, errW_some] <;> rfl) | (simp [*, errW_none, errW_some] <;> rfl), by repeat (first | (with_reducible first | exact HB.out | apply below_alloc | apply pw_below_drewN | apply below_drew1) | exact HB.out)⟩
                              · rw [if_neg c62] at H
                                have c62b0 : (t135 == t124) = false := beq_eq_false_iff_ne.mpr c62
                                (try (have c62r0 := c62b0; simp only [hl7_46] at c62r0))
                                have c62b1 : (t135 != t124) = true := bne_iff_ne.mpr c62
                                (try (have c62r1 := c62b1; simp only [hl7_46] at c62r1))
                                obtain rfl := Option.some.inj H
                                go_wp2_with (first | ((with_reducible refine gate_callee (f := 35) rfl ?_); refine goesL_ (some 90) rfl rfl Try.func35 (by kernel_rfl) rfl #[.slice Ao48 t125.length co48, .int .i64 1] rfl (by (try simp only [List.map_toArray, List.map_cons, List.map_nil]); first | done | rfl | (simp only [List.length_drop, List.length_take]; rfl)) ?_; (with_reducible refine (laws_heldIntS.calls kj46 _ _ t125 1 t135 _ ?side1 ?side2 A60.out).mono ?_); (case side1 => repeat (first | exact (Kd.R_reads' HO_7.out).2.2 | (with_reducible refine Kd.C_alloc ?_ _) | (with_reducible refine Kd.C_drewN ?_ _) | (with_reducible refine Kd.C_drew ?_))); (case side2 => exact (Kd.R_reads' HO_7.out).2.1); rintro e w' ⟨rfl, ⟨nd, rfl⟩⟩; refine ⟨_, rfl, ?_⟩))
                                go_ret
                                exact ⟨by first | rfl | (simp [errW_none, errW_some] <;> rfl) | (simp [*, errW_none, errW_some] <;> rfl), by repeat (first | (with_reducible first | exact HB.out | apply below_alloc | apply pw_below_drewN | apply below_drew1) | exact HB.out)⟩
                    · rw [if_neg c44] at H
                      have c44b0 : (t126 == t124) = false := beq_eq_false_iff_ne.mpr c44
                      have c44b1 : (t126 != t124) = true := bne_iff_ne.mpr c44
                      obtain rfl := Option.some.inj H
                      obtain ⟨Ao63, co63, eo63⟩ := Kd.R_slice HO_7.out
                      subst eo63
                      go_wp2_with (first | ((with_reducible refine gate_callee (f := 34) rfl ?_); refine goesL_ (some 64) rfl rfl Try.func34 (by kernel_rfl) rfl #[.slice Ao63 t112.length co63, .int .i64 1] rfl (by (try simp only [List.map_toArray, List.map_cons, List.map_nil]); first | done | rfl | (simp only [List.length_drop, List.length_take]; rfl)) ?_; (with_reducible refine (laws_markIntS.calls kj25 (fun k_ => some k_ = (.slice Ao63 t112.length co63 : Value).ownBlock) (.slice Ao63 t112.length co63) t112 1 t124 t125 w _ ?side1 ?side2 A39.out).mono ?_); (case side1 => repeat (first | (with_reducible first | exact HB.out | apply below_alloc | apply pw_below_drewN | apply below_drew1) | exact HB.out)); (case side2 => exact Kd.R_tight rfl HO_7.out); rintro e w64 ⟨rfl, hy0, hb, hkp⟩; refine ⟨_, rfl, ?_⟩; have n0_ := Aside0.mk (Kd.R_mono (ok' := fun k_ => some k_ ≠ (.slice Ao63 t112.length co63 : Value).ownBlock) (Kd.R_keptB (HO_4.out) hkp (fun k_ hk_ hs_ => (hk_) hs_)) (fun k_ hk_ => hk_.1)); have n1_ := Aside0.mk (Kd.R_reok rfl hy0 (fun k_ e_ => HO_7.out.1 k_ e_)); have n2_ := Aside0.mk (hb); clear HO_4; clear HO_7; clear HB; have HO_4 := n0_; have HO_7 := n1_; have HB := n2_; clear n0_ n1_ n2_; (try clear hb); (try clear hkp); (try clear hy0)) | ((with_reducible refine gate_callee (f := 35) rfl ?_); refine goesL_ (some 67) rfl rfl Try.func35 (by kernel_rfl) rfl #[.slice Ao63 t125.length co63, .int .i64 1] rfl (by (try simp only [List.map_toArray, List.map_cons, List.map_nil]); first | done | (rw [show t125.length = t112.length from (Kd.R_reads' HO_7.out).1.symm] <;> rfl) | rfl | (simp only [List.length_drop, List.length_take]; rfl)) ?_; (with_reducible refine (laws_heldIntS.calls kj25 _ _ t125 1 t126 _ ?side1 ?side2 A40.out).mono ?_); (case side1 => repeat (first | exact (Kd.R_reads' HO_7.out).2.2 | (with_reducible refine Kd.C_alloc ?_ _) | (with_reducible refine Kd.C_drewN ?_ _) | (with_reducible refine Kd.C_drew ?_))); (case side2 => rw [show t125.length = t112.length from (Kd.R_reads' HO_7.out).1.symm]; exact (Kd.R_reads' HO_7.out).2.1); rintro e w' ⟨rfl, ⟨nd, rfl⟩⟩; refine ⟨_, rfl, ?_⟩))
                      go_ret
                      exact ⟨by first | rfl | (simp [errW_none, errW_some] <;> rfl) | (simp [*, errW_none, errW_some] <;> rfl), by repeat (first | (with_reducible first | exact HB.out | apply below_alloc | apply pw_below_drewN | apply below_drew1) | exact HB.out)⟩
          · replace c24 := Bool.eq_false_iff.mpr c24
            subst c24
            have H1 : (some false) = some r := by rw [if_neg (show ¬ (false = true) by decide)] at H; exact H
            clear H
            have H := H1
            clear H1
            obtain rfl := Option.some.inj H
            go_wp2_with (first | ((with_reducible refine gate_callee (f := 15) rfl ?_); refine goesL_ (some 43) rfl rfl Try.func15 (by kernel_rfl) rfl #[.slice A0 l0.length c0] rfl (by (try simp only [List.map_toArray, List.map_cons, List.map_nil]); first | done | rfl | (simp only [List.length_drop, List.length_take]; rfl)) ?_; (with_reducible refine (laws_toTaskS.calls kj7 _ _ l0 t117 _ ?side1 ?side2 A22.out).mono ?_); (case side1 => repeat (first | exact (Kd.C_below HR0.out HB.out) | (with_reducible refine Kd.C_alloc ?_ _) | (with_reducible refine Kd.C_drewN ?_ _) | (with_reducible refine Kd.C_drew ?_))); (case side2 => exact HC0.out); rintro e w65 ⟨v118, rfl, ho0, hb⟩; refine ⟨_, rfl, ?_⟩; have n0_ := Aside0.mk (Kd.R_below (by (with_reducible repeat (first | apply Kd.R_alloc | apply Kd.R_drewN | apply Kd.R_drew)); exact HO_4.out) hb); have n1_ := Aside0.mk (Kd.R_elder' (by (with_reducible repeat (first | apply Kd.R_alloc | apply Kd.R_drewN | apply Kd.R_drew)); exact HO_6.out) (Kd.R_base ho0) hb); have n2_ := Aside0.mk (Kd.R_below (by (with_reducible repeat (first | apply Kd.R_alloc | apply Kd.R_drewN | apply Kd.R_drew)); exact HO_7.out) hb); have n3_ := Aside0.mk (Kd.R_lower (Kd.R_new' ho0 (Kd.R_lt (by (with_reducible repeat (first | apply Kd.R_alloc | apply Kd.R_drewN | apply Kd.R_drew)); exact HO_6.out))) (below_size (by repeat (first | (with_reducible first | exact HB.out | apply below_alloc | apply pw_below_drewN | apply below_drew1) | exact HB.out)))); have n4_ := Aside0.mk (below_step (by repeat (first | (with_reducible first | exact HB.out | apply below_alloc | apply pw_below_drewN | apply below_drew1) | exact HB.out)) hb); clear HO_4; clear HO_6; clear HO_7; clear HB; have HO_4 := n0_; have HO_6 := n1_; have HO_7 := n2_; have HO119 := n3_; have HB := n4_; clear n0_ n1_ n2_ n3_ n4_; (try clear hb); (try clear hb2); (try clear hk); (try clear hi); (try clear ho0); obtain ⟨Ao66, co66, eo66⟩ := Kd.R_slice HO119.out; subst eo66) | ((with_reducible refine gate_callee (f := 18) rfl ?_); refine goesL_ (some 44) rfl rfl Try.func18 (by kernel_rfl) rfl #[.slice Ao13 t109.length co13, .slice Ao66 t117.length co66] rfl (by (try simp only [List.map_toArray, List.map_cons, List.map_nil]); first | done | rfl | (simp only [List.length_drop, List.length_take]; rfl)) ?_; (with_reducible refine (laws_eqTaskS.calls kj7 _ _ t109 _ _ t117 false _ ?side1 ?side2 ?side3 ?side4 A23.out).mono ?_); (case side1 => repeat (first | exact (Kd.R_reads' HO_6.out).2.2 | (with_reducible refine Kd.C_alloc ?_ _) | (with_reducible refine Kd.C_drewN ?_ _) | (with_reducible refine Kd.C_drew ?_))); (case side2 => exact (Kd.R_reads' HO_6.out).2.1); (case side3 => repeat (first | exact (Kd.R_reads' HO119.out).2.2 | (with_reducible refine Kd.C_alloc ?_ _) | (with_reducible refine Kd.C_drewN ?_ _) | (with_reducible refine Kd.C_drew ?_))); (case side4 => exact (Kd.R_reads' HO119.out).2.1); rintro e w67 ⟨rfl, hb⟩; refine ⟨_, rfl, ?_⟩; have n0_ := Aside0.mk (Kd.R_below (by (with_reducible repeat (first | apply Kd.R_alloc | apply Kd.R_drewN | apply Kd.R_drew)); exact HO_4.out) hb); have n1_ := Aside0.mk (Kd.R_below (by (with_reducible repeat (first | apply Kd.R_alloc | apply Kd.R_drewN | apply Kd.R_drew)); exact HO_6.out) hb); have n2_ := Aside0.mk (Kd.R_below (by (with_reducible repeat (first | apply Kd.R_alloc | apply Kd.R_drewN | apply Kd.R_drew)); exact HO_7.out) hb); have n3_ := Aside0.mk (Kd.R_below (by (with_reducible repeat (first | apply Kd.R_alloc | apply Kd.R_drewN | apply Kd.R_drew)); exact HO119.out) hb); have n4_ := Aside0.mk (below_step (by repeat (first | (with_reducible first | exact HB.out | apply below_alloc | apply pw_below_drewN | apply below_drew1) | exact HB.out)) hb); clear HO_4; clear HO_6; clear HO_7; clear HO119; clear HB; have HO_4 := n0_; have HO_6 := n1_; have HO_7 := n2_; have HO119 := n3_; have HB := n4_; clear n0_ n1_ n2_ n3_ n4_; (try clear hb); (try clear hb2); (try clear hk); (try clear hi)))
            go_ret
            exact ⟨by first | rfl | (simp [errW_none, errW_some] <;> rfl) | (simp [*, errW_none, errW_some] <;> rfl), by repeat (first | (with_reducible first | exact HB.out | apply below_alloc | apply pw_below_drewN | apply below_drew1) | exact HB.out)⟩

end Go.Proofs.Ytappbijjpcaocaa.Print
