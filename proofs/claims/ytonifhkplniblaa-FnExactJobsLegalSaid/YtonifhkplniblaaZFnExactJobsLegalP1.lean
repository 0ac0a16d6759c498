/- Functions of the translation as plain Lean functions, and their contracts. No condition. -/
import Derived.Test.YtonifhkplniblaaPB
import Derived.Test.YtonifhkplniblaaZFnExactJobsLegalP0
namespace Go.Proofs.Ytonifhkplniblaa.Print
open Go.RowKit Go.Proofs.YtonifhkplniblaaW.PrintWords Go.Proofs.YtonifhkplniblaaW.PrintLast Go.Proofs.YtonifhkplniblaaW.PrintMore
attribute [local go_sem] max2_int min2_int max_two min_two max_three min_three max_four min_four   -- for this text's walks alone
set_option linter.unusedVariables false
set_option linter.unusedSimpArgs false

/-! ### laws_toTaskS: function 18 -/
def laws_toTaskS.l0 : Nat → List (S105) → List (S62) → Int → Option ((List (S62)))
  | 0, _, _, _ => none
  | k + 1, x0, x3, x4 => if x4 < (x0.length : Int) then (if 0 ≤ x4 then ((laws_toTask.f ((rd_T105 x0 x4).f0) ((rd_T105 x0 x4).f1) ((rd_T105 x0 x4).f2)).bind fun bt105 => (if x4 < (x3.length : Int) then (laws_toTaskS.l0 k x0 (x3.set (x4 : Int).toNat (⟨bt105.1, bt105.2.1, bt105.2.2⟩ : S62)) (wrap64 (x4 + 1))) else (none))) else (none)) else (some x3)
def laws_toTaskS.f (k : Nat) (l0 : List (S105)) : Option ((List (S62))) := if 0 ≤ (l0.length : Int) then (if ((l0.length : Int) : Int).toNat ≤ 11728124029610 then (laws_toTaskS.l0 k l0 (List.replicate ((l0.length : Int) : Int).toNat z62) 0) else (none)) else (none)
theorem laws_toTaskS.mono_l : ∀ k, (∀ y0 y1 y2, LeO (laws_toTaskS.l0 k y0 y1 y2) (laws_toTaskS.l0 (k + 1) y0 y1 y2))
  | 0 => fun _ _ _ r h => by simp [laws_toTaskS.l0] at h
  | k + 1 => by
    have ih0 := laws_toTaskS.mono_l k
    · intro y0 y1 y2
      unfold laws_toTaskS.l0
      repeat' first
      | (with_reducible exact ih0 _ _ _)
      | (with_reducible exact LeO.refl _)
      | (with_reducible exact LeO.none _)
      | (with_reducible refine LeO.ite ?_ ?_)
      | (with_reducible refine LeO.bind ?_ (fun _ => ?_))
      | exact ih0 _ _ _
      | exact LeO.none _
      | refine LeO.ite ?_ ?_
      | refine LeO.bind ?_ (fun _ => ?_)
theorem laws_toTaskS.mono : ∀ a0 k, LeO (laws_toTaskS.f k a0) (laws_toTaskS.f (k + 1) a0) := by
  intro a0 k
  have ih0 := laws_toTaskS.mono_l k
  unfold laws_toTaskS.f
  repeat' first
      | (with_reducible exact ih0 _ _ _)
      | (with_reducible exact LeO.refl _)
      | (with_reducible exact LeO.none _)
      | (with_reducible refine LeO.ite ?_ ?_)
      | (with_reducible refine LeO.bind ?_ (fun _ => ?_))
      | exact ih0 _ _ _
      | exact LeO.none _
      | refine LeO.ite ?_ ?_
      | refine LeO.bind ?_ (fun _ => ?_)
set_option maxHeartbeats 8000000 in
set_option maxRecDepth 100000 in
theorem laws_toTaskS.calls (k : Nat) (A0 : Option Addr) (c0 : Nat) (l0 : List (S105)) (r : List (S62)) (w : World) (hr0 : Kd.C k105 w A0 l0.length l0) (hc0 : l0.length ≤ c0) (h : laws_toTaskS.f k l0 = some r) :
    Calls Try.prog 18 #[.slice A0 l0.length c0] w fun e w' => ∃ v0_ : Value, e = .returned (v0_) ∧ Kd.R k62 62 w' w.heap.size (fun _ => True) v0_ r ∧ Below w.heap.size w w' := by
  have hu105 := Try.underlying105
  have hu62 := Try.underlying62
  have HR0 := Aside0.mk hr0
  have HC0 := Aside0.mk hc0
  clear hr0 hc0
  have HB := Aside0.mk (Below.refl w.heap.size w)
  have H : (if 0 ≤ (l0.length : Int) then (if ((l0.length : Int) : Int).toNat ≤ 11728124029610 then (laws_toTaskS.l0 k l0 (List.replicate ((l0.length : Int) : Int).toNat z62) 0) else (none)) else (none)) = some r := h
  clear h
  by_cases c2 : 0 ≤ (l0.length : Int)
  · rw [if_pos c2] at H
    have c2b0 := eq_true c2
    have c2b1 : decide (0 ≤ (l0.length : Int)) = true := decide_eq_true c2
    clear c2
    by_cases c3 : ((l0.length : Int) : Int).toNat ≤ 11728124029610
    · rw [if_pos c3] at H
      have c3b0 := eq_true c3
      have c3b1 : decide (((l0.length : Int) : Int).toNat ≤ 11728124029610) = true := decide_eq_true c3
      clear c3
      obtain ⟨y101, hy101⟩ : ∃ y_ : List (S62), y_ = (List.replicate ((l0.length : Int) : Int).toNat z62) := ⟨_, rfl⟩
      replace H : (laws_toTaskS.l0 k l0 y101 0) = some r := by first | (rw [hy101]; with_reducible exact H) | (have H2_ := (Option.bind_some _ _).symm.trans H; rw [hy101]; with_reducible exact H2_) | (have H2_ := (Option.bind_some _ _).symm.trans H; with_reducible exact H2_) | with_reducible exact H | (rw [hy101]; exact H) | exact H
      have Ny101 := Aside0.mk hy101
      clear hy101
      have H' := Aside0.mk H
      clear H
      go_enter Try.func18, Try.ntmps18
      go_wp2_with (first | ((with_reducible refine gate_dst (N := 7) rfl ?_); refine Kd.R_make k62 _ 62 rfl (N := 7) rfl 37 _ _ rfl (l0.length : Int) rfl rfl Try.underlying37 (.agg #[(.int .i64 0), (.int .i64 0), (.int .i64 0)]) 24 info62 rfl (by decide) (by omega) z62 (ok := fun _ => True) (okp := fun _ => True) (k62_mkM _ _ _ z62 ) (fun _ hk => hk) trivial (of_decide_eq_true (by first | (with_reducible assumption) | assumption)) (Nat.le_trans (Nat.mul_le_mul_right _ (of_decide_eq_true (by first | (with_reducible assumption) | assumption) : (l0.length : Int).toNat ≤ 11728124029610)) (by omega)) (Below.refl _ _) (Nat.le_refl _) ?_; intro v102 w4 ho5 hb hg_ hnew_; clear hg_ hnew_; (first | rw [← Ny101.out] at ho5 | (simp only [Int.reduceToNat] at ho5; rw [← Ny101.out] at ho5)); have n0_ := Aside0.mk (Kd.R_lower ho5 (below_size (by repeat (first | (with_reducible first | exact HB.out | apply below_alloc | apply pw_below_drewN | apply below_drew1) | exact HB.out)))); have n1_ := Aside0.mk (below_step (by repeat (first | (with_reducible first | exact HB.out | apply below_alloc | apply pw_below_drewN | apply below_drew1) | exact HB.out)) hb); clear HB; have HO103 := n0_; have HB := n1_; clear n0_ n1_; clear hb ho5))
      go_loopg [4] k (fun kq v4 w' => ∃ (x3_1 : List (S62)) (x4_1 : Int), v4 = .int .i64 x4_1 ∧ Aside0 (laws_toTaskS.l0 kq l0 x3_1 x4_1 = some r) ∧ Aside0 (kq ≤ k) ∧ Aside0 (Kd.R k62 62 w' w.heap.size (fun _ => True) v102 x3_1) ∧ Aside0 (Below w.heap.size w w'))
      case atStart => exact ⟨(y101), (0), (by first | rfl | (simp; done) | (simp [*]; done) | (simp only [i64_w, i32_w]; done) | (simp [*, i64_w, i32_w]; done)), H', ⟨Nat.le_refl _⟩, ⟨by (with_reducible repeat (first | apply Kd.R_alloc | apply Kd.R_drewN | apply Kd.R_drew)); exact HO103.out⟩, ⟨by repeat (first | (with_reducible first | exact HB.out | apply below_alloc | apply pw_below_drewN | apply below_drew1) | exact HB.out)⟩⟩
      case round =>
        clear H'
        try clear c1
        try clear c2
        try clear c2b0
        try clear c2b1
        try clear p2
        try clear c3
        try clear c3b0
        try clear c3b1
        obtain ⟨x3_1, x4_1, rfl, HA, HK1, HO_3, HB⟩ := hrel
        cases gk with
        | zero => exact absurd HA.out (by simp [laws_toTaskS.l0])
        | succ k1 =>
          have H := HA.out
          clear HA
          simp only [laws_toTaskS.l0] at H
          by_cases c6 : x4_1 < (l0.length : Int)
          · rw [if_pos c6] at H
            have c6b0 : decide (x4_1 < (l0.length : Int)) = true := decide_eq_true c6
            clear c6
            by_cases c7 : 0 ≤ x4_1
            · rw [if_pos c7] at H
              have c7b0 : decide (0 ≤ x4_1) = true := decide_eq_true c7
              clear c7
              replace H := Option.bind_eq_some_iff.mp H
              obtain ⟨⟨t105, t106, t107⟩, A80, H⟩ := H
              replace H : (if x4_1 < (x3_1.length : Int) then (laws_toTaskS.l0 k1 l0 (x3_1.set (x4_1 : Int).toNat (⟨t105, t106, t107⟩ : S62)) (wrap64 (x4_1 + 1))) else (none)) = some r := H
              have A8 := Aside0.mk A80
              clear A80
              by_cases c9 : x4_1 < (x3_1.length : Int)
              · rw [if_pos c9] at H
                have c9b0 : decide (x4_1 < (x3_1.length : Int)) = true := decide_eq_true c9
                clear c9
                obtain ⟨y108, hy108⟩ : ∃ y_ : List (S62), y_ = (x3_1.set (x4_1 : Int).toNat (⟨t105, t106, t107⟩ : S62)) := ⟨_, rfl⟩
                replace H : (laws_toTaskS.l0 k1 l0 y108 (wrap64 (x4_1 + 1))) = some r := by first | (rw [hy108]; with_reducible exact H) | (have H2_ := (Option.bind_some _ _).symm.trans H; rw [hy108]; with_reducible exact H2_) | (have H2_ := (Option.bind_some _ _).symm.trans H; with_reducible exact H2_) | with_reducible exact H | (rw [hy108]; exact H) | exact H
                have Ny108 := Aside0.mk hy108
                clear hy108
                have H' := Aside0.mk H
                clear H
                have p104 : 0 ≤ (x4_1 : Int) := of_decide_eq_true (by first | (with_reducible assumption) | assumption)
                have q104 : x4_1 < (l0.length : Int) := of_decide_eq_true (by first | (with_reducible assumption) | assumption)
                obtain ⟨ad104, e104, hx104_0, hx104_1, hx104_2⟩ := at_T105 HR0.out x4_1 p104 q104
                cases e104
                replace hx104_0 := (HB.out.cell (World.block_lt_of_cell? w _ hx104_0)).trans hx104_0
                replace hx104_1 := (HB.out.cell (World.block_lt_of_cell? w _ hx104_1)).trans hx104_1
                replace hx104_2 := (HB.out.cell (World.block_lt_of_cell? w _ hx104_2)).trans hx104_2
                replace p104 := eq_true p104
                replace q104 := eq_true q104
                go_wp2_with (first | ((with_reducible refine gate_callee (f := 71) rfl ?_); refine goesL_ (some 20) rfl rfl Try.func71 (by kernel_rfl) rfl #[.agg #[.int .i64 ((rd_T105 l0 x4_1).f0), .int .i64 ((rd_T105 l0 x4_1).f1), .int .i64 ((rd_T105 l0 x4_1).f2)]] rfl (by (try simp only [List.map_toArray, List.map_cons, List.map_nil]); first | done | rfl | (simp only [List.length_drop, List.length_take]; rfl)) ?_; (with_reducible refine (laws_toTask.calls ((rd_T105 l0 x4_1).f0) ((rd_T105 l0 x4_1).f1) ((rd_T105 l0 x4_1).f2) t105 t106 t107 _ A8.out).mono ?_); rintro e w11 ⟨rfl, hb⟩; refine ⟨_, rfl, ?_⟩; have n0_ := Aside0.mk (Kd.R_below (by (with_reducible repeat (first | apply Kd.R_alloc | apply Kd.R_drewN | apply Kd.R_drew)); exact HO_3.out) hb); have n1_ := Aside0.mk (below_step (by repeat (first | (with_reducible first | exact HB.out | apply below_alloc | apply pw_below_drewN | apply below_drew1) | exact HB.out)) hb); clear HO_3; clear HB; have HO_3 := n0_; have HB := n1_; clear n0_ n1_; (try clear hb); (try clear hb2); (try clear hk); (try clear hi); have p10 : 0 ≤ (x4_1 : Int) := of_decide_eq_true (by first | (with_reducible assumption) | assumption); have q10 : (x4_1 : Int) < ((x3_1.length : Int) : Int) := of_decide_eq_true (by first | (with_reducible assumption) | assumption); obtain ⟨go10, co10, eo10, gb10, gl10, cl10, HG10⟩ := Kd.R_form HO_3.out (by omega); (first | cases eo10 | (injection eo10 with ea_ en_ ec_; (first | subst ea_ | (injection ea_ with ea_; subst ea_)); subst ec_; clear en_)); have GB10 := Aside0.mk gb10; have GG10 := Aside0.mk HG10; clear gb10 gl10 HG10; obtain ⟨ce10, hcl10, hM10, hcc10, hfr10⟩ := Kd.R_elem HO_3.out z62 (x4_1 : Int) p10 q10; obtain rfl := k62_openM hM10; have hx10_0 : w11.cell? ⟨go10, (x4_1 : Int).toNat * 3, none⟩ = some (.int .i64 ((rd_T62 x3_1 x4_1).f0)) := hcc10 0 _ rfl; have hx10_1 : w11.cell? ⟨go10, (x4_1 : Int).toNat * 3 + 1, none⟩ = some (.int .i64 ((rd_T62 x3_1 x4_1).f1)) := hcc10 1 _ rfl; have hx10_2 : w11.cell? ⟨go10, (x4_1 : Int).toNat * 3 + 2, none⟩ = some (.int .i64 ((rd_T62 x3_1 x4_1).f2)) := hcc10 2 _ rfl; have hf10_0 : w11.frozen? ⟨go10, (x4_1 : Int).toNat * 3, none⟩ = false := hfr10 0; have hf10_1 : w11.frozen? ⟨go10, (x4_1 : Int).toNat * 3 + 1, none⟩ = false := hfr10 1; have hf10_2 : w11.frozen? ⟨go10, (x4_1 : Int).toNat * 3 + 2, none⟩ = false := hfr10 2; clear hcl10 hcc10 hfr10 hM10; replace p10 := eq_true p10; replace q10 := eq_true q10; have HX12 := Aside0.mk (show Kd.R k62 62 w11 w.heap.size (fun _ => True) (.slice (some ⟨go10, 0, none⟩) x3_1.length co10) x3_1 from (by (with_reducible repeat (first | apply Kd.R_alloc | apply Kd.R_drewN | apply Kd.R_drew)); exact HO_3.out)); obtain ⟨ce12, hcl12, hM12, hcc12, hfr12⟩ := Kd.R_elem HX12.out z62 (x4_1 : Int) (of_decide_eq_true (by first | (with_reducible assumption) | assumption)) (by have h_ : (x4_1 : Int) < ((x3_1.length : Int) : Int) := of_decide_eq_true (by first | (with_reducible assumption) | assumption); first | exact h_ | (have e_ := (Kd.R_reads' HO_3.out).1; omega) | simpa using h_); obtain rfl := k62_openM hM12; have HP12 := Kd.R_seg HX12.out (x4_1 : Int) (of_decide_eq_true (by first | (with_reducible assumption) | assumption)) (by have h_ : (x4_1 : Int) < ((x3_1.length : Int) : Int) := of_decide_eq_true (by first | (with_reducible assumption) | assumption); first | exact h_ | (have e_ := (Kd.R_reads' HO_3.out).1; omega) | simpa using h_) (seg := [.int .i64 t105, .int .i64 t106, .int .i64 t107]) (j := 0) hcl12 hcc12 (show 3 ≤ 3 from by decide) (x' := (⟨t105, t106, t107⟩ : S62)) (k62_mkM _ _ _ (⟨t105, t106, t107⟩ : S62) ) (fun _ hk => hk); have hx12_0 := hcc12 0 _ rfl; (try simp only [show (k62).sz = 3 from rfl, Nat.mul_one, Nat.add_zero] at hx12_0); have hf12_0 := hfr12 0; (try simp only [show (k62).sz = 3 from rfl, Nat.mul_one, Nat.add_zero] at hf12_0); have hx12_1 := hcc12 1 _ rfl; (try simp only [show (k62).sz = 3 from rfl, Nat.mul_one, Nat.add_zero] at hx12_1); have hf12_1 := hfr12 1; (try simp only [show (k62).sz = 3 from rfl, Nat.mul_one, Nat.add_zero] at hf12_1); have hx12_2 := hcc12 2 _ rfl; (try simp only [show (k62).sz = 3 from rfl, Nat.mul_one, Nat.add_zero] at hx12_2); have hf12_2 := hfr12 2; (try simp only [show (k62).sz = 3 from rfl, Nat.mul_one, Nat.add_zero] at hf12_2); clear hcl12 hcc12 hfr12 hM12) | ((with_reducible refine gate_store (t := 62) (p := 21) rfl ?_); refine store_event (t := 62) (p := 21) (v := ?vo_w13) (w1 := (((w11.setCell ⟨go10, (x4_1 : Int).toNat * 3, none⟩ (.int .i64 t105)).setCell ⟨go10, (x4_1 : Int).toNat * 3 + 1, none⟩ (.int .i64 t106)).setCell ⟨go10, (x4_1 : Int).toNat * 3 + 2, none⟩ (.int .i64 t107))) ?hg ?ho ?hn ?hr ?_; (case ho => rfl); (case hg => rfl); (case hn => rfl); (case hr => first | (go_simp; done) | (go_simp; rfl)); intro w13 hw; have hg : w11.grownBy w13 (some go10) := (by rw [hw]; exact HP12.2); have hp_ : Kd.R k62 62 w13 w.heap.size (fun _ => True) (.slice (some ⟨go10, 0, none⟩) x3_1.length co10) y108 := (by rw [hw, Ny108.out]; exact HP12.1); clear HP12; have n0_ := Aside0.mk (hp_); have n1_ := Aside0.mk ((by rw [hw]; exact below_set (below_set (below_set (HB.out) GB10.out) GB10.out) GB10.out : Below w.heap.size w w13)); clear HO_3; clear HB; have HO_3 := n0_; have HB := n1_; clear n0_ n1_; clear hg hw hp_))
                go_roundg k1
                case measure => have := HK1.out; omega
                case rel => exact ⟨(y108), (wrap64 (x4_1 + 1)), (by first | rfl | (simp; done) | (simp [*]; done) | (simp only [i64_w, i32_w]; done) | (simp [*, i64_w, i32_w]; done)), H', ⟨by have := HK1.out; omega⟩, ⟨by (with_reducible repeat (first | apply Kd.R_alloc | apply Kd.R_drewN | apply Kd.R_drew)); exact HO_3.out⟩, ⟨by repeat (first | (with_reducible first | exact HB.out | apply below_alloc | apply pw_below_drewN | apply below_drew1) | exact HB.out)⟩⟩
              · rw [if_neg c9] at H
                exact absurd H (by simp)
            · rw [if_neg c7] at H
              exact absurd H (by simp)
          · rw [if_neg c6] at H
            have c6b0 : decide (x4_1 < (l0.length : Int)) = false := decide_eq_false c6
            clear c6
            obtain rfl := Option.some.inj H
            go_wp2
            go_ret
            exact ⟨_, by first | rfl | (simp [errW_none, errW_some] <;> rfl) | (simp [*, errW_none, errW_some] <;> rfl), by (with_reducible repeat (first | apply Kd.R_alloc | apply Kd.R_drewN | apply Kd.R_drew)); exact HO_3.out, by repeat (first | (with_reducible first | exact HB.out | apply below_alloc | apply pw_below_drewN | apply below_drew1) | exact HB.out)⟩
    · rw [if_neg c3] at H
      exact absurd H (by simp)
  · rw [if_neg c2] at H
    exact absurd H (by simp)

end Go.Proofs.Ytonifhkplniblaa.Print

namespace Go.Proofs.Ytonifhkplniblaa.Print
open Go.RowKit Go.Proofs.YtonifhkplniblaaW.PrintWords Go.Proofs.YtonifhkplniblaaW.PrintLast Go.Proofs.YtonifhkplniblaaW.PrintMore
attribute [local go_sem] max2_int min2_int max_two min_two max_three min_three max_four min_four   -- for this text's walks alone
set_option linter.unusedVariables false
set_option linter.unusedSimpArgs false

/-! ### spec_l1In: function 96 -/
def spec_l1In.f (a0 : Int) (a1 : Int) (a2 : Int) : Option (Bool) := if a0 ≥ a1 then (some (decide (a0 ≤ a2))) else (some false)
set_option maxHeartbeats 8000000 in
set_option maxRecDepth 100000 in
theorem spec_l1In.calls (a0 : Int) (a1 : Int) (a2 : Int) (r : Bool) (w : World) (h : spec_l1In.f a0 a1 a2 = some r) :
    Calls Try.prog 96 #[.int .i64 a0, .int .i64 a1, .int .i64 a2] w fun e w' => e = .returned (.bool r) ∧ Drawn0 w w' := by
  have H : (if a0 ≥ a1 then (some (decide (a0 ≤ a2))) else (some false)) = some r := h
  clear h
  by_cases c4 : a0 ≥ a1
  · rw [if_pos c4] at H
    have c4b0 : decide (a1 ≤ a0) = true := decide_eq_true c4
    clear c4
    obtain rfl := Option.some.inj H
    go_enter Try.func96, Try.ntmps96
    go_wp2
    go_ret
    exact ⟨by first | rfl | (simp; done) | (simp [*]; done) | (simp only [i64_w, i32_w]; done) | (simp [*, i64_w, i32_w]; done), by repeat (first | exact Drawn0.refl _ | apply Drawn0.step)⟩
  · rw [if_neg c4] at H
    have c4b0 : decide (a1 ≤ a0) = false := decide_eq_false c4
    clear c4
    obtain rfl := Option.some.inj H
    go_enter Try.func96, Try.ntmps96
    go_wp2
    go_ret
    exact ⟨by first | rfl | (simp; done) | (simp [*]; done) | (simp only [i64_w, i32_w]; done) | (simp [*, i64_w, i32_w]; done), by repeat (first | exact Drawn0.refl _ | apply Drawn0.step)⟩

end Go.Proofs.Ytonifhkplniblaa.Print

namespace Go.Proofs.Ytonifhkplniblaa.Print
open Go.RowKit Go.Proofs.YtonifhkplniblaaW.PrintWords Go.Proofs.YtonifhkplniblaaW.PrintLast Go.Proofs.YtonifhkplniblaaW.PrintMore
attribute [local go_sem] max2_int min2_int max_two min_two max_three min_three max_four min_four   -- for this text's walks alone
set_option linter.unusedVariables false
set_option linter.unusedSimpArgs false

/-! ### spec_TaskValid: function 150 -/
def spec_TaskValid.f (a0_0 : Int) (a0_1 : Int) (a0_2 : Int) : Option (Bool) := (spec_l1In.f a0_0 1 8).bind fun t102 => (if t102 = true then ((spec_l1In.f a0_1 a0_0 a0_2).bind fun t103 => (if t103 = true then ((spec_l1In.f a0_2 1 12).bind fun t104 => (some t104)) else (some false))) else (some false))
set_option maxHeartbeats 8000000 in
set_option maxRecDepth 100000 in
theorem spec_TaskValid.calls (a0_0 : Int) (a0_1 : Int) (a0_2 : Int) (r : Bool) (w : World) (h : spec_TaskValid.f a0_0 a0_1 a0_2 = some r) :
    Calls Try.prog 150 #[.agg #[.int .i64 a0_0, .int .i64 a0_1, .int .i64 a0_2]] w fun e w' => e = .returned (.bool r) ∧ Below w.heap.size w w' := by
  have hu62 := Try.underlying62
  have HB := Aside0.mk (Below.refl w.heap.size w)
  have H : ((spec_l1In.f a0_0 1 8).bind fun t102 => (if t102 = true then ((spec_l1In.f a0_1 a0_0 a0_2).bind fun t103 => (if t103 = true then ((spec_l1In.f a0_2 1 12).bind fun t104 => (some t104)) else (some false))) else (some false))) = some r := h
  clear h
  replace H := Option.bind_eq_some_iff.mp H
  obtain ⟨t102, A20, H⟩ := H
  replace H : (if t102 = true then ((spec_l1In.f a0_1 a0_0 a0_2).bind fun t103 => (if t103 = true then ((spec_l1In.f a0_2 1 12).bind fun t104 => (some t104)) else (some false))) else (some false)) = some r := H
  have A2 := Aside0.mk A20
  clear A20
  by_cases c3 : t102 = true
  · subst c3
    have H1 : ((spec_l1In.f a0_1 a0_0 a0_2).bind fun t103 => (if t103 = true then ((spec_l1In.f a0_2 1 12).bind fun t104 => (some t104)) else (some false))) = some r := by rw [if_pos rfl] at H; exact H
    clear H
    have H := H1
    clear H1
    replace H := Option.bind_eq_some_iff.mp H
    obtain ⟨t103, A40, H⟩ := H
    replace H : (if t103 = true then ((spec_l1In.f a0_2 1 12).bind fun t104 => (some t104)) else (some false)) = some r := H
    have A4 := Aside0.mk A40
    clear A40
    by_cases c5 : t103 = true
    · subst c5
      have H1 : ((spec_l1In.f a0_2 1 12).bind fun t104 => (some t104)) = some r := by rw [if_pos rfl] at H; exact H
      clear H
      have H := H1
      clear H1
      replace H := Option.bind_eq_some_iff.mp H
      obtain ⟨t104, A60, H⟩ := H
      replace H : (some t104) = some r := H
      have A6 := Aside0.mk A60
      clear A60
      obtain rfl := Option.some.inj H
      go_enter Try.func150, Try.ntmps150
      go_wp2_with (first | ((with_reducible refine gate_dst (N := 1) rfl ?_); refine box_event ?hg (N := 1) ?hd (cs := #[.int .i64 a0_0, .int .i64 a0_1, .int .i64 a0_2]) (t := 62) ?hr ?_; (case hd => rfl); (case hg => rfl); (case hr => first | (go_simp; done) | (go_simp; rfl)); intro gb101 hg w7 hbox hb; have n0_ := Aside0.mk (below_step (by repeat (first | (with_reducible first | exact HB.out | apply below_alloc | apply pw_below_drewN | apply below_drew1) | exact HB.out)) hb); have n1_ := Aside0.mk (hbox); have n2_ := Aside0.mk ((by rw [hg]; exact (below_size (by repeat (first | (with_reducible first | exact HB.out | apply below_alloc | apply pw_below_drewN | apply below_drew1) | exact HB.out))) : w.heap.size ≤ gb101)); have n3_ := Aside0.mk ((by rw [hg]; exact (below_size (by repeat (first | (with_reducible first | exact HB.out | apply below_alloc | apply pw_below_drewN | apply below_drew1) | exact HB.out))) : w.heap.size ≤ gb101)); clear HB; have HB := n0_; have BK101 := n1_; have GW101 := n2_; have GE101 := n3_; clear n0_ n1_ n2_ n3_; clear hb hbox hg; have hcz8_0 : w7.cell? ⟨gb101, 0, none⟩ = some (.int .i64 a0_0) := (blk_cell BK101.out 0).trans rfl; have hcz8_1 : w7.cell? ⟨gb101, 1, none⟩ = some (.int .i64 a0_1) := (blk_cell BK101.out 1).trans rfl; have hcz8_2 : w7.cell? ⟨gb101, 2, none⟩ = some (.int .i64 a0_2) := (blk_cell BK101.out 2).trans rfl; have hfz8_0 := blk_frozen BK101.out 0; have hfz8_1 := blk_frozen BK101.out 1; have hfz8_2 := blk_frozen BK101.out 2) | ((with_reducible refine gate_callee (f := 96) rfl ?_); refine goesL_ (some 5) rfl rfl Try.func96 (by kernel_rfl) rfl #[.int .i64 a0_0, .int .i64 1, .int .i64 8] rfl (by (try simp only [List.map_toArray, List.map_cons, List.map_nil]); first | done | rfl | (simp only [List.length_drop, List.length_take]; rfl)) ?_; (with_reducible refine (spec_l1In.calls a0_0 1 8 true _ A2.out).mono ?_); rintro e w' ⟨rfl, ⟨nd, rfl⟩⟩; refine ⟨_, rfl, ?_⟩) | (go_at_call 96; (with_reducible refine (spec_l1In.calls a0_1 a0_0 a0_2 true _ A4.out).mono ?_); rintro e w' ⟨rfl, ⟨nd, rfl⟩⟩) | (go_at_call 96; (with_reducible refine (spec_l1In.calls a0_2 1 12 t104 _ A6.out).mono ?_); rintro e w' ⟨rfl, ⟨nd, rfl⟩⟩))
      go_ret
      exact ⟨by first | rfl | (simp [errW_none, errW_some] <;> rfl) | (simp [*, errW_none, errW_some] <;> rfl), by repeat (first | (with_reducible first | exact HB.out | apply below_alloc | apply pw_below_drewN | apply below_drew1 | refine below_set ?_ GE101.out) | exact HB.out)⟩
    · replace c5 := Bool.eq_false_iff.mpr c5
      subst c5
      have H1 : (some false) = some r := by rw [if_neg (show ¬ (false = true) by decide)] at H; exact H
      clear H
      have H := H1
      clear H1
      obtain rfl := Option.some.inj H
      go_enter Try.func150, Try.ntmps150
      go_wp2_with (first | ((with_reducible refine gate_dst (N := 1) rfl ?_); refine box_event ?hg (N := 1) ?hd (cs := #[.int .i64 a0_0, .int .i64 a0_1, .int .i64 a0_2]) (t := 62) ?hr ?_; (case hd => rfl); (case hg => rfl); (case hr => first | (go_simp; done) | (go_simp; rfl)); intro gb101 hg w9 hbox hb; have n0_ := Aside0.mk (below_step (by repeat (first | (with_reducible first | exact HB.out | apply below_alloc | apply pw_below_drewN | apply below_drew1) | exact HB.out)) hb); have n1_ := Aside0.mk (hbox); have n2_ := Aside0.mk ((by rw [hg]; exact (below_size (by repeat (first | (with_reducible first | exact HB.out | apply below_alloc | apply pw_below_drewN | apply below_drew1) | exact HB.out))) : w.heap.size ≤ gb101)); have n3_ := Aside0.mk ((by rw [hg]; exact (below_size (by repeat (first | (with_reducible first | exact HB.out | apply below_alloc | apply pw_below_drewN | apply below_drew1) | exact HB.out))) : w.heap.size ≤ gb101)); clear HB; have HB := n0_; have BK101 := n1_; have GW101 := n2_; have GE101 := n3_; clear n0_ n1_ n2_ n3_; clear hb hbox hg; have hcz10_0 : w9.cell? ⟨gb101, 0, none⟩ = some (.int .i64 a0_0) := (blk_cell BK101.out 0).trans rfl; have hcz10_1 : w9.cell? ⟨gb101, 1, none⟩ = some (.int .i64 a0_1) := (blk_cell BK101.out 1).trans rfl; have hcz10_2 : w9.cell? ⟨gb101, 2, none⟩ = some (.int .i64 a0_2) := (blk_cell BK101.out 2).trans rfl; have hfz10_0 := blk_frozen BK101.out 0; have hfz10_1 := blk_frozen BK101.out 1; have hfz10_2 := blk_frozen BK101.out 2) | ((with_reducible refine gate_callee (f := 96) rfl ?_); refine goesL_ (some 5) rfl rfl Try.func96 (by kernel_rfl) rfl #[.int .i64 a0_0, .int .i64 1, .int .i64 8] rfl (by (try simp only [List.map_toArray, List.map_cons, List.map_nil]); first | done | rfl | (simp only [List.length_drop, List.length_take]; rfl)) ?_; (with_reducible refine (spec_l1In.calls a0_0 1 8 true _ A2.out).mono ?_); rintro e w' ⟨rfl, ⟨nd, rfl⟩⟩; refine ⟨_, rfl, ?_⟩) | (go_at_call 96; (with_reducible refine (spec_l1In.calls a0_1 a0_0 a0_2 false _ A4.out).mono ?_); rintro e w' ⟨rfl, ⟨nd, rfl⟩⟩))
      go_ret
      exact ⟨by first | rfl | (simp [errW_none, errW_some] <;> rfl) | (simp [*, errW_none, errW_some] <;> rfl), by repeat (first | (with_reducible first | exact HB.out | apply below_alloc | apply pw_below_drewN | apply below_drew1 | refine below_set ?_ GE101.out) | exact HB.out)⟩
  · replace c3 := Bool.eq_false_iff.mpr c3
    subst c3
    have H1 : (some false) = some r := by rw [if_neg (show ¬ (false = true) by decide)] at H; exact H
    clear H
    have H := H1
    clear H1
    obtain rfl := Option.some.inj H
    go_enter Try.func150, Try.ntmps150
    go_wp2_with (first | ((with_reducible refine gate_dst (N := 1) rfl ?_); refine box_event ?hg (N := 1) ?hd (cs := #[.int .i64 a0_0, .int .i64 a0_1, .int .i64 a0_2]) (t := 62) ?hr ?_; (case hd => rfl); (case hg => rfl); (case hr => first | (go_simp; done) | (go_simp; rfl)); intro gb101 hg w11 hbox hb; have n0_ := Aside0.mk (below_step (by repeat (first | (with_reducible first | exact HB.out | apply below_alloc | apply pw_below_drewN | apply below_drew1) | exact HB.out)) hb); have n1_ := Aside0.mk (hbox); have n2_ := Aside0.mk ((by rw [hg]; exact (below_size (by repeat (first | (with_reducible first | exact HB.out | apply below_alloc | apply pw_below_drewN | apply below_drew1) | exact HB.out))) : w.heap.size ≤ gb101)); have n3_ := Aside0.mk ((by rw [hg]; exact (below_size (by repeat (first | (with_reducible first | exact HB.out | apply below_alloc | apply pw_below_drewN | apply below_drew1) | exact HB.out))) : w.heap.size ≤ gb101)); clear HB; have HB := n0_; have BK101 := n1_; have GW101 := n2_; have GE101 := n3_; clear n0_ n1_ n2_ n3_; clear hb hbox hg; have hcz12_0 : w11.cell? ⟨gb101, 0, none⟩ = some (.int .i64 a0_0) := (blk_cell BK101.out 0).trans rfl; have hcz12_1 : w11.cell? ⟨gb101, 1, none⟩ = some (.int .i64 a0_1) := (blk_cell BK101.out 1).trans rfl; have hcz12_2 : w11.cell? ⟨gb101, 2, none⟩ = some (.int .i64 a0_2) := (blk_cell BK101.out 2).trans rfl; have hfz12_0 := blk_frozen BK101.out 0; have hfz12_1 := blk_frozen BK101.out 1; have hfz12_2 := blk_frozen BK101.out 2) | ((with_reducible refine gate_callee (f := 96) rfl ?_); refine goesL_ (some 5) rfl rfl Try.func96 (by kernel_rfl) rfl #[.int .i64 a0_0, .int .i64 1, .int .i64 8] rfl (by (try simp only [List.map_toArray, List.map_cons, List.map_nil]); first | done | rfl | (simp only [List.length_drop, List.length_take]; rfl)) ?_; (with_reducible refine (spec_l1In.calls a0_0 1 8 false _ A2.out).mono ?_); rintro e w' ⟨rfl, ⟨nd, rfl⟩⟩; refine ⟨_, rfl, ?_⟩))
    go_ret
    exact ⟨by first | rfl | (simp [errW_none, errW_some] <;> rfl) | (simp [*, errW_none, errW_some] <;> rfl), by repeat (first | (with_reducible first | exact HB.out | apply below_alloc | apply pw_below_drewN | apply below_drew1 | refine below_set ?_ GE101.out) | exact HB.out)⟩

end Go.Proofs.Ytonifhkplniblaa.Print

namespace Go.Proofs.Ytonifhkplniblaa.Print
open Go.RowKit Go.Proofs.YtonifhkplniblaaW.PrintWords Go.Proofs.YtonifhkplniblaaW.PrintLast Go.Proofs.YtonifhkplniblaaW.PrintMore
attribute [local go_sem] max2_int min2_int max_two min_two max_three min_three max_four min_four   -- for this text's walks alone
set_option linter.unusedVariables false
set_option linter.unusedSimpArgs false

/-! ### spec_SetValid: function 95 -/
def spec_SetValid.l0 : Nat → List (S62) → Int → Option (Bool)
  | 0, _, _ => none
  | k + 1, x0, x3 => if x3 < (x0.length : Int) then (if 0 ≤ x3 then ((spec_TaskValid.f ((rd_T62 x0 x3).f0) ((rd_T62 x0 x3).f1) ((rd_T62 x0 x3).f2)).bind fun t102 => (if t102 = true then (spec_SetValid.l0 k x0 (wrap64 (x3 + 1))) else (some false))) else (none)) else (some (decide ((x0.length : Int) ≤ 5)))
def spec_SetValid.f (k : Nat) (l0 : List (S62)) : Option (Bool) := spec_SetValid.l0 k l0 0
theorem spec_SetValid.mono_l : ∀ k, (∀ y0 y1, LeO (spec_SetValid.l0 k y0 y1) (spec_SetValid.l0 (k + 1) y0 y1))
  | 0 => fun _ _ r h => by simp [spec_SetValid.l0] at h
  | k + 1 => by
    have ih0 := spec_SetValid.mono_l k
    · intro y0 y1
      unfold spec_SetValid.l0
      repeat' first
      | (with_reducible exact ih0 _ _)
      | (with_reducible exact LeO.refl _)
      | (with_reducible exact LeO.none _)
      | (with_reducible refine LeO.ite ?_ ?_)
      | (with_reducible refine LeO.bind ?_ (fun _ => ?_))
      | exact ih0 _ _
      | exact LeO.none _
      | refine LeO.ite ?_ ?_
      | refine LeO.bind ?_ (fun _ => ?_)
theorem spec_SetValid.mono : ∀ a0 k, LeO (spec_SetValid.f k a0) (spec_SetValid.f (k + 1) a0) := by
  intro a0 k
  have ih0 := spec_SetValid.mono_l k
  unfold spec_SetValid.f
  repeat' first
      | (with_reducible exact ih0 _ _)
      | (with_reducible exact LeO.refl _)
      | (with_reducible exact LeO.none _)
      | (with_reducible refine LeO.ite ?_ ?_)
      | (with_reducible refine LeO.bind ?_ (fun _ => ?_))
      | exact ih0 _ _
      | exact LeO.none _
      | refine LeO.ite ?_ ?_
      | refine LeO.bind ?_ (fun _ => ?_)
set_option maxHeartbeats 8000000 in
set_option maxRecDepth 100000 in
theorem spec_SetValid.calls (k : Nat) (A0 : Option Addr) (c0 : Nat) (l0 : List (S62)) (r : Bool) (w : World) (hr0 : Kd.C k62 w A0 l0.length l0) (hc0 : l0.length ≤ c0) (h : spec_SetValid.f k l0 = some r) :
    Calls Try.prog 95 #[.slice A0 l0.length c0] w fun e w' => e = .returned (.bool r) ∧ Below w.heap.size w w' := by
  have hu62 := Try.underlying62
  have HR0 := Aside0.mk hr0
  have HC0 := Aside0.mk hc0
  clear hr0 hc0
  have HB := Aside0.mk (Below.refl w.heap.size w)
  have H : (spec_SetValid.l0 k l0 0) = some r := h
  clear h
  have H' := Aside0.mk H
  clear H
  go_enter Try.func95, Try.ntmps95
  go_wp2
  go_loopg [3] k (fun kq v3 w' => ∃ (x3_1 : Int), v3 = .int .i64 x3_1 ∧ Aside0 (spec_SetValid.l0 kq l0 x3_1 = some r) ∧ Aside0 (kq ≤ k) ∧ Aside0 (Below w.heap.size w w'))
  case atStart => exact ⟨(0), (by first | rfl | (simp; done) | (simp [*]; done) | (simp only [i64_w, i32_w]; done) | (simp [*, i64_w, i32_w]; done)), H', ⟨Nat.le_refl _⟩, ⟨by repeat (first | (with_reducible first | exact HB.out | apply below_alloc | apply pw_below_drewN | apply below_drew1) | exact HB.out)⟩⟩
  case round =>
    clear H'
    obtain ⟨x3_1, rfl, HA, HK1, HB⟩ := hrel
    cases gk with
    | zero => exact absurd HA.out (by simp [spec_SetValid.l0])
    | succ k1 =>
      have H := HA.out
      clear HA
      simp only [spec_SetValid.l0] at H
      by_cases c2 : x3_1 < (l0.length : Int)
      · rw [if_pos c2] at H
        have c2b0 : decide (x3_1 < (l0.length : Int)) = true := decide_eq_true c2
        clear c2
        by_cases c3 : 0 ≤ x3_1
        · rw [if_pos c3] at H
          have c3b0 : decide (0 ≤ x3_1) = true := decide_eq_true c3
          clear c3
          replace H := Option.bind_eq_some_iff.mp H
          obtain ⟨t102, A40, H⟩ := H
          replace H : (if t102 = true then (spec_SetValid.l0 k1 l0 (wrap64 (x3_1 + 1))) else (some false)) = some r := H
          have A4 := Aside0.mk A40
          clear A40
          by_cases c5 : t102 = true
          · subst c5
            have H1 : (spec_SetValid.l0 k1 l0 (wrap64 (x3_1 + 1))) = some r := by rw [if_pos rfl] at H; exact H
            clear H
            have H := H1
            clear H1
            have H' := Aside0.mk H
            clear H
            have p101 : 0 ≤ (x3_1 : Int) := of_decide_eq_true (by first | (with_reducible assumption) | assumption)
            have q101 : x3_1 < (l0.length : Int) := of_decide_eq_true (by first | (with_reducible assumption) | assumption)
            obtain ⟨ad101, e101, hx101_0, hx101_1, hx101_2⟩ := at_T62 HR0.out x3_1 p101 q101
            cases e101
            replace hx101_0 := (HB.out.cell (World.block_lt_of_cell? w _ hx101_0)).trans hx101_0
            replace hx101_1 := (HB.out.cell (World.block_lt_of_cell? w _ hx101_1)).trans hx101_1
            replace hx101_2 := (HB.out.cell (World.block_lt_of_cell? w _ hx101_2)).trans hx101_2
            replace p101 := eq_true p101
            replace q101 := eq_true q101
            go_wp2_with (first | ((with_reducible refine gate_callee (f := 150) rfl ?_); refine goesL_ (some 14) rfl rfl Try.func150 (by kernel_rfl) rfl #[.agg #[.int .i64 ((rd_T62 l0 x3_1).f0), .int .i64 ((rd_T62 l0 x3_1).f1), .int .i64 ((rd_T62 l0 x3_1).f2)]] rfl (by (try simp only [List.map_toArray, List.map_cons, List.map_nil]); first | done | rfl | (simp only [List.length_drop, List.length_take]; rfl)) ?_; (with_reducible refine (spec_TaskValid.calls ((rd_T62 l0 x3_1).f0) ((rd_T62 l0 x3_1).f1) ((rd_T62 l0 x3_1).f2) true _ A4.out).mono ?_); rintro e w6 ⟨rfl, hb⟩; refine ⟨_, rfl, ?_⟩; have n0_ := Aside0.mk (below_step (by repeat (first | (with_reducible first | exact HB.out | apply below_alloc | apply pw_below_drewN | apply below_drew1) | exact HB.out)) hb); clear HB; have HB := n0_; clear n0_; (try clear hb); (try clear hb2); (try clear hk); (try clear hi)))
            go_roundg k1
            case measure => have := HK1.out; omega
            case rel => exact ⟨(wrap64 (x3_1 + 1)), (by first | rfl | (simp; done) | (simp [*]; done) | (simp only [i64_w, i32_w]; done) | (simp [*, i64_w, i32_w]; done)), H', ⟨by have := HK1.out; omega⟩, ⟨by repeat (first | (with_reducible first | exact HB.out | apply below_alloc | apply pw_below_drewN | apply below_drew1) | exact HB.out)⟩⟩
          · replace c5 := Bool.eq_false_iff.mpr c5
            subst c5
            have H1 : (some false) = some r := by rw [if_neg (show ¬ (false = true) by decide)] at H; exact H
            clear H
            have H := H1
            clear H1
            obtain rfl := Option.some.inj H
            have p101 : 0 ≤ (x3_1 : Int) := of_decide_eq_true (by first | (with_reducible assumption) | assumption)
            have q101 : x3_1 < (l0.length : Int) := of_decide_eq_true (by first | (with_reducible assumption) | assumption)
            obtain ⟨ad101, e101, hx101_0, hx101_1, hx101_2⟩ := at_T62 HR0.out x3_1 p101 q101
            cases e101
            replace hx101_0 := (HB.out.cell (World.block_lt_of_cell? w _ hx101_0)).trans hx101_0
            replace hx101_1 := (HB.out.cell (World.block_lt_of_cell? w _ hx101_1)).trans hx101_1
            replace hx101_2 := (HB.out.cell (World.block_lt_of_cell? w _ hx101_2)).trans hx101_2
            replace p101 := eq_true p101
            replace q101 := eq_true q101
            go_wp2_with (first | ((with_reducible refine gate_callee (f := 150) rfl ?_); refine goesL_ (some 14) rfl rfl Try.func150 (by kernel_rfl) rfl #[.agg #[.int .i64 ((rd_T62 l0 x3_1).f0), .int .i64 ((rd_T62 l0 x3_1).f1), .int .i64 ((rd_T62 l0 x3_1).f2)]] rfl (by (try simp only [List.map_toArray, List.map_cons, List.map_nil]); first | done | rfl | (simp only [List.length_drop, List.length_take]; rfl)) ?_; (with_reducible refine (spec_TaskValid.calls ((rd_T62 l0 x3_1).f0) ((rd_T62 l0 x3_1).f1) ((rd_T62 l0 x3_1).f2) false _ A4.out).mono ?_); rintro e w7 ⟨rfl, hb⟩; refine ⟨_, rfl, ?_⟩; have n0_ := Aside0.mk (below_step (by repeat (first | (with_reducible first | exact HB.out | apply below_alloc | apply pw_below_drewN | apply below_drew1) | exact HB.out)) hb); clear HB; have HB := n0_; clear n0_; (try clear hb); (try clear hb2); (try clear hk); (try clear hi)))
            go_ret
            exact ⟨by first | rfl | (simp [errW_none, errW_some] <;> rfl) | (simp [*, errW_none, errW_some] <;> rfl), by repeat (first | (with_reducible first | exact HB.out | apply below_alloc | apply pw_below_drewN | apply below_drew1) | exact HB.out)⟩
        · rw [if_neg c3] at H
          exact absurd H (by simp)
      · rw [if_neg c2] at H
        have c2b0 : decide (x3_1 < (l0.length : Int)) = false := decide_eq_false c2
        clear c2
        obtain rfl := Option.some.inj H
        go_wp2
        go_ret
        exact ⟨by first | rfl | (simp [errW_none, errW_some] <;> rfl) | (simp [*, errW_none, errW_some] <;> rfl), by repeat (first | (with_reducible first | exact HB.out | apply below_alloc | apply pw_below_drewN | apply below_drew1) | exact HB.out)⟩

end Go.Proofs.Ytonifhkplniblaa.Print

namespace Go.Proofs.Ytonifhkplniblaa.Print
open Go.RowKit Go.Proofs.YtonifhkplniblaaW.PrintWords Go.Proofs.YtonifhkplniblaaW.PrintLast Go.Proofs.YtonifhkplniblaaW.PrintMore
attribute [local go_sem] max2_int min2_int max_two min_two max_three min_three max_four min_four   -- for this text's walks alone
set_option linter.unusedVariables false
set_option linter.unusedSimpArgs false

/-! ### spec_JobsLegal: function 34 -/
mutual
def spec_JobsLegal.j0 : Nat → List (S62) → List (S67) → Bool → Option (Bool)
  | 0, _, _, _ => none
  | k + 1, x0, x1, x16 => if x16 = true then (some false) else (if 0 ≤ (x0.length : Int) then (if ((x0.length : Int) : Int).toNat ≤ 35184372088832 then (spec_JobsLegal.l0 k x0 x1 (List.replicate ((x0.length : Int) : Int).toNat 0) 0) else (none)) else (none))
def spec_JobsLegal.l0 : Nat → List (S62) → List (S67) → List Int → Int → Option (Bool)
  | 0, _, _, _, _ => none
  | k + 1, x0, x1, x5, x6 => if x6 < (x1.length : Int) then (if 0 ≤ x6 then ((spec_l1In.f ((rd_T67 x1 x6).f0) 0 (wrap64 ((x0.length : Int) - 1))).bind fun t107 => (if t107 = true then ((spec_l1In.f ((rd_T67 x1 x6).f1) 0 119).bind fun t108 => (spec_JobsLegal.j2 k x0 x1 x5 x6 (!t108) ((rd_T67 x1 x6).f0) ((rd_T67 x1 x6).f1) ((rd_T67 x1 x6).f2) ((rd_T67 x1 x6).f3))) else (spec_JobsLegal.j2 k x0 x1 x5 x6 true ((rd_T67 x1 x6).f0) ((rd_T67 x1 x6).f1) ((rd_T67 x1 x6).f2) ((rd_T67 x1 x6).f3)))) else (none)) else (some true)
def spec_JobsLegal.j2 : Nat → List (S62) → List (S67) → List Int → Int → Bool → Int → Int → Int → Int → Option (Bool)
  | 0, _, _, _, _, _, _, _, _, _ => none
  | k + 1, x0, x1, x5, x6, x42, x107000, x107001, x107002, x107003 => if x42 = true then (some false) else (if 0 ≤ x107000 then (if x107000 < (x0.length : Int) then (if x107000 < (x5.length : Int) then (if x107001 < (rd x5 x107000) then (spec_JobsLegal.j3 k x0 x1 x5 x6 true x107000 x107001 x107002 x107003 ((rd_T62 x0 x107000).f0) ((rd_T62 x0 x107000).f1) ((rd_T62 x0 x107000).f2)) else (if x107002 = (wrap64 (x107001 + ((rd_T62 x0 x107000).f1))) then ((spec_l1In.f x107003 1 ((rd_T62 x0 x107000).f0)).bind fun t112 => (spec_JobsLegal.j3 k x0 x1 x5 x6 (!t112) x107000 x107001 x107002 x107003 ((rd_T62 x0 x107000).f0) ((rd_T62 x0 x107000).f1) ((rd_T62 x0 x107000).f2))) else (spec_JobsLegal.j3 k x0 x1 x5 x6 true x107000 x107001 x107002 x107003 ((rd_T62 x0 x107000).f0) ((rd_T62 x0 x107000).f1) ((rd_T62 x0 x107000).f2)))) else (none)) else (none)) else (none))
def spec_JobsLegal.j3 : Nat → List (S62) → List (S67) → List Int → Int → Bool → Int → Int → Int → Int → Int → Int → Int → Option (Bool)
  | 0, _, _, _, _, _, _, _, _, _, _, _, _ => none
  | k + 1, x0, x1, x5, x6, x73, x107000, x107001, x107002, x107003, x111000, x111001, x111002 => if x73 = true then (some false) else (if x6 > 0 then (if 0 ≤ (wrap64 (x6 - 1)) then (if (wrap64 (x6 - 1)) < (x1.length : Int) then (if ((rd_T67 x1 (wrap64 (x6 - 1))).f1) > x107001 then (some false) else (if ((rd_T67 x1 (wrap64 (x6 - 1))).f1) = x107001 then (if ((rd_T67 x1 (wrap64 (x6 - 1))).f0) ≥ x107000 then (some false) else (if 0 ≤ x107000 then (if x107000 < (x5.length : Int) then (spec_JobsLegal.l0 k x0 x1 (x5.set (x107000 : Int).toNat (wrap64 (x107001 + x111002))) (wrap64 (x6 + 1))) else (none)) else (none))) else (if 0 ≤ x107000 then (if x107000 < (x5.length : Int) then (spec_JobsLegal.l0 k x0 x1 (x5.set (x107000 : Int).toNat (wrap64 (x107001 + x111002))) (wrap64 (x6 + 1))) else (none)) else (none)))) else (none)) else (none)) else (if 0 ≤ x107000 then (if x107000 < (x5.length : Int) then (spec_JobsLegal.l0 k x0 x1 (x5.set (x107000 : Int).toNat (wrap64 (x107001 + x111002))) (wrap64 (x6 + 1))) else (none)) else (none)))
end
def spec_JobsLegal.f (k : Nat) (l0 : List (S62)) (l1 : List (S67)) : Option (Bool) := (spec_SetValid.f k l0).bind fun t101 => (if t101 = true then (spec_JobsLegal.j0 k l0 l1 (decide ((l1.length : Int) > 60))) else (spec_JobsLegal.j0 k l0 l1 true))
theorem spec_JobsLegal.mono_l : ∀ k, (∀ y0 y1 y2, LeO (spec_JobsLegal.j0 k y0 y1 y2) (spec_JobsLegal.j0 (k + 1) y0 y1 y2)) ∧ (∀ y0 y1 y2 y3, LeO (spec_JobsLegal.l0 k y0 y1 y2 y3) (spec_JobsLegal.l0 (k + 1) y0 y1 y2 y3)) ∧ (∀ y0 y1 y2 y3 y4 y5 y6 y7 y8, LeO (spec_JobsLegal.j2 k y0 y1 y2 y3 y4 y5 y6 y7 y8) (spec_JobsLegal.j2 (k + 1) y0 y1 y2 y3 y4 y5 y6 y7 y8)) ∧ (∀ y0 y1 y2 y3 y4 y5 y6 y7 y8 y9 y10 y11, LeO (spec_JobsLegal.j3 k y0 y1 y2 y3 y4 y5 y6 y7 y8 y9 y10 y11) (spec_JobsLegal.j3 (k + 1) y0 y1 y2 y3 y4 y5 y6 y7 y8 y9 y10 y11))
  | 0 => ⟨fun _ _ _ r h => by simp [spec_JobsLegal.j0] at h, fun _ _ _ _ r h => by simp [spec_JobsLegal.l0] at h, fun _ _ _ _ _ _ _ _ _ r h => by simp [spec_JobsLegal.j2] at h, fun _ _ _ _ _ _ _ _ _ _ _ _ r h => by simp [spec_JobsLegal.j3] at h⟩
  | k + 1 => by
    obtain ⟨ih0, ih1, ih2, ih3⟩ := spec_JobsLegal.mono_l k
    refine ⟨?_, ?_, ?_, ?_⟩
    · intro y0 y1 y2
      unfold spec_JobsLegal.j0
      repeat' first
      | (with_reducible exact ih0 _ _ _)
      | (with_reducible exact ih1 _ _ _ _)
      | (with_reducible exact ih2 _ _ _ _ _ _ _ _ _)
      | (with_reducible exact ih3 _ _ _ _ _ _ _ _ _ _ _ _)
      | (with_reducible exact spec_SetValid.mono _ _)
      | (with_reducible exact LeO.refl _)
      | (with_reducible exact LeO.none _)
      | (with_reducible refine LeO.ite ?_ ?_)
      | (with_reducible refine LeO.bind ?_ (fun _ => ?_))
      | exact ih0 _ _ _
      | exact ih1 _ _ _ _
      | exact ih2 _ _ _ _ _ _ _ _ _
      | exact ih3 _ _ _ _ _ _ _ _ _ _ _ _
      | exact spec_SetValid.mono _ _
      | exact LeO.none _
      | refine LeO.ite ?_ ?_
      | refine LeO.bind ?_ (fun _ => ?_)
    · intro y0 y1 y2 y3
      unfold spec_JobsLegal.l0
      repeat' first
      | (with_reducible exact ih0 _ _ _)
      | (with_reducible exact ih1 _ _ _ _)
      | (with_reducible exact ih2 _ _ _ _ _ _ _ _ _)
      | (with_reducible exact ih3 _ _ _ _ _ _ _ _ _ _ _ _)
      | (with_reducible exact spec_SetValid.mono _ _)
      | (with_reducible exact LeO.refl _)
      | (with_reducible exact LeO.none _)
      | (with_reducible refine LeO.ite ?_ ?_)
      | (with_reducible refine LeO.bind ?_ (fun _ => ?_))
      | exact ih0 _ _ _
      | exact ih1 _ _ _ _
      | exact ih2 _ _ _ _ _ _ _ _ _
      | exact ih3 _ _ _ _ _ _ _ _ _ _ _ _
      | exact spec_SetValid.mono _ _
      | exact LeO.none _
      | refine LeO.ite ?_ ?_
      | refine LeO.bind ?_ (fun _ => ?_)
    · intro y0 y1 y2 y3 y4 y5 y6 y7 y8
      unfold spec_JobsLegal.j2
      repeat' first
      | (with_reducible exact ih0 _ _ _)
      | (with_reducible exact ih1 _ _ _ _)
      | (with_reducible exact ih2 _ _ _ _ _ _ _ _ _)
      | (with_reducible exact ih3 _ _ _ _ _ _ _ _ _ _ _ _)
      | (with_reducible exact spec_SetValid.mono _ _)
      | (with_reducible exact LeO.refl _)
      | (with_reducible exact LeO.none _)
      | (with_reducible refine LeO.ite ?_ ?_)
      | (with_reducible refine LeO.bind ?_ (fun _ => ?_))
      | exact ih0 _ _ _
      | exact ih1 _ _ _ _
      | exact ih2 _ _ _ _ _ _ _ _ _
      | exact ih3 _ _ _ _ _ _ _ _ _ _ _ _
      | exact spec_SetValid.mono _ _
      | exact LeO.none _
      | refine LeO.ite ?_ ?_
      | refine LeO.bind ?_ (fun _ => ?_)
    · intro y0 y1 y2 y3 y4 y5 y6 y7 y8 y9 y10 y11
      unfold spec_JobsLegal.j3
      repeat' first
      | (with_reducible exact ih0 _ _ _)
      | (with_reducible exact ih1 _ _ _ _)
      | (with_reducible exact ih2 _ _ _ _ _ _ _ _ _)
      | (with_reducible exact ih3 _ _ _ _ _ _ _ _ _ _ _ _)
      | (with_reducible exact spec_SetValid.mono _ _)
      | (with_reducible exact LeO.refl _)
      | (with_reducible exact LeO.none _)
      | (with_reducible refine LeO.ite ?_ ?_)
      | (with_reducible refine LeO.bind ?_ (fun _ => ?_))
      | exact ih0 _ _ _
      | exact ih1 _ _ _ _
      | exact ih2 _ _ _ _ _ _ _ _ _
      | exact ih3 _ _ _ _ _ _ _ _ _ _ _ _
      | exact spec_SetValid.mono _ _
      | exact LeO.none _
      | refine LeO.ite ?_ ?_
      | refine LeO.bind ?_ (fun _ => ?_)
theorem spec_JobsLegal.mono : ∀ a0 a1 k, LeO (spec_JobsLegal.f k a0 a1) (spec_JobsLegal.f (k + 1) a0 a1) := by
  intro a0 a1 k
  obtain ⟨ih0, ih1, ih2, ih3⟩ := spec_JobsLegal.mono_l k
  unfold spec_JobsLegal.f
  repeat' first
      | (with_reducible exact ih0 _ _ _)
      | (with_reducible exact ih1 _ _ _ _)
      | (with_reducible exact ih2 _ _ _ _ _ _ _ _ _)
      | (with_reducible exact ih3 _ _ _ _ _ _ _ _ _ _ _ _)
      | (with_reducible exact spec_SetValid.mono _ _)
      | (with_reducible exact LeO.refl _)
      | (with_reducible exact LeO.none _)
      | (with_reducible refine LeO.ite ?_ ?_)
      | (with_reducible refine LeO.bind ?_ (fun _ => ?_))
      | exact ih0 _ _ _
      | exact ih1 _ _ _ _
      | exact ih2 _ _ _ _ _ _ _ _ _
      | exact ih3 _ _ _ _ _ _ _ _ _ _ _ _
      | exact spec_SetValid.mono _ _
      | exact LeO.none _
      | refine LeO.ite ?_ ?_
      | refine LeO.bind ?_ (fun _ => ?_)
set_option maxHeartbeats 8000000 in
set_option maxRecDepth 100000 in
theorem spec_JobsLegal.calls (k : Nat) (A0 : Option Addr) (c0 : Nat) (l0 : List (S62)) (A1 : Option Addr) (c1 : Nat) (l1 : List (S67)) (r : Bool) (w : World) (hr0 : Kd.C k62 w A0 l0.length l0) (hc0 : l0.length ≤ c0) (hr1 : Kd.C k67 w A1 l1.length l1) (hc1 : l1.length ≤ c1) (h : spec_JobsLegal.f k l0 l1 = some r) :
    Calls Try.prog 34 #[.slice A0 l0.length c0, .slice A1 l1.length c1] w fun e w' => e = .returned (.bool r) ∧ Below w.heap.size w w' := by
  have hu67 := Try.underlying67
  have hu62 := Try.underlying62
  have HR0 := Aside0.mk hr0
  have HC0 := Aside0.mk hc0
  clear hr0 hc0
  have HR1 := Aside0.mk hr1
  have HC1 := Aside0.mk hc1
  clear hr1 hc1
  have HB := Aside0.mk (Below.refl w.heap.size w)
  have H : ((spec_SetValid.f k l0).bind fun t101 => (if t101 = true then (spec_JobsLegal.j0 k l0 l1 (decide ((l1.length : Int) > 60))) else (spec_JobsLegal.j0 k l0 l1 true))) = some r := h
  clear h
  have HC3 := Aside0.mk H
  clear H
  go_enter Try.func34, Try.ntmps34
  go_upto_region 1 with (fail)
  repeat (go_quiet (fail); go_upto_region 1 with (fail))
  go_cut [16] (fun v16 wc => ∃ (kq : Nat) (x16_2 : Bool), v16 = .bool x16_2 ∧ Aside0 (spec_JobsLegal.j0 kq l0 l1 x16_2 = some r) ∧ Aside0 (kq ≤ k) ∧ Aside0 (Below w.heap.size w wc))
  case first =>
    have H := HC3.out
    clear HC3
    replace H := Option.bind_eq_some_iff.mp H
    obtain ⟨t101, A40, H⟩ := H
    replace H : (if t101 = true then (spec_JobsLegal.j0 k l0 l1 (decide ((l1.length : Int) > 60))) else (spec_JobsLegal.j0 k l0 l1 true)) = some r := H
    have A4 := Aside0.mk A40
    clear A40
    by_cases c5 : t101 = true
    · subst c5
      have H1 : (spec_JobsLegal.j0 k l0 l1 (decide ((l1.length : Int) > 60))) = some r := by rw [if_pos rfl] at H; exact H
      clear H
      have H := H1
      clear H1
      have H' := Aside0.mk H
      clear H
      go_wp2_with (first | (go_at_call 95; (with_reducible refine (spec_SetValid.calls k _ _ l0 true _ ?side1 ?side2 A4.out).mono ?_); (case side1 => repeat (first | exact (Kd.C_below HR0.out HB.out) | (with_reducible refine Kd.C_alloc ?_ _) | (with_reducible refine Kd.C_drewN ?_ _) | (with_reducible refine Kd.C_drew ?_))); (case side2 => exact HC0.out); rintro e w6 ⟨rfl, hb⟩; have n0_ := Aside0.mk (below_step (by repeat (first | (with_reducible first | exact HB.out | apply below_alloc | apply pw_below_drewN | apply below_drew1) | exact HB.out)) hb); clear HB; have HB := n0_; clear n0_; (try clear hb); (try clear hb2); (try clear hk); (try clear hi)))
      repeat (go_quiet (first | (go_at_call 95; (with_reducible refine (spec_SetValid.calls k _ _ l0 true _ ?side1 ?side2 A4.out).mono ?_); (case side1 => repeat (first | exact (Kd.C_below HR0.out HB.out) | (with_reducible refine Kd.C_alloc ?_ _) | (with_reducible refine Kd.C_drewN ?_ _) | (with_reducible refine Kd.C_drew ?_))); (case side2 => exact HC0.out); rintro e w6 ⟨rfl, hb⟩; have n0_ := Aside0.mk (below_step (by repeat (first | (with_reducible first | exact HB.out | apply below_alloc | apply pw_below_drewN | apply below_drew1) | exact HB.out)) hb); clear HB; have HB := n0_; clear n0_; (try clear hb); (try clear hb2); (try clear hk); (try clear hi))); try go_wp2_with (first | (go_at_call 95; (with_reducible refine (spec_SetValid.calls k _ _ l0 true _ ?side1 ?side2 A4.out).mono ?_); (case side1 => repeat (first | exact (Kd.C_below HR0.out HB.out) | (with_reducible refine Kd.C_alloc ?_ _) | (with_reducible refine Kd.C_drewN ?_ _) | (with_reducible refine Kd.C_drew ?_))); (case side2 => exact HC0.out); rintro e w6 ⟨rfl, hb⟩; have n0_ := Aside0.mk (below_step (by repeat (first | (with_reducible first | exact HB.out | apply below_alloc | apply pw_below_drewN | apply below_drew1) | exact HB.out)) hb); clear HB; have HB := n0_; clear n0_; (try clear hb); (try clear hb2); (try clear hk); (try clear hi))))
      go_meet
      case rel => exact ⟨_, (decide ((l1.length : Int) > 60)), (by first | rfl | (simp; done) | (simp [*]; done) | (simp only [i64_w, i32_w]; done) | (simp [*, i64_w, i32_w]; done)), H', ⟨by first | omega | exact Nat.le_refl _⟩, ⟨by repeat (first | (with_reducible first | exact HB.out | apply below_alloc | apply pw_below_drewN | apply below_drew1) | exact HB.out)⟩⟩
    · replace c5 := Bool.eq_false_iff.mpr c5
      subst c5
      have H1 : (spec_JobsLegal.j0 k l0 l1 true) = some r := by rw [if_neg (show ¬ (false = true) by decide)] at H; exact H
      clear H
      have H := H1
      clear H1
      have H' := Aside0.mk H
      clear H
      go_wp2_with (first | (go_at_call 95; (with_reducible refine (spec_SetValid.calls k _ _ l0 false _ ?side1 ?side2 A4.out).mono ?_); (case side1 => repeat (first | exact (Kd.C_below HR0.out HB.out) | (with_reducible refine Kd.C_alloc ?_ _) | (with_reducible refine Kd.C_drewN ?_ _) | (with_reducible refine Kd.C_drew ?_))); (case side2 => exact HC0.out); rintro e w7 ⟨rfl, hb⟩; have n0_ := Aside0.mk (below_step (by repeat (first | (with_reducible first | exact HB.out | apply below_alloc | apply pw_below_drewN | apply below_drew1) | exact HB.out)) hb); clear HB; have HB := n0_; clear n0_; (try clear hb); (try clear hb2); (try clear hk); (try clear hi)))
      repeat (go_quiet (first | (go_at_call 95; (with_reducible refine (spec_SetValid.calls k _ _ l0 false _ ?side1 ?side2 A4.out).mono ?_); (case side1 => repeat (first | exact (Kd.C_below HR0.out HB.out) | (with_reducible refine Kd.C_alloc ?_ _) | (with_reducible refine Kd.C_drewN ?_ _) | (with_reducible refine Kd.C_drew ?_))); (case side2 => exact HC0.out); rintro e w7 ⟨rfl, hb⟩; have n0_ := Aside0.mk (below_step (by repeat (first | (with_reducible first | exact HB.out | apply below_alloc | apply pw_below_drewN | apply below_drew1) | exact HB.out)) hb); clear HB; have HB := n0_; clear n0_; (try clear hb); (try clear hb2); (try clear hk); (try clear hi))); try go_wp2_with (first | (go_at_call 95; (with_reducible refine (spec_SetValid.calls k _ _ l0 false _ ?side1 ?side2 A4.out).mono ?_); (case side1 => repeat (first | exact (Kd.C_below HR0.out HB.out) | (with_reducible refine Kd.C_alloc ?_ _) | (with_reducible refine Kd.C_drewN ?_ _) | (with_reducible refine Kd.C_drew ?_))); (case side2 => exact HC0.out); rintro e w7 ⟨rfl, hb⟩; have n0_ := Aside0.mk (below_step (by repeat (first | (with_reducible first | exact HB.out | apply below_alloc | apply pw_below_drewN | apply below_drew1) | exact HB.out)) hb); clear HB; have HB := n0_; clear n0_; (try clear hb); (try clear hb2); (try clear hk); (try clear hi))))
      go_meet
      case rel => exact ⟨_, (true), (by first | rfl | (simp; done) | (simp [*]; done) | (simp only [i64_w, i32_w]; done) | (simp [*, i64_w, i32_w]; done)), H', ⟨by first | omega | exact Nat.le_refl _⟩, ⟨by repeat (first | (with_reducible first | exact HB.out | apply below_alloc | apply pw_below_drewN | apply below_drew1) | exact HB.out)⟩⟩
  case rest =>
    clear HC3
    try clear c1
    try clear p2
    try clear c3
    try clear c5
    obtain ⟨kq, x16_2, rfl, HA, HJ2, HB⟩ := hcut
    cases kq with
    | zero => exact absurd HA.out (by simp [spec_JobsLegal.j0])
    | succ kj2 =>
      have H := HA.out
      clear HA
      simp only [spec_JobsLegal.j0] at H
      by_cases c8 : x16_2 = true
      · subst c8
        have H1 : (some false) = some r := by rw [if_pos rfl] at H; exact H
        clear H
        have H := H1
        clear H1
        obtain rfl := Option.some.inj H
        go_wp2
        repeat (go_quiet (fail); try go_wp2)
        go_ret
        exact ⟨by first | rfl | (simp [errW_none, errW_some] <;> rfl) | (simp [*, errW_none, errW_some] <;> rfl), by repeat (first | (with_reducible first | exact HB.out | apply below_alloc | apply pw_below_drewN | apply below_drew1) | exact HB.out)⟩
      · replace c8 := Bool.eq_false_iff.mpr c8
        subst c8
        have H1 : (if 0 ≤ (l0.length : Int) then (if ((l0.length : Int) : Int).toNat ≤ 35184372088832 then (spec_JobsLegal.l0 kj2 l0 l1 (List.replicate ((l0.length : Int) : Int).toNat 0) 0) else (none)) else (none)) = some r := by rw [if_neg (show ¬ (false = true) by decide)] at H; exact H
        clear H
        have H := H1
        clear H1
        by_cases c9 : 0 ≤ (l0.length : Int)
        · rw [if_pos c9] at H
          have c9b0 := eq_true c9
          have c9b1 : decide (0 ≤ (l0.length : Int)) = true := decide_eq_true c9
          clear c9
          by_cases c10 : ((l0.length : Int) : Int).toNat ≤ 35184372088832
          · rw [if_pos c10] at H
            have c10b0 := eq_true c10
            have c10b1 : decide (((l0.length : Int) : Int).toNat ≤ 35184372088832) = true := decide_eq_true c10
            clear c10
            obtain ⟨y102, hy102⟩ : ∃ y_ : List Int, y_ = (List.replicate ((l0.length : Int) : Int).toNat 0) := ⟨_, rfl⟩
            replace H : (spec_JobsLegal.l0 kj2 l0 l1 y102 0) = some r := by first | (rw [hy102]; with_reducible exact H) | (have H2_ := (Option.bind_some _ _).symm.trans H; rw [hy102]; with_reducible exact H2_) | (have H2_ := (Option.bind_some _ _).symm.trans H; with_reducible exact H2_) | with_reducible exact H | (rw [hy102]; exact H) | exact H
            have Ny102 := Aside0.mk hy102
            clear hy102
            have H' := Aside0.mk H
            clear H
            go_wp2_with (first | ((with_reducible refine gate_dst (N := 19) rfl ?_); (try (refine gate_guard (by rfl) ?_; dsimp only)); refine Kd.R_make (Kd.int .i64) _ 3 rfl (N := 19) rfl 30 _ _ rfl (l0.length : Int) rfl rfl Try.underlying30 (.int .i64 0) 8 info3 rfl (by decide) (by omega) 0 (ok := fun _ => True) (okp := fun _ => True) rfl (fun _ hk => hk) trivial (of_decide_eq_true (by first | (with_reducible assumption) | assumption)) (Nat.le_trans (Nat.mul_le_mul_right _ (of_decide_eq_true (by first | (with_reducible assumption) | assumption) : (l0.length : Int).toNat ≤ 35184372088832)) (by omega)) (Below.refl _ _) (Nat.le_refl _) ?_; intro v103 w11 ho12 hb hg_ hnew_; clear hg_ hnew_; (first | rw [← Ny102.out] at ho12 | (simp only [Int.reduceToNat] at ho12; rw [← Ny102.out] at ho12)); have n0_ := Aside0.mk (Kd.R_lower ho12 (below_size (by repeat (first | (with_reducible first | exact HB.out | apply below_alloc | apply pw_below_drewN | apply below_drew1) | exact HB.out)))); have n1_ := Aside0.mk (below_step (by repeat (first | (with_reducible first | exact HB.out | apply below_alloc | apply pw_below_drewN | apply below_drew1) | exact HB.out)) hb); clear HB; have HO104 := n0_; have HB := n1_; clear n0_ n1_; clear hb ho12))
            repeat (go_quiet (first | ((with_reducible refine gate_dst (N := 19) rfl ?_); (try (refine gate_guard (by rfl) ?_; dsimp only)); refine Kd.R_make (Kd.int .i64) _ 3 rfl (N := 19) rfl 30 _ _ rfl (l0.length : Int) rfl rfl Try.underlying30 (.int .i64 0) 8 info3 rfl (by decide) (by omega) 0 (ok := fun _ => True) (okp := fun _ => True) rfl (fun _ hk => hk) trivial (of_decide_eq_true (by first | (with_reducible assumption) | assumption)) (Nat.le_trans (Nat.mul_le_mul_right _ (of_decide_eq_true (by first | (with_reducible assumption) | assumption) : (l0.length : Int).toNat ≤ 35184372088832)) (by omega)) (Below.refl _ _) (Nat.le_refl _) ?_; intro v103 w11 ho12 hb hg_ hnew_; clear hg_ hnew_; (first | rw [← Ny102.out] at ho12 | (simp only [Int.reduceToNat] at ho12; rw [← Ny102.out] at ho12)); have n0_ := Aside0.mk (Kd.R_lower ho12 (below_size (by repeat (first | (with_reducible first | exact HB.out | apply below_alloc | apply pw_below_drewN | apply below_drew1) | exact HB.out)))); have n1_ := Aside0.mk (below_step (by repeat (first | (with_reducible first | exact HB.out | apply below_alloc | apply pw_below_drewN | apply below_drew1) | exact HB.out)) hb); clear HB; have HO104 := n0_; have HB := n1_; clear n0_ n1_; clear hb ho12)); try go_wp2_with (first | ((with_reducible refine gate_dst (N := 19) rfl ?_); (try (refine gate_guard (by rfl) ?_; dsimp only)); refine Kd.R_make (Kd.int .i64) _ 3 rfl (N := 19) rfl 30 _ _ rfl (l0.length : Int) rfl rfl Try.underlying30 (.int .i64 0) 8 info3 rfl (by decide) (by omega) 0 (ok := fun _ => True) (okp := fun _ => True) rfl (fun _ hk => hk) trivial (of_decide_eq_true (by first | (with_reducible assumption) | assumption)) (Nat.le_trans (Nat.mul_le_mul_right _ (of_decide_eq_true (by first | (with_reducible assumption) | assumption) : (l0.length : Int).toNat ≤ 35184372088832)) (by omega)) (Below.refl _ _) (Nat.le_refl _) ?_; intro v103 w11 ho12 hb hg_ hnew_; clear hg_ hnew_; (first | rw [← Ny102.out] at ho12 | (simp only [Int.reduceToNat] at ho12; rw [← Ny102.out] at ho12)); have n0_ := Aside0.mk (Kd.R_lower ho12 (below_size (by repeat (first | (with_reducible first | exact HB.out | apply below_alloc | apply pw_below_drewN | apply below_drew1) | exact HB.out)))); have n1_ := Aside0.mk (below_step (by repeat (first | (with_reducible first | exact HB.out | apply below_alloc | apply pw_below_drewN | apply below_drew1) | exact HB.out)) hb); clear HB; have HO104 := n0_; have HB := n1_; clear n0_ n1_; clear hb ho12)))
            go_loopg [6] kj2 (fun kq v6 w' => ∃ (x5_2 : List Int) (x6_2 : Int), v6 = .int .i64 x6_2 ∧ Aside0 (spec_JobsLegal.l0 kq l0 l1 x5_2 x6_2 = some r) ∧ Aside0 (kq ≤ kj2) ∧ Aside0 (Kd.R (Kd.int .i64) 3 w' w.heap.size (fun _ => True) v103 x5_2) ∧ Aside0 (Below w.heap.size w w'))
            case atStart => exact ⟨(y102), (0), (by first | rfl | (simp; done) | (simp [*]; done) | (simp only [i64_w, i32_w]; done) | (simp [*, i64_w, i32_w]; done)), H', ⟨Nat.le_refl _⟩, ⟨by (with_reducible repeat (first | apply Kd.R_alloc | apply Kd.R_drewN | apply Kd.R_drew)); exact HO104.out⟩, ⟨by repeat (first | (with_reducible first | exact HB.out | apply below_alloc | apply pw_below_drewN | apply below_drew1) | exact HB.out)⟩⟩
            case round =>
              clear H'
              try clear c1
              try clear p2
              try clear c3
              try clear c5
              try clear c8
              try clear c9
              try clear c9b0
              try clear c9b1
              try clear c10
              try clear c10b0
              try clear c10b1
              try clear p2
              obtain ⟨x5_2, x6_2, rfl, HA, HK2, HO_5, HB⟩ := hrel
              cases gk with
              | zero => exact absurd HA.out (by simp [spec_JobsLegal.l0])
              | succ k2 =>
                have H := HA.out
                clear HA
                simp only [spec_JobsLegal.l0] at H
                by_cases c13 : x6_2 < (l1.length : Int)
                · rw [if_pos c13] at H
                  have c13b0 : decide (x6_2 < (l1.length : Int)) = true := decide_eq_true c13
                  clear c13
                  by_cases c14 : 0 ≤ x6_2
                  · rw [if_pos c14] at H
                    have c14b0 : decide (0 ≤ x6_2) = true := decide_eq_true c14
                    clear c14
                    have HC15 := Aside0.mk H
                    clear H
                    have p105 : 0 ≤ (x6_2 : Int) := of_decide_eq_true (by first | (with_reducible assumption) | assumption)
                    have q105 : x6_2 < (l1.length : Int) := of_decide_eq_true (by first | (with_reducible assumption) | assumption)
                    obtain ⟨ad105, e105, hx105_0, hx105_1, hx105_2, hx105_3⟩ := at_T67 HR1.out x6_2 p105 q105
                    cases e105
                    replace hx105_0 := (HB.out.cell (World.block_lt_of_cell? w _ hx105_0)).trans hx105_0
                    replace hx105_1 := (HB.out.cell (World.block_lt_of_cell? w _ hx105_1)).trans hx105_1
                    replace hx105_2 := (HB.out.cell (World.block_lt_of_cell? w _ hx105_2)).trans hx105_2
                    replace hx105_3 := (HB.out.cell (World.block_lt_of_cell? w _ hx105_3)).trans hx105_3
                    replace p105 := eq_true p105
                    replace q105 := eq_true q105
                    go_upto_region 8 with (first | ((with_reducible refine gate_dst (N := 7) rfl ?_); (try (refine gate_guard (by rfl) ?_; dsimp only)); refine box_event ?hg (N := 7) ?hd (cs := #[.int .i64 0, .int .i64 0, .int .i64 0, .int .i64 0]) (t := 67) ?hr ?_; (case hd => rfl); (case hg => rfl); (case hr => first | (go_simp; done) | (go_simp; rfl)); intro gb106 hg w16 hbox hb; have n0_ := Aside0.mk (Kd.R_below (by (with_reducible repeat (first | apply Kd.R_alloc | apply Kd.R_drewN | apply Kd.R_drew)); exact HO_5.out) hb); have n1_ := Aside0.mk (below_step (by repeat (first | (with_reducible first | exact HB.out | apply below_alloc | apply pw_below_drewN | apply below_drew1) | exact HB.out)) hb); have n2_ := Aside0.mk (hbox); have n3_ := Aside0.mk ((by rw [hg]; exact (below_size (by repeat (first | (with_reducible first | exact HB.out | apply below_alloc | apply pw_below_drewN | apply below_drew1) | exact HB.out))) : w.heap.size ≤ gb106)); have n4_ := Aside0.mk ((by rw [hg]; exact (below_size (by repeat (first | (with_reducible first | exact HB.out | apply below_alloc | apply pw_below_drewN | apply below_drew1) | exact HB.out))) : w.heap.size ≤ gb106)); clear HO_5; clear HB; have HO_5 := n0_; have HB := n1_; have BK106 := n2_; have GW106 := n3_; have GE106 := n4_; clear n0_ n1_ n2_ n3_ n4_; clear hb hbox hg; have hcz17_0 : w16.cell? ⟨gb106, 0, none⟩ = some (.int .i64 0) := (blk_cell BK106.out 0).trans rfl; have hcz17_1 : w16.cell? ⟨gb106, 1, none⟩ = some (.int .i64 0) := (blk_cell BK106.out 1).trans rfl; have hcz17_2 : w16.cell? ⟨gb106, 2, none⟩ = some (.int .i64 0) := (blk_cell BK106.out 2).trans rfl; have hcz17_3 : w16.cell? ⟨gb106, 3, none⟩ = some (.int .i64 0) := (blk_cell BK106.out 3).trans rfl; have hfz17_0 := blk_frozen BK106.out 0; have hfz17_1 := blk_frozen BK106.out 1; have hfz17_2 := blk_frozen BK106.out 2; have hfz17_3 := blk_frozen BK106.out 3))
                    repeat (go_quiet (first | ((with_reducible refine gate_dst (N := 7) rfl ?_); (try (refine gate_guard (by rfl) ?_; dsimp only)); refine box_event ?hg (N := 7) ?hd (cs := #[.int .i64 0, .int .i64 0, .int .i64 0, .int .i64 0]) (t := 67) ?hr ?_; (case hd => rfl); (case hg => rfl); (case hr => first | (go_simp; done) | (go_simp; rfl)); intro gb106 hg w16 hbox hb; have n0_ := Aside0.mk (Kd.R_below (by (with_reducible repeat (first | apply Kd.R_alloc | apply Kd.R_drewN | apply Kd.R_drew)); exact HO_5.out) hb); have n1_ := Aside0.mk (below_step (by repeat (first | (with_reducible first | exact HB.out | apply below_alloc | apply pw_below_drewN | apply below_drew1) | exact HB.out)) hb); have n2_ := Aside0.mk (hbox); have n3_ := Aside0.mk ((by rw [hg]; exact (below_size (by repeat (first | (with_reducible first | exact HB.out | apply below_alloc | apply pw_below_drewN | apply below_drew1) | exact HB.out))) : w.heap.size ≤ gb106)); have n4_ := Aside0.mk ((by rw [hg]; exact (below_size (by repeat (first | (with_reducible first | exact HB.out | apply below_alloc | apply pw_below_drewN | apply below_drew1) | exact HB.out))) : w.heap.size ≤ gb106)); clear HO_5; clear HB; have HO_5 := n0_; have HB := n1_; have BK106 := n2_; have GW106 := n3_; have GE106 := n4_; clear n0_ n1_ n2_ n3_ n4_; clear hb hbox hg; have hcz17_0 : w16.cell? ⟨gb106, 0, none⟩ = some (.int .i64 0) := (blk_cell BK106.out 0).trans rfl; have hcz17_1 : w16.cell? ⟨gb106, 1, none⟩ = some (.int .i64 0) := (blk_cell BK106.out 1).trans rfl; have hcz17_2 : w16.cell? ⟨gb106, 2, none⟩ = some (.int .i64 0) := (blk_cell BK106.out 2).trans rfl; have hcz17_3 : w16.cell? ⟨gb106, 3, none⟩ = some (.int .i64 0) := (blk_cell BK106.out 3).trans rfl; have hfz17_0 := blk_frozen BK106.out 0; have hfz17_1 := blk_frozen BK106.out 1; have hfz17_2 := blk_frozen BK106.out 2; have hfz17_3 := blk_frozen BK106.out 3)); go_upto_region 8 with (first | ((with_reducible refine gate_dst (N := 7) rfl ?_); (try (refine gate_guard (by rfl) ?_; dsimp only)); refine box_event ?hg (N := 7) ?hd (cs := #[.int .i64 0, .int .i64 0, .int .i64 0, .int .i64 0]) (t := 67) ?hr ?_; (case hd => rfl); (case hg => rfl); (case hr => first | (go_simp; done) | (go_simp; rfl)); intro gb106 hg w16 hbox hb; have n0_ := Aside0.mk (Kd.R_below (by (with_reducible repeat (first | apply Kd.R_alloc | apply Kd.R_drewN | apply Kd.R_drew)); exact HO_5.out) hb); have n1_ := Aside0.mk (below_step (by repeat (first | (with_reducible first | exact HB.out | apply below_alloc | apply pw_below_drewN | apply below_drew1) | exact HB.out)) hb); have n2_ := Aside0.mk (hbox); have n3_ := Aside0.mk ((by rw [hg]; exact (below_size (by repeat (first | (with_reducible first | exact HB.out | apply below_alloc | apply pw_below_drewN | apply below_drew1) | exact HB.out))) : w.heap.size ≤ gb106)); have n4_ := Aside0.mk ((by rw [hg]; exact (below_size (by repeat (first | (with_reducible first | exact HB.out | apply below_alloc | apply pw_below_drewN | apply below_drew1) | exact HB.out))) : w.heap.size ≤ gb106)); clear HO_5; clear HB; have HO_5 := n0_; have HB := n1_; have BK106 := n2_; have GW106 := n3_; have GE106 := n4_; clear n0_ n1_ n2_ n3_ n4_; clear hb hbox hg; have hcz17_0 : w16.cell? ⟨gb106, 0, none⟩ = some (.int .i64 0) := (blk_cell BK106.out 0).trans rfl; have hcz17_1 : w16.cell? ⟨gb106, 1, none⟩ = some (.int .i64 0) := (blk_cell BK106.out 1).trans rfl; have hcz17_2 : w16.cell? ⟨gb106, 2, none⟩ = some (.int .i64 0) := (blk_cell BK106.out 2).trans rfl; have hcz17_3 : w16.cell? ⟨gb106, 3, none⟩ = some (.int .i64 0) := (blk_cell BK106.out 3).trans rfl; have hfz17_0 := blk_frozen BK106.out 0; have hfz17_1 := blk_frozen BK106.out 1; have hfz17_2 := blk_frozen BK106.out 2; have hfz17_3 := blk_frozen BK106.out 3)))
                    (try simp only [Act.put, List.setIfInBounds_toArray, List.set_cons_zero, List.set_cons_succ])
                    go_cut [42] (fun v42 wc => ∃ (kq : Nat) (x42_14 : Bool), v42 = .bool x42_14 ∧ Aside0 (spec_JobsLegal.j2 kq l0 l1 x5_2 x6_2 x42_14 ((rd_T67 l1 x6_2).f0) ((rd_T67 l1 x6_2).f1) ((rd_T67 l1 x6_2).f2) ((rd_T67 l1 x6_2).f3) = some r) ∧ Aside0 (kq ≤ k2) ∧ Aside0 (Kd.R (Kd.int .i64) 3 wc w.heap.size (fun _ => True) v103 x5_2) ∧ Aside0 (wc.heap[gb106]? = some (.cells #[.int .i64 ((rd_T67 l1 x6_2).f0), .int .i64 ((rd_T67 l1 x6_2).f1), .int .i64 ((rd_T67 l1 x6_2).f2), .int .i64 ((rd_T67 l1 x6_2).f3)] 67 (0, 0))) ∧ Aside0 (Below w.heap.size w wc))
                    case first =>
                      have H := HC15.out
                      clear HC15
                      replace H := Option.bind_eq_some_iff.mp H
                      obtain ⟨t107, A180, H⟩ := H
                      replace H : (if t107 = true then ((spec_l1In.f ((rd_T67 l1 x6_2).f1) 0 119).bind fun t108 => (spec_JobsLegal.j2 k2 l0 l1 x5_2 x6_2 (!t108) ((rd_T67 l1 x6_2).f0) ((rd_T67 l1 x6_2).f1) ((rd_T67 l1 x6_2).f2) ((rd_T67 l1 x6_2).f3))) else (spec_JobsLegal.j2 k2 l0 l1 x5_2 x6_2 true ((rd_T67 l1 x6_2).f0) ((rd_T67 l1 x6_2).f1) ((rd_T67 l1 x6_2).f2) ((rd_T67 l1 x6_2).f3))) = some r := H
                      have A18 := Aside0.mk A180
                      clear A180
                      by_cases c19 : t107 = true
                      · subst c19
                        have H1 : ((spec_l1In.f ((rd_T67 l1 x6_2).f1) 0 119).bind fun t108 => (spec_JobsLegal.j2 k2 l0 l1 x5_2 x6_2 (!t108) ((rd_T67 l1 x6_2).f0) ((rd_T67 l1 x6_2).f1) ((rd_T67 l1 x6_2).f2) ((rd_T67 l1 x6_2).f3))) = some r := by rw [if_pos rfl] at H; exact H
                        clear H
                        have H := H1
                        clear H1
                        replace H := Option.bind_eq_some_iff.mp H
                        obtain ⟨t108, A200, H⟩ := H
                        replace H : (spec_JobsLegal.j2 k2 l0 l1 x5_2 x6_2 (!t108) ((rd_T67 l1 x6_2).f0) ((rd_T67 l1 x6_2).f1) ((rd_T67 l1 x6_2).f2) ((rd_T67 l1 x6_2).f3)) = some r := H
                        have A20 := Aside0.mk A200
                        clear A200
                        have H' := Aside0.mk H
                        clear H
                        have hcz21_0 : w16.cell? ⟨gb106, 0, none⟩ = some (.int .i64 0) := (blk_cell BK106.out 0).trans rfl
                        have hcz21_1 : w16.cell? ⟨gb106, 1, none⟩ = some (.int .i64 0) := (blk_cell BK106.out 1).trans rfl
                        have hcz21_2 : w16.cell? ⟨gb106, 2, none⟩ = some (.int .i64 0) := (blk_cell BK106.out 2).trans rfl
                        have hcz21_3 : w16.cell? ⟨gb106, 3, none⟩ = some (.int .i64 0) := (blk_cell BK106.out 3).trans rfl
                        have hfz21_0 := blk_frozen BK106.out 0
                        have hfz21_1 := blk_frozen BK106.out 1
                        have hfz21_2 := blk_frozen BK106.out 2
                        have hfz21_3 := blk_frozen BK106.out 3
                        go_wp2_with (first | (go_at_call 96; (with_reducible refine (spec_l1In.calls ((rd_T67 l1 x6_2).f0) 0 (wrap64 ((l0.length : Int) - 1)) true _ A18.out).mono ?_); rintro e w' ⟨rfl, ⟨nd, rfl⟩⟩; (try first | exact ⟨rfl, _, World.drewN_drewN _ _ _⟩ | exact ⟨rfl, _, Eq.trans (World.drewN_drewN _ _ _) (congrArg (World.drewN _) (Nat.add_assoc _ _ _))⟩)) | (go_at_call 96; (with_reducible refine (spec_l1In.calls ((rd_T67 l1 x6_2).f1) 0 119 t108 _ A20.out).mono ?_); rintro e w' ⟨rfl, ⟨nd, rfl⟩⟩; (try first | exact ⟨rfl, _, World.drewN_drewN _ _ _⟩ | exact ⟨rfl, _, Eq.trans (World.drewN_drewN _ _ _) (congrArg (World.drewN _) (Nat.add_assoc _ _ _))⟩)))
                        repeat (go_quiet (first | (go_at_call 96; (first | (with_reducible refine (spec_l1In.calls ((rd_T67 l1 x6_2).f0) 0 (wrap64 ((l0.length : Int) - 1)) true _ A18.out).mono ?_) | (simp only [i64_w]; with_reducible refine (spec_l1In.calls ((rd_T67 l1 x6_2).f0) 0 (wrap64 ((l0.length : Int) - 1)) true _ A18.out).mono ?_)); rintro e w' ⟨rfl, ⟨nd, rfl⟩⟩; (try first | exact ⟨rfl, _, World.drewN_drewN _ _ _⟩ | exact ⟨rfl, _, Eq.trans (World.drewN_drewN _ _ _) (congrArg (World.drewN _) (Nat.add_assoc _ _ _))⟩)) | (go_at_call 96; (with_reducible refine (spec_l1In.calls ((rd_T67 l1 x6_2).f1) 0 119 t108 _ A20.out).mono ?_); rintro e w' ⟨rfl, ⟨nd, rfl⟩⟩; (try first | exact ⟨rfl, _, World.drewN_drewN _ _ _⟩ | exact ⟨rfl, _, Eq.trans (World.drewN_drewN _ _ _) (congrArg (World.drewN _) (Nat.add_assoc _ _ _))⟩))); try go_wp2_with (first | (go_at_call 96; (first | (with_reducible refine (spec_l1In.calls ((rd_T67 l1 x6_2).f0) 0 (wrap64 ((l0.length : Int) - 1)) true _ A18.out).mono ?_) | (simp only [i64_w]; with_reducible refine (spec_l1In.calls ((rd_T67 l1 x6_2).f0) 0 (wrap64 ((l0.length : Int) - 1)) true _ A18.out).mono ?_)); rintro e w' ⟨rfl, ⟨nd, rfl⟩⟩; (try first | exact ⟨rfl, _, World.drewN_drewN _ _ _⟩ | exact ⟨rfl, _, Eq.trans (World.drewN_drewN _ _ _) (congrArg (World.drewN _) (Nat.add_assoc _ _ _))⟩)) | (go_at_call 96; (with_reducible refine (spec_l1In.calls ((rd_T67 l1 x6_2).f1) 0 119 t108 _ A20.out).mono ?_); rintro e w' ⟨rfl, ⟨nd, rfl⟩⟩; (try first | exact ⟨rfl, _, World.drewN_drewN _ _ _⟩ | exact ⟨rfl, _, Eq.trans (World.drewN_drewN _ _ _) (congrArg (World.drewN _) (Nat.add_assoc _ _ _))⟩))))
                        go_meet
                        case rel => exact ⟨_, (!t108), (by first | rfl | (simp; done) | (simp [*]; done) | (simp only [i64_w, i32_w]; done) | (simp [*, i64_w, i32_w]; done)), H', ⟨by have := HJ2.out; have := HK2.out; first | omega | exact Nat.le_refl _⟩, ⟨by (with_reducible repeat (first | apply Kd.R_alloc | apply Kd.R_drewN | apply Kd.R_drew)); exact Kd.R_mono (Kd.R_far (p := ⟨gb106, 3, none⟩) (Kd.R_far (p := ⟨gb106, 2, none⟩) (Kd.R_far (p := ⟨gb106, 1, none⟩) (Kd.R_far (p := ⟨gb106, 0, none⟩) (Kd.R_types HO_5.out BK106.out (by decide)) (fun _ hk => hk.2) (.int .i64 ((rd_T67 l1 x6_2).f0))) (fun _ hk => hk.2) (.int .i64 ((rd_T67 l1 x6_2).f1))) (fun _ hk => hk.2) (.int .i64 ((rd_T67 l1 x6_2).f2))) (fun _ hk => hk.2) (.int .i64 ((rd_T67 l1 x6_2).f3))) (fun _ hk => trivial)⟩, ⟨by (with_reducible repeat (first | refine blk_drewN ?_ _ | refine blk_drew ?_ | refine blk_alloc ?_ _)); refine blk_put (cs := #[.int .i64 ((rd_T67 l1 x6_2).f0), .int .i64 ((rd_T67 l1 x6_2).f1), .int .i64 ((rd_T67 l1 x6_2).f2), .int .i64 0]) ?_ 3 _ rfl; (with_reducible repeat (first | refine blk_drewN ?_ _ | refine blk_drew ?_ | refine blk_alloc ?_ _)); refine blk_put (cs := #[.int .i64 ((rd_T67 l1 x6_2).f0), .int .i64 ((rd_T67 l1 x6_2).f1), .int .i64 0, .int .i64 0]) ?_ 2 _ rfl; (with_reducible repeat (first | refine blk_drewN ?_ _ | refine blk_drew ?_ | refine blk_alloc ?_ _)); refine blk_put (cs := #[.int .i64 ((rd_T67 l1 x6_2).f0), .int .i64 0, .int .i64 0, .int .i64 0]) ?_ 1 _ rfl; (with_reducible repeat (first | refine blk_drewN ?_ _ | refine blk_drew ?_ | refine blk_alloc ?_ _)); refine blk_put (cs := #[.int .i64 0, .int .i64 0, .int .i64 0, .int .i64 0]) ?_ 0 _ rfl; (with_reducible repeat (first | refine blk_drewN ?_ _ | refine blk_drew ?_ | refine blk_alloc ?_ _)); exact BK106.out⟩, ⟨by repeat (first | (with_reducible first | exact HB.out | apply below_alloc | apply pw_below_drewN | apply below_drew1 | refine below_set ?_ GE106.out) | exact HB.out)⟩⟩
                      · replace c19 := Bool.eq_false_iff.mpr c19
                        subst c19
                        have H1 : (spec_JobsLegal.j2 k2 l0 l1 x5_2 x6_2 true ((rd_T67 l1 x6_2).f0) ((rd_T67 l1 x6_2).f1) ((rd_T67 l1 x6_2).f2) ((rd_T67 l1 x6_2).f3)) = some r := by rw [if_neg (show ¬ (false = true) by decide)] at H; exact H
                        clear H
                        have H := H1
                        clear H1
                        have H' := Aside0.mk H
                        clear H
                        have hcz22_0 : w16.cell? ⟨gb106, 0, none⟩ = some (.int .i64 0) := (blk_cell BK106.out 0).trans rfl
                        have hcz22_1 : w16.cell? ⟨gb106, 1, none⟩ = some (.int .i64 0) := (blk_cell BK106.out 1).trans rfl
                        have hcz22_2 : w16.cell? ⟨gb106, 2, none⟩ = some (.int .i64 0) := (blk_cell BK106.out 2).trans rfl
                        have hcz22_3 : w16.cell? ⟨gb106, 3, none⟩ = some (.int .i64 0) := (blk_cell BK106.out 3).trans rfl
                        have hfz22_0 := blk_frozen BK106.out 0
                        have hfz22_1 := blk_frozen BK106.out 1
                        have hfz22_2 := blk_frozen BK106.out 2
                        have hfz22_3 := blk_frozen BK106.out 3
                        go_wp2_with (first | (go_at_call 96; (with_reducible refine (spec_l1In.calls ((rd_T67 l1 x6_2).f0) 0 (wrap64 ((l0.length : Int) - 1)) false _ A18.out).mono ?_); rintro e w' ⟨rfl, ⟨nd, rfl⟩⟩; (try first | exact ⟨rfl, _, World.drewN_drewN _ _ _⟩ | exact ⟨rfl, _, Eq.trans (World.drewN_drewN _ _ _) (congrArg (World.drewN _) (Nat.add_assoc _ _ _))⟩)))
                        repeat (go_quiet (first | (go_at_call 96; (first | (with_reducible refine (spec_l1In.calls ((rd_T67 l1 x6_2).f0) 0 (wrap64 ((l0.length : Int) - 1)) false _ A18.out).mono ?_) | (simp only [i64_w]; with_reducible refine (spec_l1In.calls ((rd_T67 l1 x6_2).f0) 0 (wrap64 ((l0.length : Int) - 1)) false _ A18.out).mono ?_)); rintro e w' ⟨rfl, ⟨nd, rfl⟩⟩; (try first | exact ⟨rfl, _, World.drewN_drewN _ _ _⟩ | exact ⟨rfl, _, Eq.trans (World.drewN_drewN _ _ _) (congrArg (World.drewN _) (Nat.add_assoc _ _ _))⟩))); try go_wp2_with (first | (go_at_call 96; (first | (with_reducible refine (spec_l1In.calls ((rd_T67 l1 x6_2).f0) 0 (wrap64 ((l0.length : Int) - 1)) false _ A18.out).mono ?_) | (simp only [i64_w]; with_reducible refine (spec_l1In.calls ((rd_T67 l1 x6_2).f0) 0 (wrap64 ((l0.length : Int) - 1)) false _ A18.out).mono ?_)); rintro e w' ⟨rfl, ⟨nd, rfl⟩⟩; (try first | exact ⟨rfl, _, World.drewN_drewN _ _ _⟩ | exact ⟨rfl, _, Eq.trans (World.drewN_drewN _ _ _) (congrArg (World.drewN _) (Nat.add_assoc _ _ _))⟩))))
                        go_meet
                        case rel => exact ⟨_, (true), (by first | rfl | (simp; done) | (simp [*]; done) | (simp only [i64_w, i32_w]; done) | (simp [*, i64_w, i32_w]; done)), H', ⟨by have := HJ2.out; have := HK2.out; first | omega | exact Nat.le_refl _⟩, ⟨by (with_reducible repeat (first | apply Kd.R_alloc | apply Kd.R_drewN | apply Kd.R_drew)); exact Kd.R_mono (Kd.R_far (p := ⟨gb106, 3, none⟩) (Kd.R_far (p := ⟨gb106, 2, none⟩) (Kd.R_far (p := ⟨gb106, 1, none⟩) (Kd.R_far (p := ⟨gb106, 0, none⟩) (Kd.R_types HO_5.out BK106.out (by decide)) (fun _ hk => hk.2) (.int .i64 ((rd_T67 l1 x6_2).f0))) (fun _ hk => hk.2) (.int .i64 ((rd_T67 l1 x6_2).f1))) (fun _ hk => hk.2) (.int .i64 ((rd_T67 l1 x6_2).f2))) (fun _ hk => hk.2) (.int .i64 ((rd_T67 l1 x6_2).f3))) (fun _ hk => trivial)⟩, ⟨by (with_reducible repeat (first | refine blk_drewN ?_ _ | refine blk_drew ?_ | refine blk_alloc ?_ _)); refine blk_put (cs := #[.int .i64 ((rd_T67 l1 x6_2).f0), .int .i64 ((rd_T67 l1 x6_2).f1), .int .i64 ((rd_T67 l1 x6_2).f2), .int .i64 0]) ?_ 3 _ rfl; (with_reducible repeat (first | refine blk_drewN ?_ _ | refine blk_drew ?_ | refine blk_alloc ?_ _)); refine blk_put (cs := #[.int .i64 ((rd_T67 l1 x6_2).f0), .int .i64 ((rd_T67 l1 x6_2).f1), .int .i64 0, .int .i64 0]) ?_ 2 _ rfl; (with_reducible repeat (first | refine blk_drewN ?_ _ | refine blk_drew ?_ | refine blk_alloc ?_ _)); refine blk_put (cs := #[.int .i64 ((rd_T67 l1 x6_2).f0), .int .i64 0, .int .i64 0, .int .i64 0]) ?_ 1 _ rfl; (with_reducible repeat (first | refine blk_drewN ?_ _ | refine blk_drew ?_ | refine blk_alloc ?_ _)); refine blk_put (cs := #[.int .i64 0, .int .i64 0, .int .i64 0, .int .i64 0]) ?_ 0 _ rfl; (with_reducible repeat (first | refine blk_drewN ?_ _ | refine blk_drew ?_ | refine blk_alloc ?_ _)); exact BK106.out⟩, ⟨by repeat (first | (with_reducible first | exact HB.out | apply below_alloc | apply pw_below_drewN | apply below_drew1 | refine below_set ?_ GE106.out) | exact HB.out)⟩⟩
                    case rest =>
                      clear HC15
                      try clear c1
                      try clear p1
                      try clear q1
                      try clear hx1
                      try clear p2
                      try clear c3
                      try clear c5
                      try clear p6
                      try clear c8
                      try clear c9
                      try clear c9b0
                      try clear c9b1
                      try clear c10
                      try clear c10b0
                      try clear c10b1
                      try clear p10
                      try clear q10
                      try clear hx10
                      try clear c13
                      try clear c13b0
                      try clear c14
                      try clear c14b0
                      try clear c19
                      try clear hcz17_0
                      try clear hcz17_1
                      try clear hcz17_2
                      try clear hcz17_3
                      try clear hcz21_0
                      try clear hcz21_1
                      try clear hcz21_2
                      try clear hcz21_3
                      try clear hcz22_0
                      try clear hcz22_1
                      try clear hcz22_2
                      try clear hcz22_3
                      try clear hfz17_0
                      try clear hfz17_1
                      try clear hfz17_2
                      try clear hfz17_3
                      try clear hfz21_0
                      try clear hfz21_1
                      try clear hfz21_2
                      try clear hfz21_3
                      try clear hfz22_0
                      try clear hfz22_1
                      try clear hfz22_2
                      try clear hfz22_3
                      try clear hx105_0
                      try clear hx105_1
                      try clear hx105_2
                      try clear hx105_3
                      try clear p105
                      try clear p2
                      try clear q105
                      obtain ⟨kq, x42_14, rfl, HA, HJ14, HO_5, BK106, HB⟩ := hcut
                      cases kq with
                      | zero => exact absurd HA.out (by simp [spec_JobsLegal.j2])
                      | succ kj14 =>
                        have H := HA.out
                        clear HA
                        simp only [spec_JobsLegal.j2] at H
                        by_cases c23 : x42_14 = true
                        · subst c23
                          have H1 : (some false) = some r := by rw [if_pos rfl] at H; exact H
                          clear H
                          have H := H1
                          clear H1
                          obtain rfl := Option.some.inj H
                          go_wp2
                          repeat (go_quiet (fail); try go_wp2)
                          go_ret
                          exact ⟨by first | rfl | (simp [errW_none, errW_some] <;> rfl) | (simp [*, errW_none, errW_some] <;> rfl), by repeat (first | (with_reducible first | exact HB.out | apply below_alloc | apply pw_below_drewN | apply below_drew1 | refine below_set ?_ GE106.out) | exact HB.out)⟩
                        · replace c23 := Bool.eq_false_iff.mpr c23
                          subst c23
                          have H1 : (if 0 ≤ ((rd_T67 l1 x6_2).f0) then (if ((rd_T67 l1 x6_2).f0) < (l0.length : Int) then (if ((rd_T67 l1 x6_2).f0) < (x5_2.length : Int) then (if ((rd_T67 l1 x6_2).f1) < (rd x5_2 ((rd_T67 l1 x6_2).f0)) then (spec_JobsLegal.j3 kj14 l0 l1 x5_2 x6_2 true ((rd_T67 l1 x6_2).f0) ((rd_T67 l1 x6_2).f1) ((rd_T67 l1 x6_2).f2) ((rd_T67 l1 x6_2).f3) ((rd_T62 l0 ((rd_T67 l1 x6_2).f0)).f0) ((rd_T62 l0 ((rd_T67 l1 x6_2).f0)).f1) ((rd_T62 l0 ((rd_T67 l1 x6_2).f0)).f2)) else (if ((rd_T67 l1 x6_2).f2) = (wrap64 (((rd_T67 l1 x6_2).f1) + ((rd_T62 l0 ((rd_T67 l1 x6_2).f0)).f1))) then ((spec_l1In.f ((rd_T67 l1 x6_2).f3) 1 ((rd_T62 l0 ((rd_T67 l1 x6_2).f0)).f0)).bind fun t112 => (spec_JobsLegal.j3 kj14 l0 l1 x5_2 x6_2 (!t112) ((rd_T67 l1 x6_2).f0) ((rd_T67 l1 x6_2).f1) ((rd_T67 l1 x6_2).f2) ((rd_T67 l1 x6_2).f3) ((rd_T62 l0 ((rd_T67 l1 x6_2).f0)).f0) ((rd_T62 l0 ((rd_T67 l1 x6_2).f0)).f1) ((rd_T62 l0 ((rd_T67 l1 x6_2).f0)).f2))) else (spec_JobsLegal.j3 kj14 l0 l1 x5_2 x6_2 true ((rd_T67 l1 x6_2).f0) ((rd_T67 l1 x6_2).f1) ((rd_T67 l1 x6_2).f2) ((rd_T67 l1 x6_2).f3) ((rd_T62 l0 ((rd_T67 l1 x6_2).f0)).f0) ((rd_T62 l0 ((rd_T67 l1 x6_2).f0)).f1) ((rd_T62 l0 ((rd_T67 l1 x6_2).f0)).f2)))) else (none)) else (none)) else (none)) = some r := by rw [if_neg (show ¬ (false = true) by decide)] at H; exact H
                          clear H
                          have H := H1
                          clear H1
                          by_cases c24 : 0 ≤ ((rd_T67 l1 x6_2).f0)
                          · rw [if_pos c24] at H
                            have c24b0 : decide (0 ≤ ((rd_T67 l1 x6_2).f0)) = true := decide_eq_true c24
                            clear c24
                            by_cases c25 : ((rd_T67 l1 x6_2).f0) < (l0.length : Int)
                            · rw [if_pos c25] at H
                              have c25b0 : decide (((rd_T67 l1 x6_2).f0) < (l0.length : Int)) = true := decide_eq_true c25
                              clear c25
                              have HC26 := Aside0.mk H
                              clear H
                              have hcz27_0 : wc.cell? ⟨gb106, 0, none⟩ = some (.int .i64 ((rd_T67 l1 x6_2).f0)) := (blk_cell BK106.out 0).trans rfl
                              have hcz27_1 : wc.cell? ⟨gb106, 1, none⟩ = some (.int .i64 ((rd_T67 l1 x6_2).f1)) := (blk_cell BK106.out 1).trans rfl
                              have hcz27_2 : wc.cell? ⟨gb106, 2, none⟩ = some (.int .i64 ((rd_T67 l1 x6_2).f2)) := (blk_cell BK106.out 2).trans rfl
                              have hcz27_3 : wc.cell? ⟨gb106, 3, none⟩ = some (.int .i64 ((rd_T67 l1 x6_2).f3)) := (blk_cell BK106.out 3).trans rfl
                              have hfz27_0 := blk_frozen BK106.out 0
                              have hfz27_1 := blk_frozen BK106.out 1
                              have hfz27_2 := blk_frozen BK106.out 2
                              have hfz27_3 := blk_frozen BK106.out 3
                              have p109 : 0 ≤ (((rd_T67 l1 x6_2).f0) : Int) := of_decide_eq_true (by first | (with_reducible assumption) | assumption)
                              have q109 : ((rd_T67 l1 x6_2).f0) < (l0.length : Int) := of_decide_eq_true (by first | (with_reducible assumption) | assumption)
                              obtain ⟨ad109, e109, hx109_0, hx109_1, hx109_2⟩ := at_T62 HR0.out ((rd_T67 l1 x6_2).f0) p109 q109
                              cases e109
                              replace hx109_0 := (HB.out.cell (World.block_lt_of_cell? w _ hx109_0)).trans hx109_0
                              replace hx109_1 := (HB.out.cell (World.block_lt_of_cell? w _ hx109_1)).trans hx109_1
                              replace hx109_2 := (HB.out.cell (World.block_lt_of_cell? w _ hx109_2)).trans hx109_2
                              replace p109 := eq_true p109
                              replace q109 := eq_true q109
                              go_upto_region 11 with (first | ((with_reducible refine gate_dst (N := 8) rfl ?_); (try (refine gate_guard (by rfl) ?_; dsimp only)); refine box_event ?hg (N := 8) ?hd (cs := #[.int .i64 0, .int .i64 0, .int .i64 0]) (t := 62) ?hr ?_; (case hd => rfl); (case hg => rfl); (case hr => first | (go_simp; done) | (go_simp; rfl)); intro gb110 hg w28 hbox hb; have n0_ := Aside0.mk (Kd.R_below (by (with_reducible repeat (first | apply Kd.R_alloc | apply Kd.R_drewN | apply Kd.R_drew)); exact HO_5.out) hb); have n1_ := Aside0.mk (blk_below (g := gb106) (o := .cells #[.int .i64 ((rd_T67 l1 x6_2).f0), .int .i64 ((rd_T67 l1 x6_2).f1), .int .i64 ((rd_T67 l1 x6_2).f2), .int .i64 ((rd_T67 l1 x6_2).f3)] 67 (0, 0)) (by (with_reducible repeat (first | refine blk_drewN ?_ _ | refine blk_drew ?_ | refine blk_alloc ?_ _)); exact BK106.out) hb); have n2_ := Aside0.mk (below_step (by repeat (first | (with_reducible first | exact HB.out | apply below_alloc | apply pw_below_drewN | apply below_drew1 | refine below_set ?_ GE106.out) | exact HB.out)) hb); have n3_ := Aside0.mk (hbox); have n4_ := Aside0.mk ((by rw [hg]; exact (below_size (by repeat (first | (with_reducible first | exact HB.out | apply below_alloc | apply pw_below_drewN | apply below_drew1 | refine below_set ?_ GE106.out) | exact HB.out))) : w.heap.size ≤ gb110)); have n5_ := Aside0.mk ((by rw [hg]; exact (below_size (by repeat (first | (with_reducible first | exact HB.out | apply below_alloc | apply pw_below_drewN | apply below_drew1 | refine below_set ?_ GE106.out) | exact HB.out))) : w.heap.size ≤ gb110)); have n6_ := Aside0.mk ((by rw [hg]; exact Nat.ne_of_lt (blk_lt (g := gb106) (o := .cells #[.int .i64 ((rd_T67 l1 x6_2).f0), .int .i64 ((rd_T67 l1 x6_2).f1), .int .i64 ((rd_T67 l1 x6_2).f2), .int .i64 ((rd_T67 l1 x6_2).f3)] 67 (0, 0)) (by (with_reducible repeat (first | refine blk_drewN ?_ _ | refine blk_drew ?_ | refine blk_alloc ?_ _)); exact BK106.out)) : gb106 ≠ gb110)); have n7_ := Aside0.mk ((by rw [hg]; exact Nat.ne_of_gt (blk_lt (g := gb106) (o := .cells #[.int .i64 ((rd_T67 l1 x6_2).f0), .int .i64 ((rd_T67 l1 x6_2).f1), .int .i64 ((rd_T67 l1 x6_2).f2), .int .i64 ((rd_T67 l1 x6_2).f3)] 67 (0, 0)) (by (with_reducible repeat (first | refine blk_drewN ?_ _ | refine blk_drew ?_ | refine blk_alloc ?_ _)); exact BK106.out)) : gb110 ≠ gb106)); clear HO_5; clear BK106; clear HB; have HO_5 := n0_; have BK106 := n1_; have HB := n2_; have BK110 := n3_; have GW110 := n4_; have GE110 := n5_; have NB106_110 := n6_; have NB110_106 := n7_; clear n0_ n1_ n2_ n3_ n4_ n5_ n6_ n7_; clear hb hbox hg; have hnb29 := NB110_106.out; have hnc29 := NB106_110.out; have hcz30_0 : w28.cell? ⟨gb110, 0, none⟩ = some (.int .i64 0) := (blk_cell BK110.out 0).trans rfl; have hcz30_1 : w28.cell? ⟨gb110, 1, none⟩ = some (.int .i64 0) := (blk_cell BK110.out 1).trans rfl; have hcz30_2 : w28.cell? ⟨gb110, 2, none⟩ = some (.int .i64 0) := (blk_cell BK110.out 2).trans rfl; have hfz30_0 := blk_frozen BK110.out 0; have hfz30_1 := blk_frozen BK110.out 1; have hfz30_2 := blk_frozen BK110.out 2))
                              repeat (go_quiet (first | ((with_reducible refine gate_dst (N := 8) rfl ?_); (try (refine gate_guard (by rfl) ?_; dsimp only)); refine box_event ?hg (N := 8) ?hd (cs := #[.int .i64 0, .int .i64 0, .int .i64 0]) (t := 62) ?hr ?_; (case hd => rfl); (case hg => rfl); (case hr => first | (go_simp; done) | (go_simp; rfl)); intro gb110 hg w28 hbox hb; have n0_ := Aside0.mk (Kd.R_below (by (with_reducible repeat (first | apply Kd.R_alloc | apply Kd.R_drewN | apply Kd.R_drew)); exact HO_5.out) hb); have n1_ := Aside0.mk (blk_below (g := gb106) (o := .cells #[.int .i64 ((rd_T67 l1 x6_2).f0), .int .i64 ((rd_T67 l1 x6_2).f1), .int .i64 ((rd_T67 l1 x6_2).f2), .int .i64 ((rd_T67 l1 x6_2).f3)] 67 (0, 0)) (by (with_reducible repeat (first | refine blk_drewN ?_ _ | refine blk_drew ?_ | refine blk_alloc ?_ _)); exact BK106.out) hb); have n2_ := Aside0.mk (below_step (by repeat (first | (with_reducible first | exact HB.out | apply below_alloc | apply pw_below_drewN | apply below_drew1 | refine below_set ?_ GE106.out) | exact HB.out)) hb); have n3_ := Aside0.mk (hbox); have n4_ := Aside0.mk ((by rw [hg]; exact (below_size (by repeat (first | (with_reducible first | exact HB.out | apply below_alloc | apply pw_below_drewN | apply below_drew1 | refine below_set ?_ GE106.out) | exact HB.out))) : w.heap.size ≤ gb110)); have n5_ := Aside0.mk ((by rw [hg]; exact (below_size (by repeat (first | (with_reducible first | exact HB.out | apply below_alloc | apply pw_below_drewN | apply below_drew1 | refine below_set ?_ GE106.out) | exact HB.out))) : w.heap.size ≤ gb110)); have n6_ := Aside0.mk ((by rw [hg]; exact Nat.ne_of_lt (blk_lt (g := gb106) (o := .cells #[.int .i64 ((rd_T67 l1 x6_2).f0), .int .i64 ((rd_T67 l1 x6_2).f1), .int .i64 ((rd_T67 l1 x6_2).f2), .int .i64 ((rd_T67 l1 x6_2).f3)] 67 (0, 0)) (by (with_reducible repeat (first | refine blk_drewN ?_ _ | refine blk_drew ?_ | refine blk_alloc ?_ _)); exact BK106.out)) : gb106 ≠ gb110)); have n7_ := Aside0.mk ((by rw [hg]; exact Nat.ne_of_gt (blk_lt (g := gb106) (o := .cells #[.int .i64 ((rd_T67 l1 x6_2).f0), .int .i64 ((rd_T67 l1 x6_2).f1), .int .i64 ((rd_T67 l1 x6_2).f2), .int .i64 ((rd_T67 l1 x6_2).f3)] 67 (0, 0)) (by (with_reducible repeat (first | refine blk_drewN ?_ _ | refine blk_drew ?_ | refine blk_alloc ?_ _)); exact BK106.out)) : gb110 ≠ gb106)); clear HO_5; clear BK106; clear HB; have HO_5 := n0_; have BK106 := n1_; have HB := n2_; have BK110 := n3_; have GW110 := n4_; have GE110 := n5_; have NB106_110 := n6_; have NB110_106 := n7_; clear n0_ n1_ n2_ n3_ n4_ n5_ n6_ n7_; clear hb hbox hg; have hnb29 := NB110_106.out; have hnc29 := NB106_110.out; have hcz30_0 : w28.cell? ⟨gb110, 0, none⟩ = some (.int .i64 0) := (blk_cell BK110.out 0).trans rfl; have hcz30_1 : w28.cell? ⟨gb110, 1, none⟩ = some (.int .i64 0) := (blk_cell BK110.out 1).trans rfl; have hcz30_2 : w28.cell? ⟨gb110, 2, none⟩ = some (.int .i64 0) := (blk_cell BK110.out 2).trans rfl; have hfz30_0 := blk_frozen BK110.out 0; have hfz30_1 := blk_frozen BK110.out 1; have hfz30_2 := blk_frozen BK110.out 2)); go_upto_region 11 with (first | ((with_reducible refine gate_dst (N := 8) rfl ?_); (try (refine gate_guard (by rfl) ?_; dsimp only)); refine box_event ?hg (N := 8) ?hd (cs := #[.int .i64 0, .int .i64 0, .int .i64 0]) (t := 62) ?hr ?_; (case hd => rfl); (case hg => rfl); (case hr => first | (go_simp; done) | (go_simp; rfl)); intro gb110 hg w28 hbox hb; have n0_ := Aside0.mk (Kd.R_below (by (with_reducible repeat (first | apply Kd.R_alloc | apply Kd.R_drewN | apply Kd.R_drew)); exact HO_5.out) hb); have n1_ := Aside0.mk (blk_below (g := gb106) (o := .cells #[.int .i64 ((rd_T67 l1 x6_2).f0), .int .i64 ((rd_T67 l1 x6_2).f1), .int .i64 ((rd_T67 l1 x6_2).f2), .int .i64 ((rd_T67 l1 x6_2).f3)] 67 (0, 0)) (by (with_reducible repeat (first | refine blk_drewN ?_ _ | refine blk_drew ?_ | refine blk_alloc ?_ _)); exact BK106.out) hb); have n2_ := Aside0.mk (below_step (by repeat (first | (with_reducible first | exact HB.out | apply below_alloc | apply pw_below_drewN | apply below_drew1 | refine below_set ?_ GE106.out) | exact HB.out)) hb); have n3_ := Aside0.mk (hbox); have n4_ := Aside0.mk ((by rw [hg]; exact (below_size (by repeat (first | (with_reducible first | exact HB.out | apply below_alloc | apply pw_below_drewN | apply below_drew1 | refine below_set ?_ GE106.out) | exact HB.out))) : w.heap.size ≤ gb110)); have n5_ := Aside0.mk ((by rw [hg]; exact (below_size (by repeat (first | (with_reducible first | exact HB.out | apply below_alloc | apply pw_below_drewN | apply below_drew1 | refine below_set ?_ GE106.out) | exact HB.out))) : w.heap.size ≤ gb110)); have n6_ := Aside0.mk ((by rw [hg]; exact Nat.ne_of_lt (blk_lt (g := gb106) (o := .cells #[.int .i64 ((rd_T67 l1 x6_2).f0), .int .i64 ((rd_T67 l1 x6_2).f1), .int .i64 ((rd_T67 l1 x6_2).f2), .int .i64 ((rd_T67 l1 x6_2).f3)] 67 (0, 0)) (by (with_reducible repeat (first | refine blk_drewN ?_ _ | refine blk_drew ?_ | refine blk_alloc ?_ _)); exact BK106.out)) : gb106 ≠ gb110)); have n7_ := Aside0.mk ((by rw [hg]; exact Nat.ne_of_gt (blk_lt (g := gb106) (o := .cells #[.int .i64 ((rd_T67 l1 x6_2).f0), .int .i64 ((rd_T67 l1 x6_2).f1), .int .i64 ((rd_T67 l1 x6_2).f2), .int .i64 ((rd_T67 l1 x6_2).f3)] 67 (0, 0)) (by (with_reducible repeat (first | refine blk_drewN ?_ _ | refine blk_drew ?_ | refine blk_alloc ?_ _)); exact BK106.out)) : gb110 ≠ gb106)); clear HO_5; clear BK106; clear HB; have HO_5 := n0_; have BK106 := n1_; have HB := n2_; have BK110 := n3_; have GW110 := n4_; have GE110 := n5_; have NB106_110 := n6_; have NB110_106 := n7_; clear n0_ n1_ n2_ n3_ n4_ n5_ n6_ n7_; clear hb hbox hg; have hnb29 := NB110_106.out; have hnc29 := NB106_110.out; have hcz30_0 : w28.cell? ⟨gb110, 0, none⟩ = some (.int .i64 0) := (blk_cell BK110.out 0).trans rfl; have hcz30_1 : w28.cell? ⟨gb110, 1, none⟩ = some (.int .i64 0) := (blk_cell BK110.out 1).trans rfl; have hcz30_2 : w28.cell? ⟨gb110, 2, none⟩ = some (.int .i64 0) := (blk_cell BK110.out 2).trans rfl; have hfz30_0 := blk_frozen BK110.out 0; have hfz30_1 := blk_frozen BK110.out 1; have hfz30_2 := blk_frozen BK110.out 2)))
                              (try simp only [Act.put, List.setIfInBounds_toArray, List.set_cons_zero, List.set_cons_succ])
                              go_cut [73] (fun v73 wc => ∃ (kq : Nat) (x73_25 : Bool), v73 = .bool x73_25 ∧ Aside0 (spec_JobsLegal.j3 kq l0 l1 x5_2 x6_2 x73_25 ((rd_T67 l1 x6_2).f0) ((rd_T67 l1 x6_2).f1) ((rd_T67 l1 x6_2).f2) ((rd_T67 l1 x6_2).f3) ((rd_T62 l0 ((rd_T67 l1 x6_2).f0)).f0) ((rd_T62 l0 ((rd_T67 l1 x6_2).f0)).f1) ((rd_T62 l0 ((rd_T67 l1 x6_2).f0)).f2) = some r) ∧ Aside0 (kq ≤ kj14) ∧ Aside0 (Kd.R (Kd.int .i64) 3 wc w.heap.size (fun _ => True) v103 x5_2) ∧ Aside0 (wc.heap[gb106]? = some (.cells #[.int .i64 ((rd_T67 l1 x6_2).f0), .int .i64 ((rd_T67 l1 x6_2).f1), .int .i64 ((rd_T67 l1 x6_2).f2), .int .i64 ((rd_T67 l1 x6_2).f3)] 67 (0, 0))) ∧ Aside0 (wc.heap[gb110]? = some (.cells #[.int .i64 ((rd_T62 l0 ((rd_T67 l1 x6_2).f0)).f0), .int .i64 ((rd_T62 l0 ((rd_T67 l1 x6_2).f0)).f1), .int .i64 ((rd_T62 l0 ((rd_T67 l1 x6_2).f0)).f2)] 62 (0, 0))) ∧ Aside0 (Below w.heap.size w wc))
                              case first =>
                                have H := HC26.out
                                clear HC26
                                by_cases c31 : ((rd_T67 l1 x6_2).f0) < (x5_2.length : Int)
                                · rw [if_pos c31] at H
                                  have c31b0 : decide (((rd_T67 l1 x6_2).f0) < (x5_2.length : Int)) = true := decide_eq_true c31
                                  clear c31
                                  (first | rw [c31b0] | (simp only [i64_w, i32_w]; rw [c31b0]) | skip)
                                  by_cases c32 : ((rd_T67 l1 x6_2).f1) < (rd x5_2 ((rd_T67 l1 x6_2).f0))
                                  · rw [if_pos c32] at H
                                    have c32b0 : decide (((rd_T67 l1 x6_2).f1) < (rd x5_2 ((rd_T67 l1 x6_2).f0))) = true := decide_eq_true c32
                                    clear c32
                                    have H' := Aside0.mk H
                                    clear H
                                    have hnb33 := NB106_110.out
                                    have hnc33 := NB110_106.out
                                    have hcz34_0 : w28.cell? ⟨gb106, 0, none⟩ = some (.int .i64 ((rd_T67 l1 x6_2).f0)) := (blk_cell BK106.out 0).trans rfl
                                    have hcz34_1 : w28.cell? ⟨gb106, 1, none⟩ = some (.int .i64 ((rd_T67 l1 x6_2).f1)) := (blk_cell BK106.out 1).trans rfl
                                    have hcz34_2 : w28.cell? ⟨gb106, 2, none⟩ = some (.int .i64 ((rd_T67 l1 x6_2).f2)) := (blk_cell BK106.out 2).trans rfl
                                    have hcz34_3 : w28.cell? ⟨gb106, 3, none⟩ = some (.int .i64 ((rd_T67 l1 x6_2).f3)) := (blk_cell BK106.out 3).trans rfl
                                    have hfz34_0 := blk_frozen BK106.out 0
                                    have hfz34_1 := blk_frozen BK106.out 1
                                    have hfz34_2 := blk_frozen BK106.out 2
                                    have hfz34_3 := blk_frozen BK106.out 3
                                    obtain ⟨Ao35, co35, eo35⟩ := Kd.R_slice HO_5.out
                                    subst eo35
                                    have p111 : 0 ≤ (((rd_T67 l1 x6_2).f0) : Int) := of_decide_eq_true (by first | (with_reducible assumption) | assumption)
                                    have q111 : ((rd_T67 l1 x6_2).f0) < (x5_2.length : Int) := of_decide_eq_true (by first | (with_reducible assumption) | assumption)
                                    obtain ⟨ad111, e111, hx111_0⟩ := Kd.at_int (Kd.R_reads' HO_5.out).2.2 ((rd_T67 l1 x6_2).f0) p111 q111
                                    cases e111
                                    have hn111_0 : ad111.block ≠ gb110 := Kd.own_blk (Kd.R_ne HO_5.out BK110.out (by decide))
                                    have hn111_1 : ad111.block ≠ gb110 := Kd.own_blk (Kd.R_ne HO_5.out BK110.out (by decide))
                                    have hn111_2 : ad111.block ≠ gb110 := Kd.own_blk (Kd.R_ne HO_5.out BK110.out (by decide))
                                    replace hx111_0 := (cell_far (p := ⟨gb110, 0, none⟩) (by first | (rw [add_block]; exact hn111_0) | (show (Addr.add _ _).block ≠ _; rw [add_block]; exact hn111_0) | exact hn111_0) (.int .i64 ((rd_T62 l0 ((rd_T67 l1 x6_2).f0)).f0))).trans hx111_0
                                    replace hx111_0 := (cell_far (p := ⟨gb110, 1, none⟩) (by first | (rw [add_block]; exact hn111_1) | (show (Addr.add _ _).block ≠ _; rw [add_block]; exact hn111_1) | exact hn111_1) (.int .i64 ((rd_T62 l0 ((rd_T67 l1 x6_2).f0)).f1))).trans hx111_0
                                    replace hx111_0 := (cell_far (p := ⟨gb110, 2, none⟩) (by first | (rw [add_block]; exact hn111_2) | (show (Addr.add _ _).block ≠ _; rw [add_block]; exact hn111_2) | exact hn111_2) (.int .i64 ((rd_T62 l0 ((rd_T67 l1 x6_2).f0)).f2))).trans hx111_0
                                    (try have hy111_0 := fun (n_ : Nat) => (show (((((w28.drewN n_).setCell ⟨gb110, 0, none⟩ (.int .i64 ((rd_T62 l0 ((rd_T67 l1 x6_2).f0)).f0))).setCell ⟨gb110, 1, none⟩ (.int .i64 ((rd_T62 l0 ((rd_T67 l1 x6_2).f0)).f1))).setCell ⟨gb110, 2, none⟩ (.int .i64 ((rd_T62 l0 ((rd_T67 l1 x6_2).f0)).f2)))).cell? _ = some _ from hx111_0))
                                    clear hn111_0
                                    clear hn111_1
                                    clear hn111_2
                                    replace p111 := eq_true p111
                                    replace q111 := eq_true q111
                                    go_wp2
                                    repeat (go_quiet (fail); try go_wp2)
                                    go_meet
                                    case rel => exact ⟨_, (true), (by first | rfl | (simp; done) | (simp [*]; done) | (simp only [i64_w, i32_w]; done) | (simp [*, i64_w, i32_w]; done)), H', ⟨by have := HJ2.out; have := HK2.out; have := HJ14.out; first | omega | exact Nat.le_refl _⟩, ⟨by (with_reducible repeat (first | apply Kd.R_alloc | apply Kd.R_drewN | apply Kd.R_drew)); exact Kd.R_mono (Kd.R_far (p := ⟨gb110, 2, none⟩) (Kd.R_far (p := ⟨gb110, 1, none⟩) (Kd.R_far (p := ⟨gb110, 0, none⟩) (Kd.R_types HO_5.out BK110.out (by decide)) (fun _ hk => hk.2) (.int .i64 ((rd_T62 l0 ((rd_T67 l1 x6_2).f0)).f0))) (fun _ hk => hk.2) (.int .i64 ((rd_T62 l0 ((rd_T67 l1 x6_2).f0)).f1))) (fun _ hk => hk.2) (.int .i64 ((rd_T62 l0 ((rd_T67 l1 x6_2).f0)).f2))) (fun _ hk => trivial)⟩, ⟨by (with_reducible repeat (first | refine blk_drewN ?_ _ | refine blk_drew ?_ | refine blk_alloc ?_ _)); refine blk_far ?_ NB106_110.out _; (with_reducible repeat (first | refine blk_drewN ?_ _ | refine blk_drew ?_ | refine blk_alloc ?_ _)); refine blk_far ?_ NB106_110.out _; (with_reducible repeat (first | refine blk_drewN ?_ _ | refine blk_drew ?_ | refine blk_alloc ?_ _)); refine blk_far ?_ NB106_110.out _; (with_reducible repeat (first | refine blk_drewN ?_ _ | refine blk_drew ?_ | refine blk_alloc ?_ _)); exact BK106.out⟩, ⟨by (with_reducible repeat (first | refine blk_drewN ?_ _ | refine blk_drew ?_ | refine blk_alloc ?_ _)); refine blk_put (cs := #[.int .i64 ((rd_T62 l0 ((rd_T67 l1 x6_2).f0)).f0), .int .i64 ((rd_T62 l0 ((rd_T67 l1 x6_2).f0)).f1), .int .i64 0]) ?_ 2 _ rfl; (with_reducible repeat (first | refine blk_drewN ?_ _ | refine blk_drew ?_ | refine blk_alloc ?_ _)); refine blk_put (cs := #[.int .i64 ((rd_T62 l0 ((rd_T67 l1 x6_2).f0)).f0), .int .i64 0, .int .i64 0]) ?_ 1 _ rfl; (with_reducible repeat (first | refine blk_drewN ?_ _ | refine blk_drew ?_ | refine blk_alloc ?_ _)); refine blk_put (cs := #[.int .i64 0, .int .i64 0, .int .i64 0]) ?_ 0 _ rfl; (with_reducible repeat (first | refine blk_drewN ?_ _ | refine blk_drew ?_ | refine blk_alloc ?_ _)); exact BK110.out⟩, ⟨by repeat (first | (with_reducible first | exact HB.out | apply below_alloc | apply pw_below_drewN | apply below_drew1 | refine below_set ?_ GE106.out | refine below_set ?_ GE110.out) | exact HB.out)⟩⟩
                                  · rw [if_neg c32] at H
                                    have c32b0 : decide (((rd_T67 l1 x6_2).f1) < (rd x5_2 ((rd_T67 l1 x6_2).f0))) = false := decide_eq_false c32
                                    clear c32
                                    by_cases c36 : ((rd_T67 l1 x6_2).f2) = (wrap64 (((rd_T67 l1 x6_2).f1) + ((rd_T62 l0 ((rd_T67 l1 x6_2).f0)).f1)))
                                    · rw [if_pos c36] at H
                                      have c36b0 : (((rd_T67 l1 x6_2).f2) == (wrap64 (((rd_T67 l1 x6_2).f1) + ((rd_T62 l0 ((rd_T67 l1 x6_2).f0)).f1)))) = true := beq_iff_eq.mpr c36
                                      have c36b1 : (((rd_T67 l1 x6_2).f2) != (wrap64 (((rd_T67 l1 x6_2).f1) + ((rd_T62 l0 ((rd_T67 l1 x6_2).f0)).f1)))) = false := bne_eq_false_iff_eq.mpr c36
                                      clear c36
                                      replace H := Option.bind_eq_some_iff.mp H
                                      obtain ⟨t112, A370, H⟩ := H
                                      replace H : (spec_JobsLegal.j3 kj14 l0 l1 x5_2 x6_2 (!t112) ((rd_T67 l1 x6_2).f0) ((rd_T67 l1 x6_2).f1) ((rd_T67 l1 x6_2).f2) ((rd_T67 l1 x6_2).f3) ((rd_T62 l0 ((rd_T67 l1 x6_2).f0)).f0) ((rd_T62 l0 ((rd_T67 l1 x6_2).f0)).f1) ((rd_T62 l0 ((rd_T67 l1 x6_2).f0)).f2)) = some r := H
                                      have A37 := Aside0.mk A370
                                      clear A370
                                      have H' := Aside0.mk H
                                      clear H
                                      have hnb38 := NB106_110.out
                                      have hnc38 := NB110_106.out
                                      have hcz39_0 : w28.cell? ⟨gb106, 0, none⟩ = some (.int .i64 ((rd_T67 l1 x6_2).f0)) := (blk_cell BK106.out 0).trans rfl
                                      have hcz39_1 : w28.cell? ⟨gb106, 1, none⟩ = some (.int .i64 ((rd_T67 l1 x6_2).f1)) := (blk_cell BK106.out 1).trans rfl
                                      have hcz39_2 : w28.cell? ⟨gb106, 2, none⟩ = some (.int .i64 ((rd_T67 l1 x6_2).f2)) := (blk_cell BK106.out 2).trans rfl
                                      have hcz39_3 : w28.cell? ⟨gb106, 3, none⟩ = some (.int .i64 ((rd_T67 l1 x6_2).f3)) := (blk_cell BK106.out 3).trans rfl
                                      have hfz39_0 := blk_frozen BK106.out 0
                                      have hfz39_1 := blk_frozen BK106.out 1
                                      have hfz39_2 := blk_frozen BK106.out 2
                                      have hfz39_3 := blk_frozen BK106.out 3
                                      obtain ⟨Ao40, co40, eo40⟩ := Kd.R_slice HO_5.out
                                      subst eo40
                                      have p111 : 0 ≤ (((rd_T67 l1 x6_2).f0) : Int) := of_decide_eq_true (by first | (with_reducible assumption) | assumption)
                                      have q111 : ((rd_T67 l1 x6_2).f0) < (x5_2.length : Int) := of_decide_eq_true (by first | (with_reducible assumption) | assumption)
                                      obtain ⟨ad111, e111, hx111_0⟩ := Kd.at_int (Kd.R_reads' HO_5.out).2.2 ((rd_T67 l1 x6_2).f0) p111 q111
                                      cases e111
                                      have hn111_0 : ad111.block ≠ gb110 := Kd.own_blk (Kd.R_ne HO_5.out BK110.out (by decide))
                                      have hn111_1 : ad111.block ≠ gb110 := Kd.own_blk (Kd.R_ne HO_5.out BK110.out (by decide))
                                      have hn111_2 : ad111.block ≠ gb110 := Kd.own_blk (Kd.R_ne HO_5.out BK110.out (by decide))
                                      replace hx111_0 := (cell_far (p := ⟨gb110, 0, none⟩) (by first | (rw [add_block]; exact hn111_0) | (show (Addr.add _ _).block ≠ _; rw [add_block]; exact hn111_0) | exact hn111_0) (.int .i64 ((rd_T62 l0 ((rd_T67 l1 x6_2).f0)).f0))).trans hx111_0
                                      replace hx111_0 := (cell_far (p := ⟨gb110, 1, none⟩) (by first | (rw [add_block]; exact hn111_1) | (show (Addr.add _ _).block ≠ _; rw [add_block]; exact hn111_1) | exact hn111_1) (.int .i64 ((rd_T62 l0 ((rd_T67 l1 x6_2).f0)).f1))).trans hx111_0
                                      replace hx111_0 := (cell_far (p := ⟨gb110, 2, none⟩) (by first | (rw [add_block]; exact hn111_2) | (show (Addr.add _ _).block ≠ _; rw [add_block]; exact hn111_2) | exact hn111_2) (.int .i64 ((rd_T62 l0 ((rd_T67 l1 x6_2).f0)).f2))).trans hx111_0
                                      (try have hy111_0 := fun (n_ : Nat) => (show (((((w28.drewN n_).setCell ⟨gb110, 0, none⟩ (.int .i64 ((rd_T62 l0 ((rd_T67 l1 x6_2).f0)).f0))).setCell ⟨gb110, 1, none⟩ (.int .i64 ((rd_T62 l0 ((rd_T67 l1 x6_2).f0)).f1))).setCell ⟨gb110, 2, none⟩ (.int .i64 ((rd_T62 l0 ((rd_T67 l1 x6_2).f0)).f2)))).cell? _ = some _ from hx111_0))
                                      clear hn111_0
                                      clear hn111_1
                                      clear hn111_2
                                      replace p111 := eq_true p111
                                      replace q111 := eq_true q111
                                      have hcz41_0 : w28.cell? ⟨gb110, 0, none⟩ = some (.int .i64 0) := (blk_cell BK110.out 0).trans rfl
                                      have hcz41_1 : w28.cell? ⟨gb110, 1, none⟩ = some (.int .i64 0) := (blk_cell BK110.out 1).trans rfl
                                      have hcz41_2 : w28.cell? ⟨gb110, 2, none⟩ = some (.int .i64 0) := (blk_cell BK110.out 2).trans rfl
                                      have hfz41_0 := blk_frozen BK110.out 0
                                      have hfz41_1 := blk_frozen BK110.out 1
                                      have hfz41_2 := blk_frozen BK110.out 2
                                      go_wp2_with (first | (go_at_call 96; (with_reducible refine (spec_l1In.calls ((rd_T67 l1 x6_2).f3) 1 ((rd_T62 l0 ((rd_T67 l1 x6_2).f0)).f0) t112 _ A37.out).mono ?_); rintro e w' ⟨rfl, ⟨nd, rfl⟩⟩; (try first | exact ⟨rfl, _, World.drewN_drewN _ _ _⟩ | exact ⟨rfl, _, Eq.trans (World.drewN_drewN _ _ _) (congrArg (World.drewN _) (Nat.add_assoc _ _ _))⟩)))
                                      repeat (go_quiet (first | (go_at_call 96; (with_reducible refine (spec_l1In.calls ((rd_T67 l1 x6_2).f3) 1 ((rd_T62 l0 ((rd_T67 l1 x6_2).f0)).f0) t112 _ A37.out).mono ?_); rintro e w' ⟨rfl, ⟨nd, rfl⟩⟩; (try first | exact ⟨rfl, _, World.drewN_drewN _ _ _⟩ | exact ⟨rfl, _, Eq.trans (World.drewN_drewN _ _ _) (congrArg (World.drewN _) (Nat.add_assoc _ _ _))⟩))); try go_wp2_with (first | (go_at_call 96; (with_reducible refine (spec_l1In.calls ((rd_T67 l1 x6_2).f3) 1 ((rd_T62 l0 ((rd_T67 l1 x6_2).f0)).f0) t112 _ A37.out).mono ?_); rintro e w' ⟨rfl, ⟨nd, rfl⟩⟩; (try first | exact ⟨rfl, _, World.drewN_drewN _ _ _⟩ | exact ⟨rfl, _, Eq.trans (World.drewN_drewN _ _ _) (congrArg (World.drewN _) (Nat.add_assoc _ _ _))⟩))))
                                      go_meet
                                      case rel => exact ⟨_, (!t112), (by first | rfl | (simp; done) | (simp [*]; done) | (simp only [i64_w, i32_w]; done) | (simp [*, i64_w, i32_w]; done)), H', ⟨by have := HJ2.out; have := HK2.out; have := HJ14.out; first | omega | exact Nat.le_refl _⟩, ⟨by (with_reducible repeat (first | apply Kd.R_alloc | apply Kd.R_drewN | apply Kd.R_drew)); exact Kd.R_mono (Kd.R_far (p := ⟨gb110, 2, none⟩) (Kd.R_far (p := ⟨gb110, 1, none⟩) (Kd.R_far (p := ⟨gb110, 0, none⟩) (Kd.R_types HO_5.out BK110.out (by decide)) (fun _ hk => hk.2) (.int .i64 ((rd_T62 l0 ((rd_T67 l1 x6_2).f0)).f0))) (fun _ hk => hk.2) (.int .i64 ((rd_T62 l0 ((rd_T67 l1 x6_2).f0)).f1))) (fun _ hk => hk.2) (.int .i64 ((rd_T62 l0 ((rd_T67 l1 x6_2).f0)).f2))) (fun _ hk => trivial)⟩, ⟨by (with_reducible repeat (first | refine blk_drewN ?_ _ | refine blk_drew ?_ | refine blk_alloc ?_ _)); refine blk_far ?_ NB106_110.out _; (with_reducible repeat (first | refine blk_drewN ?_ _ | refine blk_drew ?_ | refine blk_alloc ?_ _)); refine blk_far ?_ NB106_110.out _; (with_reducible repeat (first | refine blk_drewN ?_ _ | refine blk_drew ?_ | refine blk_alloc ?_ _)); refine blk_far ?_ NB106_110.out _; (with_reducible repeat (first | refine blk_drewN ?_ _ | refine blk_drew ?_ | refine blk_alloc ?_ _)); exact BK106.out⟩, ⟨by (with_reducible repeat (first | refine blk_drewN ?_ _ | refine blk_drew ?_ | refine blk_alloc ?_ _)); refine blk_put (cs := #[.int .i64 ((rd_T62 l0 ((rd_T67 l1 x6_2).f0)).f0), .int .i64 ((rd_T62 l0 ((rd_T67 l1 x6_2).f0)).f1), .int .i64 0]) ?_ 2 _ rfl; (with_reducible repeat (first | refine blk_drewN ?_ _ | refine blk_drew ?_ | refine blk_alloc ?_ _)); refine blk_put (cs := #[.int .i64 ((rd_T62 l0 ((rd_T67 l1 x6_2).f0)).f0), .int .i64 0, .int .i64 0]) ?_ 1 _ rfl; (with_reducible repeat (first | refine blk_drewN ?_ _ | refine blk_drew ?_ | refine blk_alloc ?_ _)); refine blk_put (cs := #[.int .i64 0, .int .i64 0, .int .i64 0]) ?_ 0 _ rfl; (with_reducible repeat (first | refine blk_drewN ?_ _ | refine blk_drew ?_ | refine blk_alloc ?_ _)); exact BK110.out⟩, ⟨by repeat (first | (with_reducible first | exact HB.out | apply below_alloc | apply pw_below_drewN | apply below_drew1 | refine below_set ?_ GE106.out | refine below_set ?_ GE110.out) | exact HB.out)⟩⟩
                                    · rw [if_neg c36] at H
                                      have c36b0 : (((rd_T67 l1 x6_2).f2) == (wrap64 (((rd_T67 l1 x6_2).f1) + ((rd_T62 l0 ((rd_T67 l1 x6_2).f0)).f1)))) = false := beq_eq_false_iff_ne.mpr c36
                                      have c36b1 : (((rd_T67 l1 x6_2).f2) != (wrap64 (((rd_T67 l1 x6_2).f1) + ((rd_T62 l0 ((rd_T67 l1 x6_2).f0)).f1)))) = true := bne_iff_ne.mpr c36
                                      have H' := Aside0.mk H
                                      clear H
                                      have hnb42 := NB106_110.out
                                      have hnc42 := NB110_106.out
                                      have hcz43_0 : w28.cell? ⟨gb106, 0, none⟩ = some (.int .i64 ((rd_T67 l1 x6_2).f0)) := (blk_cell BK106.out 0).trans rfl
                                      have hcz43_1 : w28.cell? ⟨gb106, 1, none⟩ = some (.int .i64 ((rd_T67 l1 x6_2).f1)) := (blk_cell BK106.out 1).trans rfl
                                      have hcz43_2 : w28.cell? ⟨gb106, 2, none⟩ = some (.int .i64 ((rd_T67 l1 x6_2).f2)) := (blk_cell BK106.out 2).trans rfl
                                      have hcz43_3 : w28.cell? ⟨gb106, 3, none⟩ = some (.int .i64 ((rd_T67 l1 x6_2).f3)) := (blk_cell BK106.out 3).trans rfl
                                      have hfz43_0 := blk_frozen BK106.out 0
                                      have hfz43_1 := blk_frozen BK106.out 1
                                      have hfz43_2 := blk_frozen BK106.out 2
                                      have hfz43_3 := blk_frozen BK106.out 3
                                      obtain ⟨Ao44, co44, eo44⟩ := Kd.R_slice HO_5.out
                                      subst eo44
                                      have p111 : 0 ≤ (((rd_T67 l1 x6_2).f0) : Int) := of_decide_eq_true (by first | (with_reducible assumption) | assumption)
                                      have q111 : ((rd_T67 l1 x6_2).f0) < (x5_2.length : Int) := of_decide_eq_true (by first | (with_reducible assumption) | assumption)
                                      obtain ⟨ad111, e111, hx111_0⟩ := Kd.at_int (Kd.R_reads' HO_5.out).2.2 ((rd_T67 l1 x6_2).f0) p111 q111
                                      cases e111
                                      have hn111_0 : ad111.block ≠ gb110 := Kd.own_blk (Kd.R_ne HO_5.out BK110.out (by decide))
                                      have hn111_1 : ad111.block ≠ gb110 := Kd.own_blk (Kd.R_ne HO_5.out BK110.out (by decide))
                                      have hn111_2 : ad111.block ≠ gb110 := Kd.own_blk (Kd.R_ne HO_5.out BK110.out (by decide))
                                      replace hx111_0 := (cell_far (p := ⟨gb110, 0, none⟩) (by first | (rw [add_block]; exact hn111_0) | (show (Addr.add _ _).block ≠ _; rw [add_block]; exact hn111_0) | exact hn111_0) (.int .i64 ((rd_T62 l0 ((rd_T67 l1 x6_2).f0)).f0))).trans hx111_0
                                      replace hx111_0 := (cell_far (p := ⟨gb110, 1, none⟩) (by first | (rw [add_block]; exact hn111_1) | (show (Addr.add _ _).block ≠ _; rw [add_block]; exact hn111_1) | exact hn111_1) (.int .i64 ((rd_T62 l0 ((rd_T67 l1 x6_2).f0)).f1))).trans hx111_0
                                      replace hx111_0 := (cell_far (p := ⟨gb110, 2, none⟩) (by first | (rw [add_block]; exact hn111_2) | (show (Addr.add _ _).block ≠ _; rw [add_block]; exact hn111_2) | exact hn111_2) (.int .i64 ((rd_T62 l0 ((rd_T67 l1 x6_2).f0)).f2))).trans hx111_0
                                      (try have hy111_0 := fun (n_ : Nat) => (show (((((w28.drewN n_).setCell ⟨gb110, 0, none⟩ (.int .i64 ((rd_T62 l0 ((rd_T67 l1 x6_2).f0)).f0))).setCell ⟨gb110, 1, none⟩ (.int .i64 ((rd_T62 l0 ((rd_T67 l1 x6_2).f0)).f1))).setCell ⟨gb110, 2, none⟩ (.int .i64 ((rd_T62 l0 ((rd_T67 l1 x6_2).f0)).f2)))).cell? _ = some _ from hx111_0))
                                      clear hn111_0
                                      clear hn111_1
                                      clear hn111_2
                                      replace p111 := eq_true p111
                                      replace q111 := eq_true q111
                                      have hcz45_0 : w28.cell? ⟨gb110, 0, none⟩ = some (.int .i64 0) := (blk_cell BK110.out 0).trans rfl
                                      have hcz45_1 : w28.cell? ⟨gb110, 1, none⟩ = some (.int .i64 0) := (blk_cell BK110.out 1).trans rfl
                                      have hcz45_2 : w28.cell? ⟨gb110, 2, none⟩ = some (.int .i64 0) := (blk_cell BK110.out 2).trans rfl
                                      have hfz45_0 := blk_frozen BK110.out 0
                                      have hfz45_1 := blk_frozen BK110.out 1
                                      have hfz45_2 := blk_frozen BK110.out 2
                                      go_wp2
                                      repeat (go_quiet (fail); try go_wp2)
                                      go_meet
                                      case rel => exact ⟨_, (true), (by first | rfl | (simp; done) | (simp [*]; done) | (simp only [i64_w, i32_w]; done) | (simp [*, i64_w, i32_w]; done)), H', ⟨by have := HJ2.out; have := HK2.out; have := HJ14.out; first | omega | exact Nat.le_refl _⟩, ⟨by (with_reducible repeat (first | apply Kd.R_alloc | apply Kd.R_drewN | apply Kd.R_drew)); exact Kd.R_mono (Kd.R_far (p := ⟨gb110, 2, none⟩) (Kd.R_far (p := ⟨gb110, 1, none⟩) (Kd.R_far (p := ⟨gb110, 0, none⟩) (Kd.R_types HO_5.out BK110.out (by decide)) (fun _ hk => hk.2) (.int .i64 ((rd_T62 l0 ((rd_T67 l1 x6_2).f0)).f0))) (fun _ hk => hk.2) (.int .i64 ((rd_T62 l0 ((rd_T67 l1 x6_2).f0)).f1))) (fun _ hk => hk.2) (.int .i64 ((rd_T62 l0 ((rd_T67 l1 x6_2).f0)).f2))) (fun _ hk => trivial)⟩, ⟨by (with_reducible repeat (first | refine blk_drewN ?_ _ | refine blk_drew ?_ | refine blk_alloc ?_ _)); refine blk_far ?_ NB106_110.out _; (with_reducible repeat (first | refine blk_drewN ?_ _ | refine blk_drew ?_ | refine blk_alloc ?_ _)); refine blk_far ?_ NB106_110.out _; (with_reducible repeat (first | refine blk_drewN ?_ _ | refine blk_drew ?_ | refine blk_alloc ?_ _)); refine blk_far ?_ NB106_110.out _; (with_reducible repeat (first | refine blk_drewN ?_ _ | refine blk_drew ?_ | refine blk_alloc ?_ _)); exact BK106.out⟩, ⟨by (with_reducible repeat (first | refine blk_drewN ?_ _ | refine blk_drew ?_ | refine blk_alloc ?_ _)); refine blk_put (cs := #[.int .i64 ((rd_T62 l0 ((rd_T67 l1 x6_2).f0)).f0), .int .i64 ((rd_T62 l0 ((rd_T67 l1 x6_2).f0)).f1), .int .i64 0]) ?_ 2 _ rfl; (with_reducible repeat (first | refine blk_drewN ?_ _ | refine blk_drew ?_ | refine blk_alloc ?_ _)); refine blk_put (cs := #[.int .i64 ((rd_T62 l0 ((rd_T67 l1 x6_2).f0)).f0), .int .i64 0, .int .i64 0]) ?_ 1 _ rfl; (with_reducible repeat (first | refine blk_drewN ?_ _ | refine blk_drew ?_ | refine blk_alloc ?_ _)); refine blk_put (cs := #[.int .i64 0, .int .i64 0, .int .i64 0]) ?_ 0 _ rfl; (with_reducible repeat (first | refine blk_drewN ?_ _ | refine blk_drew ?_ | refine blk_alloc ?_ _)); exact BK110.out⟩, ⟨by repeat (first | (with_reducible first | exact HB.out | apply below_alloc | apply pw_below_drewN | apply below_drew1 | refine below_set ?_ GE106.out | refine below_set ?_ GE110.out) | exact HB.out)⟩⟩
                                · rw [if_neg c31] at H
                                  exact absurd H (by simp)
                              case rest =>
                                clear HC26
                                try clear c1
                                try clear p1
                                try clear q1
                                try clear hx1
                                try clear c2
                                try clear p2
                                try clear c3
                                try clear c4
                                try clear c5
                                try clear p6
                                try clear c8
                                try clear c9
                                try clear c9b0
                                try clear c9b1
                                try clear c10
                                try clear c10b0
                                try clear c10b1
                                try clear p10
                                try clear q10
                                try clear hx10
                                try clear p11
                                try clear q11
                                try clear hx11
                                try clear c13
                                try clear c13b0
                                try clear c14
                                try clear c14b0
                                try clear c19
                                try clear c23
                                try clear c24
                                try clear c24b0
                                try clear c25
                                try clear c25b0
                                try clear c29
                                try clear c31
                                try clear c31b0
                                try clear c32
                                try clear c32b0
                                try clear c33
                                try clear c34
                                try clear c36
                                try clear c36b0
                                try clear c36b1
                                try clear c38
                                try clear c42
                                try clear hcz17_0
                                try clear hcz17_1
                                try clear hcz17_2
                                try clear hcz17_3
                                try clear hcz21_0
                                try clear hcz21_1
                                try clear hcz21_2
                                try clear hcz21_3
                                try clear hcz22_0
                                try clear hcz22_1
                                try clear hcz22_2
                                try clear hcz22_3
                                try clear hcz27_0
                                try clear hcz27_1
                                try clear hcz27_2
                                try clear hcz27_3
                                try clear hcz30_0
                                try clear hcz30_1
                                try clear hcz30_2
                                try clear hcz34_0
                                try clear hcz34_1
                                try clear hcz34_2
                                try clear hcz34_3
                                try clear hcz39_0
                                try clear hcz39_1
                                try clear hcz39_2
                                try clear hcz39_3
                                try clear hcz41_0
                                try clear hcz41_1
                                try clear hcz41_2
                                try clear hcz43_0
                                try clear hcz43_1
                                try clear hcz43_2
                                try clear hcz43_3
                                try clear hcz45_0
                                try clear hcz45_1
                                try clear hcz45_2
                                try clear hfz17_0
                                try clear hfz17_1
                                try clear hfz17_2
                                try clear hfz17_3
                                try clear hfz21_0
                                try clear hfz21_1
                                try clear hfz21_2
                                try clear hfz21_3
                                try clear hfz22_0
                                try clear hfz22_1
                                try clear hfz22_2
                                try clear hfz22_3
                                try clear hfz27_0
                                try clear hfz27_1
                                try clear hfz27_2
                                try clear hfz27_3
                                try clear hfz30_0
                                try clear hfz30_1
                                try clear hfz30_2
                                try clear hfz34_0
                                try clear hfz34_1
                                try clear hfz34_2
                                try clear hfz34_3
                                try clear hfz39_0
                                try clear hfz39_1
                                try clear hfz39_2
                                try clear hfz39_3
                                try clear hfz41_0
                                try clear hfz41_1
                                try clear hfz41_2
                                try clear hfz43_0
                                try clear hfz43_1
                                try clear hfz43_2
                                try clear hfz43_3
                                try clear hfz45_0
                                try clear hfz45_1
                                try clear hfz45_2
                                try clear hx105_0
                                try clear hx105_1
                                try clear hx105_2
                                try clear hx105_3
                                try clear hx109_0
                                try clear hx109_1
                                try clear hx109_2
                                try clear hx111_0
                                try clear p1
                                try clear p10
                                try clear p105
                                try clear p109
                                try clear p111
                                try clear p2
                                try clear p6
                                try clear q1
                                try clear q10
                                try clear q105
                                try clear q109
                                try clear q111
                                obtain ⟨kq, x73_25, rfl, HA, HJ25, HO_5, BK106, BK110, HB⟩ := hcut
                                cases kq with
                                | zero => exact absurd HA.out (by simp [spec_JobsLegal.j3])
                                | succ kj25 =>
                                  have H := HA.out
                                  clear HA
                                  simp only [spec_JobsLegal.j3] at H
                                  by_cases c46 : x73_25 = true
                                  · subst c46
                                    have H1 : (some false) = some r := by rw [if_pos rfl] at H; exact H
                                    clear H
                                    have H := H1
                                    clear H1
                                    obtain rfl := Option.some.inj H
                                    go_wp2
                                    repeat (go_quiet (fail); try go_wp2)
                                    go_ret
                                    exact ⟨by first | rfl | (simp [errW_none, errW_some] <;> rfl) | (simp [*, errW_none, errW_some] <;> rfl), by repeat (first | (with_reducible first | exact HB.out | apply below_alloc | apply pw_below_drewN | apply below_drew1 | refine below_set ?_ GE106.out | refine below_set ?_ GE110.out) | exact HB.out)⟩
                                  · replace c46 := Bool.eq_false_iff.mpr c46
                                    subst c46
                                    have H1 : (if x6_2 > 0 then (if 0 ≤ (wrap64 (x6_2 - 1)) then (if (wrap64 (x6_2 - 1)) < (l1.length : Int) then (if ((rd_T67 l1 (wrap64 (x6_2 - 1))).f1) > ((rd_T67 l1 x6_2).f1) then (some false) else (if ((rd_T67 l1 (wrap64 (x6_2 - 1))).f1) = ((rd_T67 l1 x6_2).f1) then (if ((rd_T67 l1 (wrap64 (x6_2 - 1))).f0) ≥ ((rd_T67 l1 x6_2).f0) then (some false) else (if 0 ≤ ((rd_T67 l1 x6_2).f0) then (if ((rd_T67 l1 x6_2).f0) < (x5_2.length : Int) then (spec_JobsLegal.l0 kj25 l0 l1 (x5_2.set (((rd_T67 l1 x6_2).f0) : Int).toNat (wrap64 (((rd_T67 l1 x6_2).f1) + ((rd_T62 l0 ((rd_T67 l1 x6_2).f0)).f2)))) (wrap64 (x6_2 + 1))) else (none)) else (none))) else (if 0 ≤ ((rd_T67 l1 x6_2).f0) then (if ((rd_T67 l1 x6_2).f0) < (x5_2.length : Int) then (spec_JobsLegal.l0 kj25 l0 l1 (x5_2.set (((rd_T67 l1 x6_2).f0) : Int).toNat (wrap64 (((rd_T67 l1 x6_2).f1) + ((rd_T62 l0 ((rd_T67 l1 x6_2).f0)).f2)))) (wrap64 (x6_2 + 1))) else (none)) else (none)))) else (none)) else (none)) else (if 0 ≤ ((rd_T67 l1 x6_2).f0) then (if ((rd_T67 l1 x6_2).f0) < (x5_2.length : Int) then (spec_JobsLegal.l0 kj25 l0 l1 (x5_2.set (((rd_T67 l1 x6_2).f0) : Int).toNat (wrap64 (((rd_T67 l1 x6_2).f1) + ((rd_T62 l0 ((rd_T67 l1 x6_2).f0)).f2)))) (wrap64 (x6_2 + 1))) else (none)) else (none))) = some r := by rw [if_neg (show ¬ (false = true) by decide)] at H; exact H
                                    clear H
                                    have H := H1
                                    clear H1
                                    by_cases c47 : x6_2 > 0
                                    · rw [if_pos c47] at H
                                      have c47b0 : decide (0 < x6_2) = true := decide_eq_true c47
                                      clear c47
                                      obtain ⟨ji48, hji48⟩ : ∃ j_ : Int, (wrap64 (x6_2 - 1)) = j_ := ⟨_, rfl⟩
                                      replace H : (if 0 ≤ (ji48) then (if (ji48) < (l1.length : Int) then (if ((rd_T67 l1 (ji48)).f1) > ((rd_T67 l1 x6_2).f1) then (some false) else (if ((rd_T67 l1 (ji48)).f1) = ((rd_T67 l1 x6_2).f1) then (if ((rd_T67 l1 (ji48)).f0) ≥ ((rd_T67 l1 x6_2).f0) then (some false) else (if 0 ≤ ((rd_T67 l1 x6_2).f0) then (if ((rd_T67 l1 x6_2).f0) < (x5_2.length : Int) then (spec_JobsLegal.l0 kj25 l0 l1 (x5_2.set (((rd_T67 l1 x6_2).f0) : Int).toNat (wrap64 (((rd_T67 l1 x6_2).f1) + ((rd_T62 l0 ((rd_T67 l1 x6_2).f0)).f2)))) (wrap64 (x6_2 + 1))) else (none)) else (none))) else (if 0 ≤ ((rd_T67 l1 x6_2).f0) then (if ((rd_T67 l1 x6_2).f0) < (x5_2.length : Int) then (spec_JobsLegal.l0 kj25 l0 l1 (x5_2.set (((rd_T67 l1 x6_2).f0) : Int).toNat (wrap64 (((rd_T67 l1 x6_2).f1) + ((rd_T62 l0 ((rd_T67 l1 x6_2).f0)).f2)))) (wrap64 (x6_2 + 1))) else (none)) else (none)))) else (none)) else (none)) = some r := by first | (rw [hji48] at H; exact H) | (simp only [hji48] at H ⊢; exact H)
                                      have hji48w : (IntKind.i64.wrap (x6_2 - 1)) = ji48 := (i64_w _).trans hji48
                                      by_cases c49 : 0 ≤ (ji48)
                                      · rw [if_pos c49] at H
                                        have c49b0 : decide (0 ≤ (ji48)) = true := decide_eq_true c49
                                        clear c49
                                        by_cases c50 : (ji48) < (l1.length : Int)
                                        · rw [if_pos c50] at H
                                          have c50b0 : decide ((ji48) < (l1.length : Int)) = true := decide_eq_true c50
                                          clear c50
                                          by_cases c51 : ((rd_T67 l1 (ji48)).f1) > ((rd_T67 l1 x6_2).f1)
                                          · rw [if_pos c51] at H
                                            have c51b0 : decide (((rd_T67 l1 x6_2).f1) < ((rd_T67 l1 (ji48)).f1)) = true := decide_eq_true c51
                                            clear c51
                                            obtain rfl := Option.some.inj H
                                            have p113 : 0 ≤ ((ji48) : Int) := of_decide_eq_true (by first | (with_reducible assumption) | assumption)
                                            have q113 : (ji48) < (l1.length : Int) := of_decide_eq_true (by first | (with_reducible assumption) | assumption)
                                            obtain ⟨ad113, e113, hx113_0, hx113_1, hx113_2, hx113_3⟩ := at_T67 HR1.out (ji48) p113 q113
                                            obtain rfl : ad105 = ad113 := (by injection e113)
                                            replace hx113_0 := (HB.out.cell (World.block_lt_of_cell? w _ hx113_0)).trans hx113_0
                                            replace hx113_1 := (HB.out.cell (World.block_lt_of_cell? w _ hx113_1)).trans hx113_1
                                            replace hx113_2 := (HB.out.cell (World.block_lt_of_cell? w _ hx113_2)).trans hx113_2
                                            replace hx113_3 := (HB.out.cell (World.block_lt_of_cell? w _ hx113_3)).trans hx113_3
                                            replace p113 := eq_true p113
                                            replace q113 := eq_true q113
                                            have hnb52 := NB106_110.out
                                            have hnc52 := NB110_106.out
                                            have hcz53_0 : wc.cell? ⟨gb106, 0, none⟩ = some (.int .i64 ((rd_T67 l1 x6_2).f0)) := (blk_cell BK106.out 0).trans rfl
                                            have hcz53_1 : wc.cell? ⟨gb106, 1, none⟩ = some (.int .i64 ((rd_T67 l1 x6_2).f1)) := (blk_cell BK106.out 1).trans rfl
                                            have hcz53_2 : wc.cell? ⟨gb106, 2, none⟩ = some (.int .i64 ((rd_T67 l1 x6_2).f2)) := (blk_cell BK106.out 2).trans rfl
                                            have hcz53_3 : wc.cell? ⟨gb106, 3, none⟩ = some (.int .i64 ((rd_T67 l1 x6_2).f3)) := (blk_cell BK106.out 3).trans rfl
                                            have hfz53_0 := blk_frozen BK106.out 0
                                            have hfz53_1 := blk_frozen BK106.out 1
                                            have hfz53_2 := blk_frozen BK106.out 2
                                            have hfz53_3 := blk_frozen BK106.out 3
                                            go_wp2
                                            repeat (go_quiet (fail); try go_wp2)
                                            go_ret
                                            exact ⟨by first | rfl | (simp [errW_none, errW_some] <;> rfl) | (simp only [← hji48]; first | rfl | (simp [errW_none, errW_some] <;> rfl)) | (simp [*, errW_none, errW_some] <;> rfl), by repeat (first | (with_reducible first | exact HB.out | apply below_alloc | apply pw_below_drewN | apply below_drew1 | refine below_set ?_ GE106.out | refine below_set ?_ GE110.out) | exact HB.out)⟩
                                          · rw [if_neg c51] at H
                                            have c51b0 : decide (((rd_T67 l1 x6_2).f1) < ((rd_T67 l1 (ji48)).f1)) = false := decide_eq_false c51
                                            clear c51
                                            by_cases c54 : ((rd_T67 l1 (ji48)).f1) = ((rd_T67 l1 x6_2).f1)
                                            · rw [if_pos c54] at H
                                              have c54b0 : (((rd_T67 l1 (ji48)).f1) == ((rd_T67 l1 x6_2).f1)) = true := beq_iff_eq.mpr c54
                                              have c54b1 : (((rd_T67 l1 (ji48)).f1) != ((rd_T67 l1 x6_2).f1)) = false := bne_eq_false_iff_eq.mpr c54
                                              clear c54
                                              by_cases c55 : ((rd_T67 l1 (ji48)).f0) ≥ ((rd_T67 l1 x6_2).f0)
                                              · rw [if_pos c55] at H
                                                have c55b0 : decide (((rd_T67 l1 x6_2).f0) ≤ ((rd_T67 l1 (ji48)).f0)) = true := decide_eq_true c55
                                                clear c55
                                                obtain rfl := Option.some.inj H
                                                have p113 : 0 ≤ ((ji48) : Int) := of_decide_eq_true (by first | (with_reducible assumption) | assumption)
                                                have q113 : (ji48) < (l1.length : Int) := of_decide_eq_true (by first | (with_reducible assumption) | assumption)
                                                obtain ⟨ad113, e113, hx113_0, hx113_1, hx113_2, hx113_3⟩ := at_T67 HR1.out (ji48) p113 q113
                                                obtain rfl : ad105 = ad113 := (by injection e113)
                                                replace hx113_0 := (HB.out.cell (World.block_lt_of_cell? w _ hx113_0)).trans hx113_0
                                                replace hx113_1 := (HB.out.cell (World.block_lt_of_cell? w _ hx113_1)).trans hx113_1
                                                replace hx113_2 := (HB.out.cell (World.block_lt_of_cell? w _ hx113_2)).trans hx113_2
                                                replace hx113_3 := (HB.out.cell (World.block_lt_of_cell? w _ hx113_3)).trans hx113_3
                                                replace p113 := eq_true p113
                                                replace q113 := eq_true q113
                                                have hnb56 := NB106_110.out
                                                have hnc56 := NB110_106.out
                                                have hcz57_0 : wc.cell? ⟨gb106, 0, none⟩ = some (.int .i64 ((rd_T67 l1 x6_2).f0)) := (blk_cell BK106.out 0).trans rfl
                                                have hcz57_1 : wc.cell? ⟨gb106, 1, none⟩ = some (.int .i64 ((rd_T67 l1 x6_2).f1)) := (blk_cell BK106.out 1).trans rfl
                                                have hcz57_2 : wc.cell? ⟨gb106, 2, none⟩ = some (.int .i64 ((rd_T67 l1 x6_2).f2)) := (blk_cell BK106.out 2).trans rfl
                                                have hcz57_3 : wc.cell? ⟨gb106, 3, none⟩ = some (.int .i64 ((rd_T67 l1 x6_2).f3)) := (blk_cell BK106.out 3).trans rfl
                                                have hfz57_0 := blk_frozen BK106.out 0
                                                have hfz57_1 := blk_frozen BK106.out 1
                                                have hfz57_2 := blk_frozen BK106.out 2
                                                have hfz57_3 := blk_frozen BK106.out 3
                                                have p114 : 0 ≤ ((ji48) : Int) := of_decide_eq_true (by first | (with_reducible assumption) | assumption)
                                                have q114 : (ji48) < (l1.length : Int) := of_decide_eq_true (by first | (with_reducible assumption) | assumption)
                                                obtain ⟨ad114, e114, hx114_0, hx114_1, hx114_2, hx114_3⟩ := at_T67 HR1.out (ji48) p114 q114
                                                obtain rfl : ad105 = ad114 := (by injection e114)
                                                replace hx114_0 := (HB.out.cell (World.block_lt_of_cell? w _ hx114_0)).trans hx114_0
                                                replace hx114_1 := (HB.out.cell (World.block_lt_of_cell? w _ hx114_1)).trans hx114_1
                                                replace hx114_2 := (HB.out.cell (World.block_lt_of_cell? w _ hx114_2)).trans hx114_2
                                                replace hx114_3 := (HB.out.cell (World.block_lt_of_cell? w _ hx114_3)).trans hx114_3
                                                replace p114 := eq_true p114
                                                replace q114 := eq_true q114
                                                have p115 : 0 ≤ ((ji48) : Int) := of_decide_eq_true (by first | (with_reducible assumption) | assumption)
                                                have q115 : (ji48) < (l1.length : Int) := of_decide_eq_true (by first | (with_reducible assumption) | assumption)
                                                obtain ⟨ad115, e115, hx115_0, hx115_1, hx115_2, hx115_3⟩ := at_T67 HR1.out (ji48) p115 q115
                                                obtain rfl : ad105 = ad115 := (by injection e115)
                                                replace hx115_0 := (HB.out.cell (World.block_lt_of_cell? w _ hx115_0)).trans hx115_0
                                                replace hx115_1 := (HB.out.cell (World.block_lt_of_cell? w _ hx115_1)).trans hx115_1
                                                replace hx115_2 := (HB.out.cell (World.block_lt_of_cell? w _ hx115_2)).trans hx115_2
                                                replace hx115_3 := (HB.out.cell (World.block_lt_of_cell? w _ hx115_3)).trans hx115_3
                                                replace p115 := eq_true p115
                                                replace q115 := eq_true q115
                                                go_wp2
                                                repeat (go_quiet (fail); try go_wp2)
                                                go_ret
                                                exact ⟨by first | rfl | (simp [errW_none, errW_some] <;> rfl) | (simp only [← hji48]; first | rfl | (simp [errW_none, errW_some] <;> rfl)) | (simp [*, errW_none, errW_some] <;> rfl), by repeat (first | (with_reducible first | exact HB.out | apply below_alloc | apply pw_below_drewN | apply below_drew1 | refine below_set ?_ GE106.out | refine below_set ?_ GE110.out) | exact HB.out)⟩
                                              · rw [if_neg c55] at H
                                                have c55b0 : decide (((rd_T67 l1 x6_2).f0) ≤ ((rd_T67 l1 (ji48)).f0)) = false := decide_eq_false c55
                                                clear c55
                                                by_cases c58 : 0 ≤ ((rd_T67 l1 x6_2).f0)
                                                · rw [if_pos c58] at H
                                                  have c58b0 : decide (0 ≤ ((rd_T67 l1 x6_2).f0)) = true := decide_eq_true c58
                                                  clear c58
                                                  by_cases c59 : ((rd_T67 l1 x6_2).f0) < (x5_2.length : Int)
                                                  · rw [if_pos c59] at H
                                                    have c59b0 : decide (((rd_T67 l1 x6_2).f0) < (x5_2.length : Int)) = true := decide_eq_true c59
                                                    clear c59
                                                    obtain ⟨y116, hy116⟩ : ∃ y_ : List Int, y_ = (x5_2.set (((rd_T67 l1 x6_2).f0) : Int).toNat (wrap64 (((rd_T67 l1 x6_2).f1) + ((rd_T62 l0 ((rd_T67 l1 x6_2).f0)).f2)))) := ⟨_, rfl⟩
                                                    replace H : (spec_JobsLegal.l0 kj25 l0 l1 y116 (wrap64 (x6_2 + 1))) = some r := by first | (rw [hy116]; with_reducible exact H) | (have H2_ := (Option.bind_some _ _).symm.trans H; rw [hy116]; with_reducible exact H2_) | (have H2_ := (Option.bind_some _ _).symm.trans H; with_reducible exact H2_) | with_reducible exact H | (rw [hy116]; exact H) | exact H
                                                    have Ny116 := Aside0.mk hy116
                                                    clear hy116
                                                    have H' := Aside0.mk H
                                                    clear H
                                                    have p113 : 0 ≤ ((ji48) : Int) := of_decide_eq_true (by first | (with_reducible assumption) | assumption)
                                                    have q113 : (ji48) < (l1.length : Int) := of_decide_eq_true (by first | (with_reducible assumption) | assumption)
                                                    obtain ⟨ad113, e113, hx113_0, hx113_1, hx113_2, hx113_3⟩ := at_T67 HR1.out (ji48) p113 q113
                                                    obtain rfl : ad105 = ad113 := (by injection e113)
                                                    replace hx113_0 := (HB.out.cell (World.block_lt_of_cell? w _ hx113_0)).trans hx113_0
                                                    replace hx113_1 := (HB.out.cell (World.block_lt_of_cell? w _ hx113_1)).trans hx113_1
                                                    replace hx113_2 := (HB.out.cell (World.block_lt_of_cell? w _ hx113_2)).trans hx113_2
                                                    replace hx113_3 := (HB.out.cell (World.block_lt_of_cell? w _ hx113_3)).trans hx113_3
                                                    replace p113 := eq_true p113
                                                    replace q113 := eq_true q113
                                                    have hnb61 := NB106_110.out
                                                    have hnc61 := NB110_106.out
                                                    have hcz62_0 : wc.cell? ⟨gb106, 0, none⟩ = some (.int .i64 ((rd_T67 l1 x6_2).f0)) := (blk_cell BK106.out 0).trans rfl
                                                    have hcz62_1 : wc.cell? ⟨gb106, 1, none⟩ = some (.int .i64 ((rd_T67 l1 x6_2).f1)) := (blk_cell BK106.out 1).trans rfl
                                                    have hcz62_2 : wc.cell? ⟨gb106, 2, none⟩ = some (.int .i64 ((rd_T67 l1 x6_2).f2)) := (blk_cell BK106.out 2).trans rfl
                                                    have hcz62_3 : wc.cell? ⟨gb106, 3, none⟩ = some (.int .i64 ((rd_T67 l1 x6_2).f3)) := (blk_cell BK106.out 3).trans rfl
                                                    have hfz62_0 := blk_frozen BK106.out 0
                                                    have hfz62_1 := blk_frozen BK106.out 1
                                                    have hfz62_2 := blk_frozen BK106.out 2
                                                    have hfz62_3 := blk_frozen BK106.out 3
                                                    have p114 : 0 ≤ ((ji48) : Int) := of_decide_eq_true (by first | (with_reducible assumption) | assumption)
                                                    have q114 : (ji48) < (l1.length : Int) := of_decide_eq_true (by first | (with_reducible assumption) | assumption)
                                                    obtain ⟨ad114, e114, hx114_0, hx114_1, hx114_2, hx114_3⟩ := at_T67 HR1.out (ji48) p114 q114
                                                    obtain rfl : ad105 = ad114 := (by injection e114)
                                                    replace hx114_0 := (HB.out.cell (World.block_lt_of_cell? w _ hx114_0)).trans hx114_0
                                                    replace hx114_1 := (HB.out.cell (World.block_lt_of_cell? w _ hx114_1)).trans hx114_1
                                                    replace hx114_2 := (HB.out.cell (World.block_lt_of_cell? w _ hx114_2)).trans hx114_2
                                                    replace hx114_3 := (HB.out.cell (World.block_lt_of_cell? w _ hx114_3)).trans hx114_3
                                                    replace p114 := eq_true p114
                                                    replace q114 := eq_true q114
                                                    have p115 : 0 ≤ ((ji48) : Int) := of_decide_eq_true (by first | (with_reducible assumption) | assumption)
                                                    have q115 : (ji48) < (l1.length : Int) := of_decide_eq_true (by first | (with_reducible assumption) | assumption)
                                                    obtain ⟨ad115, e115, hx115_0, hx115_1, hx115_2, hx115_3⟩ := at_T67 HR1.out (ji48) p115 q115
                                                    obtain rfl : ad105 = ad115 := (by injection e115)
                                                    replace hx115_0 := (HB.out.cell (World.block_lt_of_cell? w _ hx115_0)).trans hx115_0
                                                    replace hx115_1 := (HB.out.cell (World.block_lt_of_cell? w _ hx115_1)).trans hx115_1
                                                    replace hx115_2 := (HB.out.cell (World.block_lt_of_cell? w _ hx115_2)).trans hx115_2
                                                    replace hx115_3 := (HB.out.cell (World.block_lt_of_cell? w _ hx115_3)).trans hx115_3
                                                    replace p115 := eq_true p115
                                                    replace q115 := eq_true q115
                                                    have hcz63_0 : wc.cell? ⟨gb110, 0, none⟩ = some (.int .i64 ((rd_T62 l0 ((rd_T67 l1 x6_2).f0)).f0)) := (blk_cell BK110.out 0).trans rfl
                                                    have hcz63_1 : wc.cell? ⟨gb110, 1, none⟩ = some (.int .i64 ((rd_T62 l0 ((rd_T67 l1 x6_2).f0)).f1)) := (blk_cell BK110.out 1).trans rfl
                                                    have hcz63_2 : wc.cell? ⟨gb110, 2, none⟩ = some (.int .i64 ((rd_T62 l0 ((rd_T67 l1 x6_2).f0)).f2)) := (blk_cell BK110.out 2).trans rfl
                                                    have hfz63_0 := blk_frozen BK110.out 0
                                                    have hfz63_1 := blk_frozen BK110.out 1
                                                    have hfz63_2 := blk_frozen BK110.out 2
                                                    have p60 : 0 ≤ (((rd_T67 l1 x6_2).f0) : Int) := of_decide_eq_true (by first | (with_reducible assumption) | assumption)
                                                    have q60 : (((rd_T67 l1 x6_2).f0) : Int) < ((x5_2.length : Int) : Int) := of_decide_eq_true (by first | (with_reducible assumption) | assumption)
                                                    obtain ⟨go60, co60, eo60, gb60, gl60, cl60, HG60⟩ := Kd.R_form HO_5.out (by omega)
                                                    (first | cases eo60 | (injection eo60 with ea_ en_ ec_; (first | subst ea_ | (injection ea_ with ea_; subst ea_)); subst ec_; clear en_))
                                                    have GB60 := Aside0.mk gb60
                                                    have GG60 := Aside0.mk HG60
                                                    clear gb60 gl60 HG60
                                                    obtain ⟨hx60_0, hf60_0⟩ := Kd.R_celln 0 HO_5.out (((rd_T67 l1 x6_2).f0) : Int) p60 q60
                                                    replace p60 := eq_true p60
                                                    replace q60 := eq_true q60
                                                    have HP64 := Kd.R_putg HO_5.out (((rd_T67 l1 x6_2).f0) : Int) (wrap64 (((rd_T67 l1 x6_2).f1) + ((rd_T62 l0 ((rd_T67 l1 x6_2).f0)).f2)))
                                                    go_wp2_with (first | ((with_reducible refine gate_store (t := 3) (p := 117) rfl ?_); (try (rw [drewN_self wc]; generalize hq_ : World.drewN wc _ = wc; have n0_ := Aside0.mk (Kd.R_at hq_ HO_5.out); have n1_ := Aside0.mk (blk_at hq_ BK106.out); have n2_ := Aside0.mk (blk_at hq_ BK110.out); have n3_ := Aside0.mk (below_at hq_ HB.out); clear hq_ HO_5 BK106 BK110 HB; have HO_5 := n0_; have BK106 := n1_; have BK110 := n2_; have HB := n3_; clear n0_ n1_ n2_ n3_; (try (have HP64 := Kd.R_putg HO_5.out (((rd_T67 l1 x6_2).f0) : Int) (wrap64 (((rd_T67 l1 x6_2).f1) + ((rd_T62 l0 ((rd_T67 l1 x6_2).f0)).f2))); obtain ⟨hx60_1, hf60_1⟩ := Kd.R_celln 0 HO_5.out (((rd_T67 l1 x6_2).f0) : Int) (of_eq_true p60) (of_eq_true q60))))); refine store_event (t := 3) (p := 117) (v := ?vo_w65) (w1 := (wc.setCell ⟨go60, (((rd_T67 l1 x6_2).f0) : Int).toNat, none⟩ (.int .i64 (wrap64 (((rd_T67 l1 x6_2).f1) + ((rd_T62 l0 ((rd_T67 l1 x6_2).f0)).f2)))))) ?hg ?ho ?hn ?hr ?_; (case ho => rfl); (case hg => rfl); (case hn => rfl); (case hr => first | (go_simp; done) | (go_simp; rfl)); intro w65 hw; have hg : wc.grownBy w65 (some go60) := (by rw [hw]; exact HP64.2); have hp_ : Kd.R (Kd.int .i64) 3 w65 w.heap.size (fun _ => True) (.slice (some ⟨go60, 0, none⟩) x5_2.length co60) y116 := (by rw [hw, Ny116.out]; exact HP64.1); clear HP64; have n0_ := Aside0.mk (hp_); have n1_ := Aside0.mk (blk_grown (g := gb106) (o := .cells #[.int .i64 ((rd_T67 l1 x6_2).f0), .int .i64 ((rd_T67 l1 x6_2).f1), .int .i64 ((rd_T67 l1 x6_2).f2), .int .i64 ((rd_T67 l1 x6_2).f3)] 67 (0, 0)) (by (with_reducible repeat (first | refine blk_drewN ?_ _ | refine blk_drew ?_ | refine blk_alloc ?_ _)); exact BK106.out) hg (Kd.R_ne HO_5.out BK106.out (by decide))); have n2_ := Aside0.mk (blk_grown (g := gb110) (o := .cells #[.int .i64 ((rd_T62 l0 ((rd_T67 l1 x6_2).f0)).f0), .int .i64 ((rd_T62 l0 ((rd_T67 l1 x6_2).f0)).f1), .int .i64 ((rd_T62 l0 ((rd_T67 l1 x6_2).f0)).f2)] 62 (0, 0)) (by (with_reducible repeat (first | refine blk_drewN ?_ _ | refine blk_drew ?_ | refine blk_alloc ?_ _)); exact BK110.out) hg (Kd.R_ne HO_5.out BK110.out (by decide))); have n3_ := Aside0.mk ((by rw [hw]; exact below_set (HB.out) GB60.out : Below w.heap.size w w65)); clear HO_5; clear BK106; clear BK110; clear HB; have HO_5 := n0_; have BK106 := n1_; have BK110 := n2_; have HB := n3_; clear n0_ n1_ n2_ n3_; clear hg hw hp_))
                                                    repeat (go_quiet (first | ((with_reducible refine gate_store (t := 3) (p := 117) rfl ?_); (try (rw [drewN_self wc]; generalize hq_ : World.drewN wc _ = wc; have n0_ := Aside0.mk (Kd.R_at hq_ HO_5.out); have n1_ := Aside0.mk (blk_at hq_ BK106.out); have n2_ := Aside0.mk (blk_at hq_ BK110.out); have n3_ := Aside0.mk (below_at hq_ HB.out); clear hq_ HO_5 BK106 BK110 HB; have HO_5 := n0_; have BK106 := n1_; have BK110 := n2_; have HB := n3_; clear n0_ n1_ n2_ n3_; (try (have HP64 := Kd.R_putg HO_5.out (((rd_T67 l1 x6_2).f0) : Int) (wrap64 (((rd_T67 l1 x6_2).f1) + ((rd_T62 l0 ((rd_T67 l1 x6_2).f0)).f2))); obtain ⟨hx60_1, hf60_1⟩ := Kd.R_celln 0 HO_5.out (((rd_T67 l1 x6_2).f0) : Int) (of_eq_true p60) (of_eq_true q60))))); refine store_event (t := 3) (p := 117) (v := ?vo_w65) (w1 := (wc.setCell ⟨go60, (((rd_T67 l1 x6_2).f0) : Int).toNat, none⟩ (.int .i64 (wrap64 (((rd_T67 l1 x6_2).f1) + ((rd_T62 l0 ((rd_T67 l1 x6_2).f0)).f2)))))) ?hg ?ho ?hn ?hr ?_; (case ho => rfl); (case hg => rfl); (case hn => rfl); (case hr => first | (go_simp; done) | (go_simp; rfl)); intro w65 hw; have hg : wc.grownBy w65 (some go60) := (by rw [hw]; exact HP64.2); have hp_ : Kd.R (Kd.int .i64) 3 w65 w.heap.size (fun _ => True) (.slice (some ⟨go60, 0, none⟩) x5_2.length co60) y116 := (by rw [hw, Ny116.out]; exact HP64.1); clear HP64; have n0_ := Aside0.mk (hp_); have n1_ := Aside0.mk (blk_grown (g := gb106) (o := .cells #[.int .i64 ((rd_T67 l1 x6_2).f0), .int .i64 ((rd_T67 l1 x6_2).f1), .int .i64 ((rd_T67 l1 x6_2).f2), .int .i64 ((rd_T67 l1 x6_2).f3)] 67 (0, 0)) (by (with_reducible repeat (first | refine blk_drewN ?_ _ | refine blk_drew ?_ | refine blk_alloc ?_ _)); exact BK106.out) hg (Kd.R_ne HO_5.out BK106.out (by decide))); have n2_ := Aside0.mk (blk_grown (g := gb110) (o := .cells #[.int .i64 ((rd_T62 l0 ((rd_T67 l1 x6_2).f0)).f0), .int .i64 ((rd_T62 l0 ((rd_T67 l1 x6_2).f0)).f1), .int .i64 ((rd_T62 l0 ((rd_T67 l1 x6_2).f0)).f2)] 62 (0, 0)) (by (with_reducible repeat (first | refine blk_drewN ?_ _ | refine blk_drew ?_ | refine blk_alloc ?_ _)); exact BK110.out) hg (Kd.R_ne HO_5.out BK110.out (by decide))); have n3_ := Aside0.mk ((by rw [hw]; exact below_set (HB.out) GB60.out : Below w.heap.size w w65)); clear HO_5; clear BK106; clear BK110; clear HB; have HO_5 := n0_; have BK106 := n1_; have BK110 := n2_; have HB := n3_; clear n0_ n1_ n2_ n3_; clear hg hw hp_)); try go_wp2_with (first | ((with_reducible refine gate_store (t := 3) (p := 117) rfl ?_); (try (rw [drewN_self wc]; generalize hq_ : World.drewN wc _ = wc; have n0_ := Aside0.mk (Kd.R_at hq_ HO_5.out); have n1_ := Aside0.mk (blk_at hq_ BK106.out); have n2_ := Aside0.mk (blk_at hq_ BK110.out); have n3_ := Aside0.mk (below_at hq_ HB.out); clear hq_ HO_5 BK106 BK110 HB; have HO_5 := n0_; have BK106 := n1_; have BK110 := n2_; have HB := n3_; clear n0_ n1_ n2_ n3_; (try (have HP64 := Kd.R_putg HO_5.out (((rd_T67 l1 x6_2).f0) : Int) (wrap64 (((rd_T67 l1 x6_2).f1) + ((rd_T62 l0 ((rd_T67 l1 x6_2).f0)).f2))); obtain ⟨hx60_1, hf60_1⟩ := Kd.R_celln 0 HO_5.out (((rd_T67 l1 x6_2).f0) : Int) (of_eq_true p60) (of_eq_true q60))))); refine store_event (t := 3) (p := 117) (v := ?vo_w65) (w1 := (wc.setCell ⟨go60, (((rd_T67 l1 x6_2).f0) : Int).toNat, none⟩ (.int .i64 (wrap64 (((rd_T67 l1 x6_2).f1) + ((rd_T62 l0 ((rd_T67 l1 x6_2).f0)).f2)))))) ?hg ?ho ?hn ?hr ?_; (case ho => rfl); (case hg => rfl); (case hn => rfl); (case hr => first | (go_simp; done) | (go_simp; rfl)); intro w65 hw; have hg : wc.grownBy w65 (some go60) := (by rw [hw]; exact HP64.2); have hp_ : Kd.R (Kd.int .i64) 3 w65 w.heap.size (fun _ => True) (.slice (some ⟨go60, 0, none⟩) x5_2.length co60) y116 := (by rw [hw, Ny116.out]; exact HP64.1); clear HP64; have n0_ := Aside0.mk (hp_); have n1_ := Aside0.mk (blk_grown (g := gb106) (o := .cells #[.int .i64 ((rd_T67 l1 x6_2).f0), .int .i64 ((rd_T67 l1 x6_2).f1), .int .i64 ((rd_T67 l1 x6_2).f2), .int .i64 ((rd_T67 l1 x6_2).f3)] 67 (0, 0)) (by (with_reducible repeat (first | refine blk_drewN ?_ _ | refine blk_drew ?_ | refine blk_alloc ?_ _)); exact BK106.out) hg (Kd.R_ne HO_5.out BK106.out (by decide))); have n2_ := Aside0.mk (blk_grown (g := gb110) (o := .cells #[.int .i64 ((rd_T62 l0 ((rd_T67 l1 x6_2).f0)).f0), .int .i64 ((rd_T62 l0 ((rd_T67 l1 x6_2).f0)).f1), .int .i64 ((rd_T62 l0 ((rd_T67 l1 x6_2).f0)).f2)] 62 (0, 0)) (by (with_reducible repeat (first | refine blk_drewN ?_ _ | refine blk_drew ?_ | refine blk_alloc ?_ _)); exact BK110.out) hg (Kd.R_ne HO_5.out BK110.out (by decide))); have n3_ := Aside0.mk ((by rw [hw]; exact below_set (HB.out) GB60.out : Below w.heap.size w w65)); clear HO_5; clear BK106; clear BK110; clear HB; have HO_5 := n0_; have BK106 := n1_; have BK110 := n2_; have HB := n3_; clear n0_ n1_ n2_ n3_; clear hg hw hp_)))
                                                    go_roundg kj25
                                                    case measure => have := HJ2.out; have := HK2.out; have := HJ14.out; have := HJ25.out; omega
                                                    case rel => exact ⟨(y116), (wrap64 (x6_2 + 1)), (by first | rfl | (simp; done) | (simp [*]; done) | (simp only [i64_w, i32_w]; done) | (simp [*, i64_w, i32_w]; done)), H', ⟨by have := HJ2.out; have := HK2.out; have := HJ14.out; have := HJ25.out; omega⟩, ⟨by (with_reducible repeat (first | apply Kd.R_alloc | apply Kd.R_drewN | apply Kd.R_drew)); exact HO_5.out⟩, ⟨by repeat (first | (with_reducible first | exact HB.out | apply below_alloc | apply pw_below_drewN | apply below_drew1 | refine below_set ?_ GE106.out | refine below_set ?_ GE110.out) | exact HB.out)⟩⟩
                                                  · rw [if_neg c59] at H
                                                    exact absurd H (by simp)
                                                · rw [if_neg c58] at H
                                                  exact absurd H (by simp)
                                            · rw [if_neg c54] at H
                                              have c54b0 : (((rd_T67 l1 (ji48)).f1) == ((rd_T67 l1 x6_2).f1)) = false := beq_eq_false_iff_ne.mpr c54
                                              have c54b1 : (((rd_T67 l1 (ji48)).f1) != ((rd_T67 l1 x6_2).f1)) = true := bne_iff_ne.mpr c54
                                              by_cases c66 : 0 ≤ ((rd_T67 l1 x6_2).f0)
                                              · rw [if_pos c66] at H
                                                have c66b0 : decide (0 ≤ ((rd_T67 l1 x6_2).f0)) = true := decide_eq_true c66
                                                clear c66
                                                by_cases c67 : ((rd_T67 l1 x6_2).f0) < (x5_2.length : Int)
                                                · rw [if_pos c67] at H
                                                  have c67b0 : decide (((rd_T67 l1 x6_2).f0) < (x5_2.length : Int)) = true := decide_eq_true c67
                                                  clear c67
                                                  obtain ⟨y117, hy117⟩ : ∃ y_ : List Int, y_ = (x5_2.set (((rd_T67 l1 x6_2).f0) : Int).toNat (wrap64 (((rd_T67 l1 x6_2).f1) + ((rd_T62 l0 ((rd_T67 l1 x6_2).f0)).f2)))) := ⟨_, rfl⟩
                                                  replace H : (spec_JobsLegal.l0 kj25 l0 l1 y117 (wrap64 (x6_2 + 1))) = some r := by first | (rw [hy117]; with_reducible exact H) | (have H2_ := (Option.bind_some _ _).symm.trans H; rw [hy117]; with_reducible exact H2_) | (have H2_ := (Option.bind_some _ _).symm.trans H; with_reducible exact H2_) | with_reducible exact H | (rw [hy117]; exact H) | exact H
                                                  have Ny117 := Aside0.mk hy117
                                                  clear hy117
                                                  have H' := Aside0.mk H
                                                  clear H
                                                  have p113 : 0 ≤ ((ji48) : Int) := of_decide_eq_true (by first | (with_reducible assumption) | assumption)
                                                  have q113 : (ji48) < (l1.length : Int) := of_decide_eq_true (by first | (with_reducible assumption) | assumption)
                                                  obtain ⟨ad113, e113, hx113_0, hx113_1, hx113_2, hx113_3⟩ := at_T67 HR1.out (ji48) p113 q113
                                                  obtain rfl : ad105 = ad113 := (by injection e113)
                                                  replace hx113_0 := (HB.out.cell (World.block_lt_of_cell? w _ hx113_0)).trans hx113_0
                                                  replace hx113_1 := (HB.out.cell (World.block_lt_of_cell? w _ hx113_1)).trans hx113_1
                                                  replace hx113_2 := (HB.out.cell (World.block_lt_of_cell? w _ hx113_2)).trans hx113_2
                                                  replace hx113_3 := (HB.out.cell (World.block_lt_of_cell? w _ hx113_3)).trans hx113_3
                                                  replace p113 := eq_true p113
                                                  replace q113 := eq_true q113
                                                  have hnb69 := NB106_110.out
                                                  have hnc69 := NB110_106.out
                                                  have hcz70_0 : wc.cell? ⟨gb106, 0, none⟩ = some (.int .i64 ((rd_T67 l1 x6_2).f0)) := (blk_cell BK106.out 0).trans rfl
                                                  have hcz70_1 : wc.cell? ⟨gb106, 1, none⟩ = some (.int .i64 ((rd_T67 l1 x6_2).f1)) := (blk_cell BK106.out 1).trans rfl
                                                  have hcz70_2 : wc.cell? ⟨gb106, 2, none⟩ = some (.int .i64 ((rd_T67 l1 x6_2).f2)) := (blk_cell BK106.out 2).trans rfl
                                                  have hcz70_3 : wc.cell? ⟨gb106, 3, none⟩ = some (.int .i64 ((rd_T67 l1 x6_2).f3)) := (blk_cell BK106.out 3).trans rfl
                                                  have hfz70_0 := blk_frozen BK106.out 0
                                                  have hfz70_1 := blk_frozen BK106.out 1
                                                  have hfz70_2 := blk_frozen BK106.out 2
                                                  have hfz70_3 := blk_frozen BK106.out 3
                                                  have p114 : 0 ≤ ((ji48) : Int) := of_decide_eq_true (by first | (with_reducible assumption) | assumption)
                                                  have q114 : (ji48) < (l1.length : Int) := of_decide_eq_true (by first | (with_reducible assumption) | assumption)
                                                  obtain ⟨ad114, e114, hx114_0, hx114_1, hx114_2, hx114_3⟩ := at_T67 HR1.out (ji48) p114 q114
                                                  obtain rfl : ad105 = ad114 := (by injection e114)
                                                  replace hx114_0 := (HB.out.cell (World.block_lt_of_cell? w _ hx114_0)).trans hx114_0
                                                  replace hx114_1 := (HB.out.cell (World.block_lt_of_cell? w _ hx114_1)).trans hx114_1
                                                  replace hx114_2 := (HB.out.cell (World.block_lt_of_cell? w _ hx114_2)).trans hx114_2
                                                  replace hx114_3 := (HB.out.cell (World.block_lt_of_cell? w _ hx114_3)).trans hx114_3
                                                  replace p114 := eq_true p114
                                                  replace q114 := eq_true q114
                                                  have hcz71_0 : wc.cell? ⟨gb110, 0, none⟩ = some (.int .i64 ((rd_T62 l0 ((rd_T67 l1 x6_2).f0)).f0)) := (blk_cell BK110.out 0).trans rfl
                                                  have hcz71_1 : wc.cell? ⟨gb110, 1, none⟩ = some (.int .i64 ((rd_T62 l0 ((rd_T67 l1 x6_2).f0)).f1)) := (blk_cell BK110.out 1).trans rfl
                                                  have hcz71_2 : wc.cell? ⟨gb110, 2, none⟩ = some (.int .i64 ((rd_T62 l0 ((rd_T67 l1 x6_2).f0)).f2)) := (blk_cell BK110.out 2).trans rfl
                                                  have hfz71_0 := blk_frozen BK110.out 0
                                                  have hfz71_1 := blk_frozen BK110.out 1
                                                  have hfz71_2 := blk_frozen BK110.out 2
                                                  have p68 : 0 ≤ (((rd_T67 l1 x6_2).f0) : Int) := of_decide_eq_true (by first | (with_reducible assumption) | assumption)
                                                  have q68 : (((rd_T67 l1 x6_2).f0) : Int) < ((x5_2.length : Int) : Int) := of_decide_eq_true (by first | (with_reducible assumption) | assumption)
                                                  obtain ⟨go68, co68, eo68, gb68, gl68, cl68, HG68⟩ := Kd.R_form HO_5.out (by omega)
                                                  (first | cases eo68 | (injection eo68 with ea_ en_ ec_; (first | subst ea_ | (injection ea_ with ea_; subst ea_)); subst ec_; clear en_))
                                                  have GB68 := Aside0.mk gb68
                                                  have GG68 := Aside0.mk HG68
                                                  clear gb68 gl68 HG68
                                                  obtain ⟨hx68_0, hf68_0⟩ := Kd.R_celln 0 HO_5.out (((rd_T67 l1 x6_2).f0) : Int) p68 q68
                                                  replace p68 := eq_true p68
                                                  replace q68 := eq_true q68
                                                  have HP72 := Kd.R_putg HO_5.out (((rd_T67 l1 x6_2).f0) : Int) (wrap64 (((rd_T67 l1 x6_2).f1) + ((rd_T62 l0 ((rd_T67 l1 x6_2).f0)).f2)))
                                                  go_wp2_with (first | ((with_reducible refine gate_store (t := 3) (p := 117) rfl ?_); (try (rw [drewN_self wc]; generalize hq_ : World.drewN wc _ = wc; have n0_ := Aside0.mk (Kd.R_at hq_ HO_5.out); have n1_ := Aside0.mk (blk_at hq_ BK106.out); have n2_ := Aside0.mk (blk_at hq_ BK110.out); have n3_ := Aside0.mk (below_at hq_ HB.out); clear hq_ HO_5 BK106 BK110 HB; have HO_5 := n0_; have BK106 := n1_; have BK110 := n2_; have HB := n3_; clear n0_ n1_ n2_ n3_; (try (have HP72 := Kd.R_putg HO_5.out (((rd_T67 l1 x6_2).f0) : Int) (wrap64 (((rd_T67 l1 x6_2).f1) + ((rd_T62 l0 ((rd_T67 l1 x6_2).f0)).f2))); obtain ⟨hx68_1, hf68_1⟩ := Kd.R_celln 0 HO_5.out (((rd_T67 l1 x6_2).f0) : Int) (of_eq_true p68) (of_eq_true q68))))); refine store_event (t := 3) (p := 117) (v := ?vo_w73) (w1 := (wc.setCell ⟨go68, (((rd_T67 l1 x6_2).f0) : Int).toNat, none⟩ (.int .i64 (wrap64 (((rd_T67 l1 x6_2).f1) + ((rd_T62 l0 ((rd_T67 l1 x6_2).f0)).f2)))))) ?hg ?ho ?hn ?hr ?_; (case ho => rfl); (case hg => rfl); (case hn => rfl); (case hr => first | (go_simp; done) | (go_simp; rfl)); intro w73 hw; have hg : wc.grownBy w73 (some go68) := (by rw [hw]; exact HP72.2); have hp_ : Kd.R (Kd.int .i64) 3 w73 w.heap.size (fun _ => True) (.slice (some ⟨go68, 0, none⟩) x5_2.length co68) y117 := (by rw [hw, Ny117.out]; exact HP72.1); clear HP72; have n0_ := Aside0.mk (hp_); have n1_ := Aside0.mk (blk_grown (g := gb106) (o := .cells #[.int .i64 ((rd_T67 l1 x6_2).f0), .int .i64 ((rd_T67 l1 x6_2).f1), .int .i64 ((rd_T67 l1 x6_2).f2), .int .i64 ((rd_T67 l1 x6_2).f3)] 67 (0, 0)) (by (with_reducible repeat (first | refine blk_drewN ?_ _ | refine blk_drew ?_ | refine blk_alloc ?_ _)); exact BK106.out) hg (Kd.R_ne HO_5.out BK106.out (by decide))); have n2_ := Aside0.mk (blk_grown (g := gb110) (o := .cells #[.int .i64 ((rd_T62 l0 ((rd_T67 l1 x6_2).f0)).f0), .int .i64 ((rd_T62 l0 ((rd_T67 l1 x6_2).f0)).f1), .int .i64 ((rd_T62 l0 ((rd_T67 l1 x6_2).f0)).f2)] 62 (0, 0)) (by (with_reducible repeat (first | refine blk_drewN ?_ _ | refine blk_drew ?_ | refine blk_alloc ?_ _)); exact BK110.out) hg (Kd.R_ne HO_5.out BK110.out (by decide))); have n3_ := Aside0.mk ((by rw [hw]; exact below_set (HB.out) GB68.out : Below w.heap.size w w73)); clear HO_5; clear BK106; clear BK110; clear HB; have HO_5 := n0_; have BK106 := n1_; have BK110 := n2_; have HB := n3_; clear n0_ n1_ n2_ n3_; clear hg hw hp_))
                                                  repeat (go_quiet (first | ((with_reducible refine gate_store (t := 3) (p := 117) rfl ?_); (try (rw [drewN_self wc]; generalize hq_ : World.drewN wc _ = wc; have n0_ := Aside0.mk (Kd.R_at hq_ HO_5.out); have n1_ := Aside0.mk (blk_at hq_ BK106.out); have n2_ := Aside0.mk (blk_at hq_ BK110.out); have n3_ := Aside0.mk (below_at hq_ HB.out); clear hq_ HO_5 BK106 BK110 HB; have HO_5 := n0_; have BK106 := n1_; have BK110 := n2_; have HB := n3_; clear n0_ n1_ n2_ n3_; (try (have HP72 := Kd.R_putg HO_5.out (((rd_T67 l1 x6_2).f0) : Int) (wrap64 (((rd_T67 l1 x6_2).f1) + ((rd_T62 l0 ((rd_T67 l1 x6_2).f0)).f2))); obtain ⟨hx68_1, hf68_1⟩ := Kd.R_celln 0 HO_5.out (((rd_T67 l1 x6_2).f0) : Int) (of_eq_true p68) (of_eq_true q68))))); refine store_event (t := 3) (p := 117) (v := ?vo_w73) (w1 := (wc.setCell ⟨go68, (((rd_T67 l1 x6_2).f0) : Int).toNat, none⟩ (.int .i64 (wrap64 (((rd_T67 l1 x6_2).f1) + ((rd_T62 l0 ((rd_T67 l1 x6_2).f0)).f2)))))) ?hg ?ho ?hn ?hr ?_; (case ho => rfl); (case hg => rfl); (case hn => rfl); (case hr => first | (go_simp; done) | (go_simp; rfl)); intro w73 hw; have hg : wc.grownBy w73 (some go68) := (by rw [hw]; exact HP72.2); have hp_ : Kd.R (Kd.int .i64) 3 w73 w.heap.size (fun _ => True) (.slice (some ⟨go68, 0, none⟩) x5_2.length co68) y117 := (by rw [hw, Ny117.out]; exact HP72.1); clear HP72; have n0_ := Aside0.mk (hp_); have n1_ := Aside0.mk (blk_grown (g := gb106) (o := .cells #[.int .i64 ((rd_T67 l1 x6_2).f0), .int .i64 ((rd_T67 l1 x6_2).f1), .int .i64 ((rd_T67 l1 x6_2).f2), .int .i64 ((rd_T67 l1 x6_2).f3)] 67 (0, 0)) (by (with_reducible repeat (first | refine blk_drewN ?_ _ | refine blk_drew ?_ | refine blk_alloc ?_ _)); exact BK106.out) hg (Kd.R_ne HO_5.out BK106.out (by decide))); have n2_ := Aside0.mk (blk_grown (g := gb110) (o := .cells #[.int .i64 ((rd_T62 l0 ((rd_T67 l1 x6_2).f0)).f0), .int .i64 ((rd_T62 l0 ((rd_T67 l1 x6_2).f0)).f1), .int .i64 ((rd_T62 l0 ((rd_T67 l1 x6_2).f0)).f2)] 62 (0, 0)) (by (with_reducible repeat (first | refine blk_drewN ?_ _ | refine blk_drew ?_ | refine blk_alloc ?_ _)); exact BK110.out) hg (Kd.R_ne HO_5.out BK110.out (by decide))); have n3_ := Aside0.mk ((by rw [hw]; exact below_set (HB.out) GB68.out : Below w.heap.size w w73)); clear HO_5; clear BK106; clear BK110; clear HB; have HO_5 := n0_; have BK106 := n1_; have BK110 := n2_; have HB := n3_; clear n0_ n1_ n2_ n3_; clear hg hw hp_)); try go_wp2_with (first | ((with_reducible refine gate_store (t := 3) (p := 117) rfl ?_); (try (rw [drewN_self wc]; generalize hq_ : World.drewN wc _ = wc; have n0_ := Aside0.mk (Kd.R_at hq_ HO_5.out); have n1_ := Aside0.mk (blk_at hq_ BK106.out); have n2_ := Aside0.mk (blk_at hq_ BK110.out); have n3_ := Aside0.mk (below_at hq_ HB.out); clear hq_ HO_5 BK106 BK110 HB; have HO_5 := n0_; have BK106 := n1_; have BK110 := n2_; have HB := n3_; clear n0_ n1_ n2_ n3_; (try (have HP72 := Kd.R_putg HO_5.out (((rd_T67 l1 x6_2).f0) : Int) (wrap64 (((rd_T67 l1 x6_2).f1) + ((rd_T62 l0 ((rd_T67 l1 x6_2).f0)).f2))); obtain ⟨hx68_1, hf68_1⟩ := Kd.R_celln 0 HO_5.out (((rd_T67 l1 x6_2).f0) : Int) (of_eq_true p68) (of_eq_true q68))))); refine store_event (t := 3) (p := 117) (v := ?vo_w73) (w1 := (wc.setCell ⟨go68, (((rd_T67 l1 x6_2).f0) : Int).toNat, none⟩ (.int .i64 (wrap64 (((rd_T67 l1 x6_2).f1) + ((rd_T62 l0 ((rd_T67 l1 x6_2).f0)).f2)))))) ?hg ?ho ?hn ?hr ?_; (case ho => rfl); (case hg => rfl); (case hn => rfl); (case hr => first | (go_simp; done) | (go_simp; rfl)); intro w73 hw; have hg : wc.grownBy w73 (some go68) := (by rw [hw]; exact HP72.2); have hp_ : Kd.R (Kd.int .i64) 3 w73 w.heap.size (fun _ => True) (.slice (some ⟨go68, 0, none⟩) x5_2.length co68) y117 := (by rw [hw, Ny117.out]; exact HP72.1); clear HP72; have n0_ := Aside0.mk (hp_); have n1_ := Aside0.mk (blk_grown (g := gb106) (o := .cells #[.int .i64 ((rd_T67 l1 x6_2).f0), .int .i64 ((rd_T67 l1 x6_2).f1), .int .i64 ((rd_T67 l1 x6_2).f2), .int .i64 ((rd_T67 l1 x6_2).f3)] 67 (0, 0)) (by (with_reducible repeat (first | refine blk_drewN ?_ _ | refine blk_drew ?_ | refine blk_alloc ?_ _)); exact BK106.out) hg (Kd.R_ne HO_5.out BK106.out (by decide))); have n2_ := Aside0.mk (blk_grown (g := gb110) (o := .cells #[.int .i64 ((rd_T62 l0 ((rd_T67 l1 x6_2).f0)).f0), .int .i64 ((rd_T62 l0 ((rd_T67 l1 x6_2).f0)).f1), .int .i64 ((rd_T62 l0 ((rd_T67 l1 x6_2).f0)).f2)] 62 (0, 0)) (by (with_reducible repeat (first | refine blk_drewN ?_ _ | refine blk_drew ?_ | refine blk_alloc ?_ _)); exact BK110.out) hg (Kd.R_ne HO_5.out BK110.out (by decide))); have n3_ := Aside0.mk ((by rw [hw]; exact below_set (HB.out) GB68.out : Below w.heap.size w w73)); clear HO_5; clear BK106; clear BK110; clear HB; have HO_5 := n0_; have BK106 := n1_; have BK110 := n2_; have HB := n3_; clear n0_ n1_ n2_ n3_; clear hg hw hp_)))
                                                  go_roundg kj25
                                                  case measure => have := HJ2.out; have := HK2.out; have := HJ14.out; have := HJ25.out; omega
                                                  case rel => exact ⟨(y117), (wrap64 (x6_2 + 1)), (by first | rfl | (simp; done) | (simp [*]; done) | (simp only [i64_w, i32_w]; done) | (simp [*, i64_w, i32_w]; done)), H', ⟨by have := HJ2.out; have := HK2.out; have := HJ14.out; have := HJ25.out; omega⟩, ⟨by (with_reducible repeat (first | apply Kd.R_alloc | apply Kd.R_drewN | apply Kd.R_drew)); exact HO_5.out⟩, ⟨by repeat (first | (with_reducible first | exact HB.out | apply below_alloc | apply pw_below_drewN | apply below_drew1 | refine below_set ?_ GE106.out | refine below_set ?_ GE110.out) | exact HB.out)⟩⟩
                                                · rw [if_neg c67] at H
                                                  exact absurd H (by simp)
                                              · rw [if_neg c66] at H
                                                exact absurd H (by simp)
                                        · rw [if_neg c50] at H
                                          exact absurd H (by simp)
                                      · rw [if_neg c49] at H
                                        exact absurd H (by simp)
                                    · rw [if_neg c47] at H
                                      have c47b0 : decide (0 < x6_2) = false := decide_eq_false c47
                                      clear c47
                                      by_cases c74 : 0 ≤ ((rd_T67 l1 x6_2).f0)
                                      · rw [if_pos c74] at H
                                        have c74b0 : decide (0 ≤ ((rd_T67 l1 x6_2).f0)) = true := decide_eq_true c74
                                        clear c74
                                        by_cases c75 : ((rd_T67 l1 x6_2).f0) < (x5_2.length : Int)
                                        · rw [if_pos c75] at H
                                          have c75b0 : decide (((rd_T67 l1 x6_2).f0) < (x5_2.length : Int)) = true := decide_eq_true c75
                                          clear c75
                                          obtain ⟨y118, hy118⟩ : ∃ y_ : List Int, y_ = (x5_2.set (((rd_T67 l1 x6_2).f0) : Int).toNat (wrap64 (((rd_T67 l1 x6_2).f1) + ((rd_T62 l0 ((rd_T67 l1 x6_2).f0)).f2)))) := ⟨_, rfl⟩
                                          replace H : (spec_JobsLegal.l0 kj25 l0 l1 y118 (wrap64 (x6_2 + 1))) = some r := by first | (rw [hy118]; with_reducible exact H) | (have H2_ := (Option.bind_some _ _).symm.trans H; rw [hy118]; with_reducible exact H2_) | (have H2_ := (Option.bind_some _ _).symm.trans H; with_reducible exact H2_) | with_reducible exact H | (rw [hy118]; exact H) | exact H
                                          have Ny118 := Aside0.mk hy118
                                          clear hy118
                                          have H' := Aside0.mk H
                                          clear H
                                          have hnb77 := NB106_110.out
                                          have hnc77 := NB110_106.out
                                          have hcz78_0 : wc.cell? ⟨gb106, 0, none⟩ = some (.int .i64 ((rd_T67 l1 x6_2).f0)) := (blk_cell BK106.out 0).trans rfl
                                          have hcz78_1 : wc.cell? ⟨gb106, 1, none⟩ = some (.int .i64 ((rd_T67 l1 x6_2).f1)) := (blk_cell BK106.out 1).trans rfl
                                          have hcz78_2 : wc.cell? ⟨gb106, 2, none⟩ = some (.int .i64 ((rd_T67 l1 x6_2).f2)) := (blk_cell BK106.out 2).trans rfl
                                          have hcz78_3 : wc.cell? ⟨gb106, 3, none⟩ = some (.int .i64 ((rd_T67 l1 x6_2).f3)) := (blk_cell BK106.out 3).trans rfl
                                          have hfz78_0 := blk_frozen BK106.out 0
                                          have hfz78_1 := blk_frozen BK106.out 1
                                          have hfz78_2 := blk_frozen BK106.out 2
                                          have hfz78_3 := blk_frozen BK106.out 3
                                          have hcz79_0 : wc.cell? ⟨gb110, 0, none⟩ = some (.int .i64 ((rd_T62 l0 ((rd_T67 l1 x6_2).f0)).f0)) := (blk_cell BK110.out 0).trans rfl
                                          have hcz79_1 : wc.cell? ⟨gb110, 1, none⟩ = some (.int .i64 ((rd_T62 l0 ((rd_T67 l1 x6_2).f0)).f1)) := (blk_cell BK110.out 1).trans rfl
                                          have hcz79_2 : wc.cell? ⟨gb110, 2, none⟩ = some (.int .i64 ((rd_T62 l0 ((rd_T67 l1 x6_2).f0)).f2)) := (blk_cell BK110.out 2).trans rfl
                                          have hfz79_0 := blk_frozen BK110.out 0
                                          have hfz79_1 := blk_frozen BK110.out 1
                                          have hfz79_2 := blk_frozen BK110.out 2
                                          have p76 : 0 ≤ (((rd_T67 l1 x6_2).f0) : Int) := of_decide_eq_true (by first | (with_reducible assumption) | assumption)
                                          have q76 : (((rd_T67 l1 x6_2).f0) : Int) < ((x5_2.length : Int) : Int) := of_decide_eq_true (by first | (with_reducible assumption) | assumption)
                                          obtain ⟨go76, co76, eo76, gb76, gl76, cl76, HG76⟩ := Kd.R_form HO_5.out (by omega)
                                          (first | cases eo76 | (injection eo76 with ea_ en_ ec_; (first | subst ea_ | (injection ea_ with ea_; subst ea_)); subst ec_; clear en_))
                                          have GB76 := Aside0.mk gb76
                                          have GG76 := Aside0.mk HG76
                                          clear gb76 gl76 HG76
                                          obtain ⟨hx76_0, hf76_0⟩ := Kd.R_celln 0 HO_5.out (((rd_T67 l1 x6_2).f0) : Int) p76 q76
                                          replace p76 := eq_true p76
                                          replace q76 := eq_true q76
                                          have HP80 := Kd.R_putg HO_5.out (((rd_T67 l1 x6_2).f0) : Int) (wrap64 (((rd_T67 l1 x6_2).f1) + ((rd_T62 l0 ((rd_T67 l1 x6_2).f0)).f2)))
                                          go_wp2_with (first | ((with_reducible refine gate_store (t := 3) (p := 117) rfl ?_); (try (rw [drewN_self wc]; generalize hq_ : World.drewN wc _ = wc; have n0_ := Aside0.mk (Kd.R_at hq_ HO_5.out); have n1_ := Aside0.mk (blk_at hq_ BK106.out); have n2_ := Aside0.mk (blk_at hq_ BK110.out); have n3_ := Aside0.mk (below_at hq_ HB.out); clear hq_ HO_5 BK106 BK110 HB; have HO_5 := n0_; have BK106 := n1_; have BK110 := n2_; have HB := n3_; clear n0_ n1_ n2_ n3_; (try (have HP80 := Kd.R_putg HO_5.out (((rd_T67 l1 x6_2).f0) : Int) (wrap64 (((rd_T67 l1 x6_2).f1) + ((rd_T62 l0 ((rd_T67 l1 x6_2).f0)).f2))); obtain ⟨hx76_1, hf76_1⟩ := Kd.R_celln 0 HO_5.out (((rd_T67 l1 x6_2).f0) : Int) (of_eq_true p76) (of_eq_true q76))))); refine store_event (t := 3) (p := 117) (v := ?vo_w81) (w1 := (wc.setCell ⟨go76, (((rd_T67 l1 x6_2).f0) : Int).toNat, none⟩ (.int .i64 (wrap64 (((rd_T67 l1 x6_2).f1) + ((rd_T62 l0 ((rd_T67 l1 x6_2).f0)).f2)))))) ?hg ?ho ?hn ?hr ?_; (case ho => rfl); (case hg => rfl); (case hn => rfl); (case hr => first | (go_simp; done) | (go_simp; rfl)); intro w81 hw; have hg : wc.grownBy w81 (some go76) := (by rw [hw]; exact HP80.2); have hp_ : Kd.R (Kd.int .i64) 3 w81 w.heap.size (fun _ => True) (.slice (some ⟨go76, 0, none⟩) x5_2.length co76) y118 := (by rw [hw, Ny118.out]; exact HP80.1); clear HP80; have n0_ := Aside0.mk (hp_); have n1_ := Aside0.mk (blk_grown (g := gb106) (o := .cells #[.int .i64 ((rd_T67 l1 x6_2).f0), .int .i64 ((rd_T67 l1 x6_2).f1), .int .i64 ((rd_T67 l1 x6_2).f2), .int .i64 ((rd_T67 l1 x6_2).f3)] 67 (0, 0)) (by (with_reducible repeat (first | refine blk_drewN ?_ _ | refine blk_drew ?_ | refine blk_alloc ?_ _)); exact BK106.out) hg (Kd.R_ne HO_5.out BK106.out (by decide))); have n2_ := Aside0.mk (blk_grown (g := gb110) (o := .cells #[.int .i64 ((rd_T62 l0 ((rd_T67 l1 x6_2).f0)).f0), .int .i64 ((rd_T62 l0 ((rd_T67 l1 x6_2).f0)).f1), .int .i64 ((rd_T62 l0 ((rd_T67 l1 x6_2).f0)).f2)] 62 (0, 0)) (by (with_reducible repeat (first | refine blk_drewN ?_ _ | refine blk_drew ?_ | refine blk_alloc ?_ _)); exact BK110.out) hg (Kd.R_ne HO_5.out BK110.out (by decide))); have n3_ := Aside0.mk ((by rw [hw]; exact below_set (HB.out) GB76.out : Below w.heap.size w w81)); clear HO_5; clear BK106; clear BK110; clear HB; have HO_5 := n0_; have BK106 := n1_; have BK110 := n2_; have HB := n3_; clear n0_ n1_ n2_ n3_; clear hg hw hp_))
                                          repeat (go_quiet (first | ((with_reducible refine gate_store (t := 3) (p := 117) rfl ?_); (try (rw [drewN_self wc]; generalize hq_ : World.drewN wc _ = wc; have n0_ := Aside0.mk (Kd.R_at hq_ HO_5.out); have n1_ := Aside0.mk (blk_at hq_ BK106.out); have n2_ := Aside0.mk (blk_at hq_ BK110.out); have n3_ := Aside0.mk (below_at hq_ HB.out); clear hq_ HO_5 BK106 BK110 HB; have HO_5 := n0_; have BK106 := n1_; have BK110 := n2_; have HB := n3_; clear n0_ n1_ n2_ n3_; (try (have HP80 := Kd.R_putg HO_5.out (((rd_T67 l1 x6_2).f0) : Int) (wrap64 (((rd_T67 l1 x6_2).f1) + ((rd_T62 l0 ((rd_T67 l1 x6_2).f0)).f2))); obtain ⟨hx76_1, hf76_1⟩ := Kd.R_celln 0 HO_5.out (((rd_T67 l1 x6_2).f0) : Int) (of_eq_true p76) (of_eq_true q76))))); refine store_event (t := 3) (p := 117) (v := ?vo_w81) (w1 := (wc.setCell ⟨go76, (((rd_T67 l1 x6_2).f0) : Int).toNat, none⟩ (.int .i64 (wrap64 (((rd_T67 l1 x6_2).f1) + ((rd_T62 l0 ((rd_T67 l1 x6_2).f0)).f2)))))) ?hg ?ho ?hn ?hr ?_; (case ho => rfl); (case hg => rfl); (case hn => rfl); (case hr => first | (go_simp; done) | (go_simp; rfl)); intro w81 hw; have hg : wc.grownBy w81 (some go76) := (by rw [hw]; exact HP80.2); have hp_ : Kd.R (Kd.int .i64) 3 w81 w.heap.size (fun _ => True) (.slice (some ⟨go76, 0, none⟩) x5_2.length co76) y118 := (by rw [hw, Ny118.out]; exact HP80.1); clear HP80; have n0_ := Aside0.mk (hp_); have n1_ := Aside0.mk (blk_grown (g := gb106) (o := .cells #[.int .i64 ((rd_T67 l1 x6_2).f0), .int .i64 ((rd_T67 l1 x6_2).f1), .int .i64 ((rd_T67 l1 x6_2).f2), .int .i64 ((rd_T67 l1 x6_2).f3)] 67 (0, 0)) (by (with_reducible repeat (first | refine blk_drewN ?_ _ | refine blk_drew ?_ | refine blk_alloc ?_ _)); exact BK106.out) hg (Kd.R_ne HO_5.out BK106.out (by decide))); have n2_ := Aside0.mk (blk_grown (g := gb110) (o := .cells #[.int .i64 ((rd_T62 l0 ((rd_T67 l1 x6_2).f0)).f0), .int .i64 ((rd_T62 l0 ((rd_T67 l1 x6_2).f0)).f1), .int .i64 ((rd_T62 l0 ((rd_T67 l1 x6_2).f0)).f2)] 62 (0, 0)) (by (with_reducible repeat (first | refine blk_drewN ?_ _ | refine blk_drew ?_ | refine blk_alloc ?_ _)); exact BK110.out) hg (Kd.R_ne HO_5.out BK110.out (by decide))); have n3_ := Aside0.mk ((by rw [hw]; exact below_set (HB.out) GB76.out : Below w.heap.size w w81)); clear HO_5; clear BK106; clear BK110; clear HB; have HO_5 := n0_; have BK106 := n1_; have BK110 := n2_; have HB := n3_; clear n0_ n1_ n2_ n3_; clear hg hw hp_)); try go_wp2_with (first | ((with_reducible refine gate_store (t := 3) (p := 117) rfl ?_); (try (rw [drewN_self wc]; generalize hq_ : World.drewN wc _ = wc; have n0_ := Aside0.mk (Kd.R_at hq_ HO_5.out); have n1_ := Aside0.mk (blk_at hq_ BK106.out); have n2_ := Aside0.mk (blk_at hq_ BK110.out); have n3_ := Aside0.mk (below_at hq_ HB.out); clear hq_ HO_5 BK106 BK110 HB; have HO_5 := n0_; have BK106 := n1_; have BK110 := n2_; have HB := n3_; clear n0_ n1_ n2_ n3_; (try (have HP80 := Kd.R_putg HO_5.out (((rd_T67 l1 x6_2).f0) : Int) (wrap64 (((rd_T67 l1 x6_2).f1) + ((rd_T62 l0 ((rd_T67 l1 x6_2).f0)).f2))); obtain ⟨hx76_1, hf76_1⟩ := Kd.R_celln 0 HO_5.out (((rd_T67 l1 x6_2).f0) : Int) (of_eq_true p76) (of_eq_true q76))))); refine store_event (t := 3) (p := 117) (v := ?vo_w81) (w1 := (wc.setCell ⟨go76, (((rd_T67 l1 x6_2).f0) : Int).toNat, none⟩ (.int .i64 (wrap64 (((rd_T67 l1 x6_2).f1) + ((rd_T62 l0 ((rd_T67 l1 x6_2).f0)).f2)))))) ?hg ?ho ?hn ?hr ?_; (case ho => rfl); (case hg => rfl); (case hn => rfl); (case hr => first | (go_simp; done) | (go_simp; rfl)); intro w81 hw; have hg : wc.grownBy w81 (some go76) := (by rw [hw]; exact HP80.2); have hp_ : Kd.R (Kd.int .i64) 3 w81 w.heap.size (fun _ => True) (.slice (some ⟨go76, 0, none⟩) x5_2.length co76) y118 := (by rw [hw, Ny118.out]; exact HP80.1); clear HP80; have n0_ := Aside0.mk (hp_); have n1_ := Aside0.mk (blk_grown (g := gb106) (o := .cells #[.int .i64 ((rd_T67 l1 x6_2).f0), .int .i64 ((rd_T67 l1 x6_2).f1), .int .i64 ((rd_T67 l1 x6_2).f2), .int .i64 ((rd_T67 l1 x6_2).f3)] 67 (0, 0)) (by (with_reducible repeat (first | refine blk_drewN ?_ _ | refine blk_drew ?_ | refine blk_alloc ?_ _)); exact BK106.out) hg (Kd.R_ne HO_5.out BK106.out (by decide))); have n2_ := Aside0.mk (blk_grown (g := gb110) (o := .cells #[.int .i64 ((rd_T62 l0 ((rd_T67 l1 x6_2).f0)).f0), .int .i64 ((rd_T62 l0 ((rd_T67 l1 x6_2).f0)).f1), .int .i64 ((rd_T62 l0 ((rd_T67 l1 x6_2).f0)).f2)] 62 (0, 0)) (by (with_reducible repeat (first | refine blk_drewN ?_ _ | refine blk_drew ?_ | refine blk_alloc ?_ _)); exact BK110.out) hg (Kd.R_ne HO_5.out BK110.out (by decide))); have n3_ := Aside0.mk ((by rw [hw]; exact below_set (HB.out) GB76.out : Below w.heap.size w w81)); clear HO_5; clear BK106; clear BK110; clear HB; have HO_5 := n0_; have BK106 := n1_; have BK110 := n2_; have HB := n3_; clear n0_ n1_ n2_ n3_; clear hg hw hp_)))
                                          go_roundg kj25
                                          case measure => have := HJ2.out; have := HK2.out; have := HJ14.out; have := HJ25.out; omega
                                          case rel => exact ⟨(y118), (wrap64 (x6_2 + 1)), (by first | rfl | (simp; done) | (simp [*]; done) | (simp only [i64_w, i32_w]; done) | (simp [*, i64_w, i32_w]; done)), H', ⟨by have := HJ2.out; have := HK2.out; have := HJ14.out; have := HJ25.out; omega⟩, ⟨by (with_reducible repeat (first | apply Kd.R_alloc | apply Kd.R_drewN | apply Kd.R_drew)); exact HO_5.out⟩, ⟨by repeat (first | (with_reducible first | exact HB.out | apply below_alloc | apply pw_below_drewN | apply below_drew1 | refine below_set ?_ GE106.out | refine below_set ?_ GE110.out) | exact HB.out)⟩⟩
                                        · rw [if_neg c75] at H
                                          exact absurd H (by simp)
                                      · rw [if_neg c74] at H
                                        exact absurd H (by simp)
                            · rw [if_neg c25] at H
                              exact absurd H (by simp)
                          · rw [if_neg c24] at H
                            exact absurd H (by simp)
                  · rw [if_neg c14] at H
                    exact absurd H (by simp)
                · rw [if_neg c13] at H
                  have c13b0 : decide (x6_2 < (l1.length : Int)) = false := decide_eq_false c13
                  clear c13
                  obtain rfl := Option.some.inj H
                  go_wp2
                  repeat (go_quiet (fail); try go_wp2)
                  go_ret
                  exact ⟨by first | rfl | (simp [errW_none, errW_some] <;> rfl) | (simp [*, errW_none, errW_some] <;> rfl), by repeat (first | (with_reducible first | exact HB.out | apply below_alloc | apply pw_below_drewN | apply below_drew1) | exact HB.out)⟩
          · rw [if_neg c10] at H
            exact absurd H (by simp)
        · rw [if_neg c9] at H
          exact absurd H (by simp)

end Go.Proofs.Ytonifhkplniblaa.Print
