/- Functions of the translation as plain Lean functions, and their contracts. No condition. -/
import Derived.Test.YtonifhkplniblaaYFnExactRunServersPB
import Derived.BigQuiet
import Derived.Deep.DeepMust
import Derived.Deep.QuietTactic
import Derived.Lib.Hide
import Derived.Lib.LazyBuf
import Derived.Maps.OwnSet
import Derived.Test.YtonifhkplniblaaYFnExactRunServersWalk
import Derived.Test.YtonifhkplniblaaYFnExactRunServersP1
import Derived.Test.YtonifhkplniblaaYFnExactRunServersP2
namespace Go.Proofs.Ytonifhkplniblaa.Print
open Go.RowKit Go.Proofs.YtonifhkplniblaaW.PrintWords Go.Proofs.YtonifhkplniblaaW.PrintLast Go.Proofs.YtonifhkplniblaaW.PrintMore
attribute [local go_sem] max2_int min2_int max_two min_two max_three min_three max_four min_four   -- for this text's walks alone
set_option linter.unusedVariables false
set_option linter.unusedSimpArgs false

/-! ### impl_JobsLegal: function 35 (given) -/
open Go.Proofs.Ytonifhkplniblaa.Walk
/-- The set that a closure has captured. -/
def Sees (W : World) (g : Nat) (A : Option Addr) (s : List (S62)) (c : Nat) : Prop := W.cell? ⟨g, 0, none⟩ = some (.slice A s.length c) ∧ Kd.C k62 W A s.length s ∧ g < W.heap.size
theorem Sees.below {W W' : World} {g : Nat} {A : Option Addr} {s : List (S62)} {c : Nat} (h : Sees W g A s c) (hb : Below W.heap.size W W') : Sees W' g A s c := by
  obtain ⟨h1, h2, h3⟩ := h
  exact ⟨(hb.cell (World.block_lt_of_cell? W _ h1)).trans h1, Kd.C_below h2 hb, Nat.lt_of_lt_of_le h3 hb.size⟩
set_option maxHeartbeats 1000000 in
theorem JobsLegal_1 (g : Nat) (A : Option Addr) (s : List (S62)) (c : Nat) (t : Int) (h0 : 0 ≤ t) (h1 : t < s.length) (W : World) (h : Sees W g A s c) :
    Calls Try.prog 99 #[.int .i64 t, .pointer (some ⟨g, 0, none⟩)] W fun e w' => e = .returned (.int .i64 (rd_T62 s t).f0) ∧ Drawn0 W w' := by
  obtain ⟨hg, hr, _⟩ := h
  obtain ⟨ad, e1, hx0, hx1, hx2⟩ := at_T62 hr t h0 h1
  cases e1
  have hu := Try.underlying62
  clear hr
  go_enter Try.func99, Try.ntmps99
  go_wp2
  go_ret
  exact ⟨rfl, Drawn0.refl _⟩
set_option maxHeartbeats 1000000 in
theorem JobsLegal_2 (g : Nat) (A : Option Addr) (s : List (S62)) (c : Nat) (t : Int) (h0 : 0 ≤ t) (h1 : t < s.length) (W : World) (h : Sees W g A s c) :
    Calls Try.prog 102 #[.int .i64 t, .pointer (some ⟨g, 0, none⟩)] W fun e w' => e = .returned (.int .i64 (rd_T62 s t).f2) ∧ Drawn0 W w' := by
  obtain ⟨hg, hr, _⟩ := h
  obtain ⟨ad, e1, hx0, hx1, hx2⟩ := at_T62 hr t h0 h1
  cases e1
  have hu := Try.underlying62
  clear hr
  go_enter Try.func102, Try.ntmps102
  go_wp2
  go_ret
  exact ⟨rfl, Drawn0.refl _⟩
set_option maxHeartbeats 1000000 in
theorem JobsLegal_3 (g : Nat) (A : Option Addr) (s : List (S62)) (c : Nat) (x : S67) (h0 : 0 ≤ x.f0) (h1 : x.f0 < s.length) (W : World) (h : Sees W g A s c) :
    Calls Try.prog 104 #[.agg #[.int .i64 x.f0, .int .i64 x.f1, .int .i64 x.f2, .int .i64 x.f3], .pointer (some ⟨g, 0, none⟩)] W fun e w' => e = .returned (.bool (!decide (x.f2 = wrap64 (x.f1 + (rd_T62 s x.f0).f1)))) ∧ Below W.heap.size W w' := by
  obtain ⟨hg, hr, hlt⟩ := h
  obtain ⟨ad, e1, hx0, hx1, hx2⟩ := at_T62 hr x.f0 h0 h1
  cases e1
  have hu := Try.underlying62
  have huJ := Try.underlying67
  clear hr
  obtain ⟨xa, xb, xc, xd⟩ := x
  simp only at h0 h1 hx0 hx1 hx2 ⊢
  obtain ⟨y, hy⟩ : ∃ y, y = (rd_T62 s xa) := ⟨_, rfl⟩
  rw [← hy] at hx0 hx1 hx2 ⊢
  obtain ⟨ya, yb, yc⟩ := y
  simp only at hx0 hx1 hx2 ⊢
  clear hy
  have hB : Below W.heap.size W (W.alloc (.cells #[.int .i64 xa, .int .i64 xb, .int .i64 xc, .int .i64 xd] 67)) := below_alloc (Below.refl _ _) _
  have kg := (hB.cell (World.block_lt_of_cell? _ _ hg)).trans hg
  have k1 := (hB.cell (World.block_lt_of_cell? _ _ hx1)).trans hx1
  go_enter Try.func104, Try.ntmps104
  go_wp2_with fail
  go_quiet (fail)
  go_wp2
  go_ret
  exact ⟨by simp [bne, i64_w] <;> rfl, pw_below_drewN hB _⟩

theorem Sees.drewN {W : World} {g : Nat} {A : Option Addr} {s : List (S62)} {c : Nat} (h : Sees W g A s c) (n : Nat) : Sees (W.drewN n) g A s c := h.below (pw_below_drewN (Below.refl _ _) n)
theorem inq (a b c : Int) (r : Bool) (hr : decide (b ≤ a ∧ a ≤ c) = r) (W : World) : Calls Try.prog 105 #[.int .i64 a, .int .i64 b, .int .i64 c] W fun e w' => e = .returned (.bool r) ∧ ∃ m, w' = W.drewN m := by
  refine (impl_in.calls a b c r W (by rw [impl_in_f, hr])).mono ?_
  rintro e w' ⟨rfl, hd⟩
  exact ⟨rfl, hd.out⟩
def jobIn (s : List (S62)) (j : S67) : Bool := decide (0 ≤ j.f0 ∧ j.f0 ≤ (s.length : Int) - 1) && (decide (0 ≤ j.f1 ∧ j.f1 ≤ 119) && decide (1 ≤ j.f3 ∧ j.f3 ≤ (rd_T62 s j.f0).f0))
def jobBad (p j : S67) : Bool := decide (p.f1 > j.f1) || (decide (p.f1 = j.f1) && decide (p.f0 ≥ j.f0))
def ordAt (s : List (S62)) (l : List (S67)) (i : Nat) : Bool := jobIn s (l.getD i z67) && !(decide (0 < i) && jobBad (l.getD (i - 1) z67) (l.getD i z67))
def ordB (s : List (S62)) (l : List (S67)) : Bool := (List.range l.length).all (ordAt s l) && decide (l.length ≤ 60)
theorem all_no {P : Nat → Bool} {n j : Nat} (hj : j < n) (h : P j = false) : (List.range n).all P = false := by
  rw [Bool.eq_false_iff]; intro h1; rw [List.all_eq_true] at h1; have := h1 j (List.mem_range.2 hj); rw [h] at this; cases this
theorem all_yes {P : Nat → Bool} {n : Nat} (h : ∀ i, i < n → P i = true) : (List.range n).all P = true := by
  rw [List.all_eq_true]; intro i hi; exact h i (List.mem_range.1 hi)
theorem upto_step {P : Nat → Bool} {j : Nat} (h : ∀ i, i < j → P i = true) (hj : P j = true) : ∀ i, i < j + 1 → P i = true := by
  intro i hi
  rcases Nat.lt_or_ge i j with h1 | h1
  · exact h i h1
  · obtain rfl : i = j := by omega
    exact hj
set_option maxHeartbeats 4000000 in
set_option maxRecDepth 100000 in
theorem ordered_calls (g : Nat) (A : Option Addr) (s : List (S62)) (c : Nat) (A0 : Option Addr) (c0 : Nat) (l0 : List (S67)) (w : World) (hs : Sees w g A s c) (hr0 : Kd.C k67 w A0 l0.length l0) (hc0 : l0.length ≤ c0) :
    Calls Try.prog 98 #[.slice A0 l0.length c0, .int .i64 (s.length : Int), .func (.func 99) #[] #[.pointer (some ⟨g, 0, none⟩)]] w fun e w' => e = .returned (.bool (ordB s l0)) ∧ Below w.heap.size w w' := by
  have hu := Try.underlying67
  have HR0 := Aside0.mk hr0
  have HS := Aside0.mk hs
  have HB := Aside0.mk (Below.refl w.heap.size w)
  have hmx : l0.length ≤ 9223372036854775807 := hr0.2.1
  have hsx : s.length ≤ 9223372036854775807 := hs.2.1.2.1
  clear hr0 hc0 hs
  go_enter Try.func98, Try.ntmps98
  go_wp2
  go_loopw [11] (fun v11 w' => ∃ j : Nat, v11 = .int .i64 j ∧ Aside0 (j ≤ l0.length ∧ ∀ i, i < j → ordAt s l0 i = true) ∧ Aside0 (Below w.heap.size w w')) (fun v11 _ => l0.length - (intOf v11).toNat)
  case atStart => exact ⟨0, rfl, ⟨Nat.zero_le _, fun i hi => absurd hi (by omega)⟩, HB⟩
  case round =>
    clear HB
    obtain ⟨j, rfl, ⟨HJ⟩, HB⟩ := hrel
    by_cases hlt : j < l0.length
    · have b1 : decide ((j : Int) < (l0.length : Int)) = true := decide_eq_true (by omega)
      obtain ⟨ad0, e0, hy0, hy1, hy2, hy3⟩ := at_T67 HR0.out (j : Int) (by omega) (by omega)
      cases e0
      replace hy0 := (HB.out.cell (World.block_lt_of_cell? w _ hy0)).trans hy0
      replace hy1 := (HB.out.cell (World.block_lt_of_cell? w _ hy1)).trans hy1
      replace hy2 := (HB.out.cell (World.block_lt_of_cell? w _ hy2)).trans hy2
      replace hy3 := (HB.out.cell (World.block_lt_of_cell? w _ hy3)).trans hy3
      simp only [Int.toNat_natCast] at hy0 hy1 hy2 hy3
      have hrd : rd_T67 l0 (j : Int) = l0.getD j z67 := rfl
      rw [hrd] at hy0 hy1 hy2 hy3
      have q0 : 0 ≤ (j : Int) := by omega
      have q1 : (j : Int) < (l0.length : Int) := by omega
      obtain ⟨y, hy⟩ : ∃ y, y = l0.getD j z67 := ⟨_, rfl⟩
      rw [← hy] at hy0 hy1 hy2 hy3
      have HY := Lib.hid hy
      have HLT := Lib.hid hlt
      have HJJ := Lib.hid HJ
      clear hrd hy HJ
      obtain ⟨ya, yb, yc, yd⟩ := y
      have SW := Lib.hid ((HS.out.below HB.out).below (below_alloc (Below.refl _ _) (.cells #[.int .i64 ya, .int .i64 yb, .int .i64 yc, .int .i64 yd] 67)))
      have H1 := Lib.hid hlt
      by_cases a1 : 0 ≤ ya ∧ ya ≤ (s.length : Int) - 1
      · have Q1 := Lib.hid (fun W => inq ya 0 ((s.length : Int) - 1) true (decide_eq_true a1) W)
        by_cases a2 : 0 ≤ yb ∧ yb ≤ 119
        · have Q2 := Lib.hid (fun W => inq yb 0 119 true (decide_eq_true a2) W)
          obtain ⟨m, hm⟩ : ∃ m, m = (rd_T62 s ya).f0 := ⟨_, rfl⟩
          have QM : Hid (∀ W : World, Sees W g A s c → Calls Try.prog 99 #[.int .i64 ya, .pointer (some ⟨g, 0, none⟩)] W fun e w' => e = .returned (.int .i64 m) ∧ ∃ k, w' = W.drewN k) := Lib.hid (fun W hW => by
            rw [hm]
            exact (JobsLegal_1 g A s c ya a1.1 (by omega) W hW).mono (by rintro e w' ⟨rfl, hd⟩; exact ⟨rfl, hd.out⟩))
          by_cases a3 : 1 ≤ yd ∧ yd ≤ m
          · have Q3 := Lib.hid (fun W => inq yd 1 m true (decide_eq_true a3) W)
            have hji : jobIn s (l0.getD j z67) = true := by rw [← HY.out]; simp only [jobIn]; rw [← hm]; simp [a1, a2, a3]
            have HJI := Lib.hid hji
            by_cases h0 : 0 < j
            · have h0b : decide ((j : Int) > 0) = true := decide_eq_true (by omega)
              obtain ⟨p, hp⟩ : ∃ p, p = (j : Int) - 1 := ⟨_, rfl⟩
              obtain ⟨ad1, e1, hz0, hz1, hz2, hz3⟩ := at_T67 HR0.out p (by omega) (by omega)
              cases e1
              have hrd : rd_T67 l0 p = l0.getD (j - 1) z67 := by unfold rd_T67; congr 1; omega
              rw [hrd] at hz0 hz1 hz2 hz3
              have hB2 := below_step HB.out (below_alloc (Below.refl wr.heap.size wr) (.cells #[.int .i64 ya, .int .i64 yb, .int .i64 yc, .int .i64 yd] 67))
              replace hz0 := (hB2.cell (World.block_lt_of_cell? w _ hz0)).trans hz0
              replace hz1 := (hB2.cell (World.block_lt_of_cell? w _ hz1)).trans hz1
              obtain ⟨x, hx⟩ : ∃ x, x = l0.getD (j - 1) z67 := ⟨_, rfl⟩
              rw [← hx] at hz0 hz1
              have HX := Lib.hid hx
              clear hz2 hz3 hrd hx hB2 hm hji a1 a2 a3
              have hw1 : IntKind.i64.wrap ((j : Int) - 1) = p := by rw [i64_w]; unfold wrap64; omega
              have q2 : 0 ≤ p := by omega
              have q3 : p < (l0.length : Int) := by omega
              clear hp
              obtain ⟨xa, xb, xc, xd⟩ := x
              simp only at hz0 hz1
              by_cases d1 : xb > yb
              · have d1b : decide (xb > yb) = true := decide_eq_true d1
                have HO : Hid (ordAt s l0 j = false) := Lib.hid (by rw [ordAt, HJI.out, ← HY.out, ← HX.out]; simp [h0, jobBad, d1])
                go_wp2_with fail
                ((go_quiet (first | (go_at_call 105; with_reducible first | exact Calls.quiet_of (Q1.out _) | exact Calls.quiet_of (Q2.out _) | exact Calls.quiet_of (Q3.out _) | (rw [i64_w]; first | exact Calls.quiet_of (Q1.out _) | exact Calls.quiet_of (Q2.out _) | exact Calls.quiet_of (Q3.out _))) | (go_at_call 99; exact Calls.quiet_of (QM.out _ (SW.out.drewN _))))))
                go_wp2_with fail
                ((go_quiet (first | (go_at_call 105; with_reducible first | exact Calls.quiet_of (Q1.out _) | exact Calls.quiet_of (Q2.out _) | exact Calls.quiet_of (Q3.out _) | (rw [i64_w]; first | exact Calls.quiet_of (Q1.out _) | exact Calls.quiet_of (Q2.out _) | exact Calls.quiet_of (Q3.out _))) | (go_at_call 99; exact Calls.quiet_of (QM.out _ (SW.out.drewN _))))))
                go_wp2
                ((go_ret; refine ⟨by rw [show ordB s l0 = false by unfold ordB; rw [all_no HLT.out HO.out]; rfl]; rfl, by ((repeat (first | (with_reducible first | exact HB.out | apply below_alloc | apply pw_below_drewN | apply below_drew1) | exact HB.out)))⟩))
              · have d1b : decide (xb > yb) = false := decide_eq_false d1
                by_cases d2 : xb = yb
                · have d2b : (xb == yb) = true := by rw [beq_iff_eq]; exact d2
                  by_cases d3 : xa ≥ ya
                  · have d3b : decide (xa ≥ ya) = true := decide_eq_true d3
                    have HO : Hid (ordAt s l0 j = false) := Lib.hid (by rw [ordAt, HJI.out, ← HY.out, ← HX.out]; simp [h0, jobBad, d2, d3])
                    go_wp2_with fail
                    ((go_quiet (first | (go_at_call 105; with_reducible first | exact Calls.quiet_of (Q1.out _) | exact Calls.quiet_of (Q2.out _) | exact Calls.quiet_of (Q3.out _) | (rw [i64_w]; first | exact Calls.quiet_of (Q1.out _) | exact Calls.quiet_of (Q2.out _) | exact Calls.quiet_of (Q3.out _))) | (go_at_call 99; exact Calls.quiet_of (QM.out _ (SW.out.drewN _))))))
                    go_wp2_with fail
                    ((go_quiet (first | (go_at_call 105; with_reducible first | exact Calls.quiet_of (Q1.out _) | exact Calls.quiet_of (Q2.out _) | exact Calls.quiet_of (Q3.out _) | (rw [i64_w]; first | exact Calls.quiet_of (Q1.out _) | exact Calls.quiet_of (Q2.out _) | exact Calls.quiet_of (Q3.out _))) | (go_at_call 99; exact Calls.quiet_of (QM.out _ (SW.out.drewN _))))))
                    go_wp2
                    ((go_ret; refine ⟨by rw [show ordB s l0 = false by unfold ordB; rw [all_no HLT.out HO.out]; rfl]; rfl, by ((repeat (first | (with_reducible first | exact HB.out | apply below_alloc | apply pw_below_drewN | apply below_drew1) | exact HB.out)))⟩))
                  · have d3b : decide (xa ≥ ya) = false := decide_eq_false d3
                    have HO : Hid (ordAt s l0 j = true) := Lib.hid (by rw [ordAt, HJI.out, ← HY.out, ← HX.out]; simp [h0, jobBad, d1, d2, d3])
                    go_wp2_with fail
                    ((go_quiet (first | (go_at_call 105; with_reducible first | exact Calls.quiet_of (Q1.out _) | exact Calls.quiet_of (Q2.out _) | exact Calls.quiet_of (Q3.out _) | (rw [i64_w]; first | exact Calls.quiet_of (Q1.out _) | exact Calls.quiet_of (Q2.out _) | exact Calls.quiet_of (Q3.out _))) | (go_at_call 99; exact Calls.quiet_of (QM.out _ (SW.out.drewN _))))))
                    go_wp2_with fail
                    ((go_quiet (first | (go_at_call 105; with_reducible first | exact Calls.quiet_of (Q1.out _) | exact Calls.quiet_of (Q2.out _) | exact Calls.quiet_of (Q3.out _) | (rw [i64_w]; first | exact Calls.quiet_of (Q1.out _) | exact Calls.quiet_of (Q2.out _) | exact Calls.quiet_of (Q3.out _))) | (go_at_call 99; exact Calls.quiet_of (QM.out _ (SW.out.drewN _))))))
                    go_wp2
                    ((go_roundw; (case rel => exact ⟨j + 1, by go_num, ⟨by omega, upto_step HJJ.out.2 HO.out⟩, ⟨by ((repeat (first | (with_reducible first | exact HB.out | apply below_alloc | apply pw_below_drewN | apply below_drew1) | exact HB.out)))⟩⟩); (case measure => simp [intOf]; omega)))
                · have d2b : (xb == yb) = false := by rw [beq_eq_false_iff_ne]; exact d2
                  have HO : Hid (ordAt s l0 j = true) := Lib.hid (by rw [ordAt, HJI.out, ← HY.out, ← HX.out]; simp [h0, jobBad, d1, d2])
                  go_wp2_with fail
                  ((go_quiet (first | (go_at_call 105; with_reducible first | exact Calls.quiet_of (Q1.out _) | exact Calls.quiet_of (Q2.out _) | exact Calls.quiet_of (Q3.out _) | (rw [i64_w]; first | exact Calls.quiet_of (Q1.out _) | exact Calls.quiet_of (Q2.out _) | exact Calls.quiet_of (Q3.out _))) | (go_at_call 99; exact Calls.quiet_of (QM.out _ (SW.out.drewN _))))))
                  go_wp2_with fail
                  ((go_quiet (first | (go_at_call 105; with_reducible first | exact Calls.quiet_of (Q1.out _) | exact Calls.quiet_of (Q2.out _) | exact Calls.quiet_of (Q3.out _) | (rw [i64_w]; first | exact Calls.quiet_of (Q1.out _) | exact Calls.quiet_of (Q2.out _) | exact Calls.quiet_of (Q3.out _))) | (go_at_call 99; exact Calls.quiet_of (QM.out _ (SW.out.drewN _))))))
                  go_wp2
                  ((go_roundw; (case rel => exact ⟨j + 1, by go_num, ⟨by omega, upto_step HJJ.out.2 HO.out⟩, ⟨by ((repeat (first | (with_reducible first | exact HB.out | apply below_alloc | apply pw_below_drewN | apply below_drew1) | exact HB.out)))⟩⟩); (case measure => simp [intOf]; omega)))
            · have h0b : decide ((j : Int) > 0) = false := decide_eq_false (by omega)
              have HO : Hid (ordAt s l0 j = true) := Lib.hid (by rw [ordAt, HJI.out]; simp [h0])
              clear hm hji a1 a2 a3
              go_wp2_with fail
              ((go_quiet (first | (go_at_call 105; with_reducible first | exact Calls.quiet_of (Q1.out _) | exact Calls.quiet_of (Q2.out _) | exact Calls.quiet_of (Q3.out _) | (rw [i64_w]; first | exact Calls.quiet_of (Q1.out _) | exact Calls.quiet_of (Q2.out _) | exact Calls.quiet_of (Q3.out _))) | (go_at_call 99; exact Calls.quiet_of (QM.out _ (SW.out.drewN _))))))
              go_wp2_with fail
              ((go_quiet (first | (go_at_call 105; with_reducible first | exact Calls.quiet_of (Q1.out _) | exact Calls.quiet_of (Q2.out _) | exact Calls.quiet_of (Q3.out _) | (rw [i64_w]; first | exact Calls.quiet_of (Q1.out _) | exact Calls.quiet_of (Q2.out _) | exact Calls.quiet_of (Q3.out _))) | (go_at_call 99; exact Calls.quiet_of (QM.out _ (SW.out.drewN _))))))
              go_wp2
              ((go_roundw; (case rel => exact ⟨j + 1, by go_num, ⟨by omega, upto_step HJJ.out.2 HO.out⟩, ⟨by ((repeat (first | (with_reducible first | exact HB.out | apply below_alloc | apply pw_below_drewN | apply below_drew1) | exact HB.out)))⟩⟩); (case measure => simp [intOf]; omega)))
          · have Q3 := Lib.hid (fun W => inq yd 1 m false (decide_eq_false a3) W)
            have HO : Hid (ordAt s l0 j = false) := Lib.hid (by rw [ordAt, ← HY.out]; simp only [jobIn]; rw [← hm]; simp [a3])
            clear hm a1 a2 a3
            go_wp2_with fail
            ((go_quiet (first | (go_at_call 105; with_reducible first | exact Calls.quiet_of (Q1.out _) | exact Calls.quiet_of (Q2.out _) | exact Calls.quiet_of (Q3.out _) | (rw [i64_w]; first | exact Calls.quiet_of (Q1.out _) | exact Calls.quiet_of (Q2.out _) | exact Calls.quiet_of (Q3.out _))) | (go_at_call 99; exact Calls.quiet_of (QM.out _ (SW.out.drewN _))))))
            go_wp2
            ((go_ret; refine ⟨by rw [show ordB s l0 = false by unfold ordB; rw [all_no HLT.out HO.out]; rfl]; rfl, by ((repeat (first | (with_reducible first | exact HB.out | apply below_alloc | apply pw_below_drewN | apply below_drew1) | exact HB.out)))⟩))
        · have Q2 := Lib.hid (fun W => inq yb 0 119 false (decide_eq_false a2) W)
          have HO : Hid (ordAt s l0 j = false) := Lib.hid (by rw [ordAt, ← HY.out]; simp [jobIn, a2])
          clear a1 a2
          go_wp2_with fail
          ((go_quiet (first | (go_at_call 105; with_reducible first | exact Calls.quiet_of (Q1.out _) | exact Calls.quiet_of (Q2.out _) | exact Calls.quiet_of (Q3.out _) | (rw [i64_w]; first | exact Calls.quiet_of (Q1.out _) | exact Calls.quiet_of (Q2.out _) | exact Calls.quiet_of (Q3.out _))) | (go_at_call 99; exact Calls.quiet_of (QM.out _ (SW.out.drewN _))))))
          go_wp2
          ((go_ret; refine ⟨by rw [show ordB s l0 = false by unfold ordB; rw [all_no HLT.out HO.out]; rfl]; rfl, by ((repeat (first | (with_reducible first | exact HB.out | apply below_alloc | apply pw_below_drewN | apply below_drew1) | exact HB.out)))⟩))
      · have Q1 := Lib.hid (fun W => inq ya 0 ((s.length : Int) - 1) false (decide_eq_false a1) W)
        have HO : Hid (ordAt s l0 j = false) := Lib.hid (by rw [ordAt, ← HY.out]; simp [jobIn, a1])
        clear a1
        go_wp2_with fail
        ((go_quiet (first | (go_at_call 105; with_reducible first | exact Calls.quiet_of (Q1.out _) | exact Calls.quiet_of (Q2.out _) | exact Calls.quiet_of (Q3.out _) | (rw [i64_w]; first | exact Calls.quiet_of (Q1.out _) | exact Calls.quiet_of (Q2.out _) | exact Calls.quiet_of (Q3.out _))) | (go_at_call 99; exact Calls.quiet_of (QM.out _ (SW.out.drewN _))))))
        go_wp2
        ((go_ret; refine ⟨by rw [show ordB s l0 = false by unfold ordB; rw [all_no HLT.out HO.out]; rfl]; rfl, by ((repeat (first | (with_reducible first | exact HB.out | apply below_alloc | apply pw_below_drewN | apply below_drew1) | exact HB.out)))⟩))
    · have b1 : decide ((j : Int) < (l0.length : Int)) = false := decide_eq_false (by omega)
      have HJA := Aside0.mk HJ
      have hje : j = l0.length := by omega
      subst hje
      clear HJ
      by_cases d1 : l0.length ≤ 60
      · have d1b : decide ((l0.length : Int) ≤ 60) = true := decide_eq_true (by omega)
        go_wp2
        go_ret
        exact ⟨by unfold ordB; rw [all_yes HJA.out.2, decide_eq_true d1]; rfl, HB.out⟩
      · have d1b : decide ((l0.length : Int) ≤ 60) = false := decide_eq_false (by omega)
        go_wp2
        go_ret
        exact ⟨by unfold ordB; rw [all_yes HJA.out.2, decide_eq_false d1]; rfl, HB.out⟩

open Go.Proofs.Ytonifhkplniblaa.Walk Go.Maps
theorem key3 : Keyed Try.prog 3 := int_keyed Try.underlying3
theorem zero3 (w : World) : (zeroValue 3).run Try.prog w = .ok (.int .i64 0) w := by kernel_rfl
theorem wf_small {t : Int} (h0 : 0 ≤ t) (h1 : t ≤ 9223372036854775807) : (Lit.int .i64 t).wf = true := by simp [Lit.wf, IntKind.min, IntKind.max, IntKind.signed, IntKind.bits]; omega
/-- When the last of the first jobs of a task came. -/
def lastT (l : List (S67)) : Nat → Int → Option Int
  | 0, _ => none
  | i + 1, t => if (l.getD i z67).f0 = t then some (l.getD i z67).f1 else lastT l i t
def spcAt (s : List (S62)) (l : List (S67)) (i : Nat) : Bool :=
  match lastT l i (l.getD i z67).f0 with
  | none => true
  | some b => !decide ((l.getD i z67).f1 - b < (rd_T62 s (l.getD i z67).f0).f2)
theorem lastT_in {l : List (S67)} {n : Nat} (hin : ∀ i, i < n → 0 ≤ (l.getD i z67).f1 ∧ (l.getD i z67).f1 ≤ 119) : ∀ i, i ≤ n → ∀ t b, lastT l i t = some b → 0 ≤ b ∧ b ≤ 119
  | 0, _, _, _, h => by cases h
  | i + 1, hi, t, b, h => by
    unfold lastT at h
    split at h
    · injection h with h; rw [← h]; exact hin i (by omega)
    · exact lastT_in hin i (by omega) t b h
/-- What the map holds behind the first jobs. -/
def MapSays (l : List (S67)) (j : Nat) (D : DataW Unit) : Prop := ∀ t, 0 ≤ t → t ≤ 9223372036854775807 → match lastT l j t with
  | none => has D (.int .i64 t) = false
  | some b => has D (.int .i64 t) = true ∧ D.atKey (.int .i64 t) (.lit (.int .i64 0)) = .lit (.int .i64 b)
theorem MapSays.zero (l : List (S67)) : MapSays l 0 (.map []) := fun t _ _ => rfl
theorem MapSays.put {l : List (S67)} {j : Nat} {D : DataW Unit} (h : MapSays l j D) (hD : IsMap D) {y : S67} (hy : y = l.getD j z67) : MapSays l (j + 1) (D.put (.int .i64 y.f0) (.lit (.int .i64 y.f1))) := by
  intro t h0 h1
  unfold lastT
  rw [← hy]
  by_cases e : y.f0 = t
  · rw [if_pos e]
    simp only
    rw [e]
    exact ⟨has_put_same hD (by trivial) _, atKey_put_same hD (by trivial) _ _⟩
  · rw [if_neg e]
    have hne : (Lit.int .i64 t) ≠ (Lit.int .i64 y.f0) := by intro h2; injection h2 with _ h3; exact e h3.symm
    have := h t h0 h1
    split
    · rename_i h2
      rw [h2] at this
      rw [has_put_other hne]
      exact this
    · rename_i b h2
      rw [h2] at this
      rw [has_put_other hne, atKey_put_other hne]
      exact this
theorem ownsMap_below {w w' : World} {P : Program} {k : TypeId} {R : Value → Option (DataW Unit × List MemPlace)} {b n : Nat} {D : DataW Unit} (h : w.ownsMap P k R b n D) (hb : Below w.heap.size w w') : w'.ownsMap P k R b n D := by
  have hlt := h.lt
  obtain ⟨es, clock, h1, h2⟩ := h
  exact ⟨es, clock, (hb.block b hlt).trans h1, h2⟩
theorem look_known {P : Program} (w : World) {ops : Array Oper} {rest : List Oper} {o : Oper} {a : Act} {Q : Exit → Act → World → Prop} (hg : o.guard = none) (m x : Operand) (t : TypeId) (hop : o.op = Op.lookup t m x true)
    (k e : TypeId) (K : Keyed P k) (ht : P.underlying t = some (.map k e)) (he : P.underlying e = some (.int .i64)) (hz : (zeroValue e).run P w = .ok (.int .i64 0) w) (b n : Nat) (D : DataW Unit)
    (hm : a.eval m = .map (some b)) (hown : w.ownsMap P k (plainElem P e) b n D) (key : Value) (kl : Lit) (hx : a.eval x = key) (hkey : keyOf P k key = some kl) {c : Int} {r : Bool}
    (hat : D.atKey kl (.lit (.int .i64 0)) = .lit (.int .i64 c)) (hh : has D kl = r) (hK : wpList P ops Q rest (a.put o.dst (.tuple #[.int .i64 c, .bool r])) w) :
    wpList P ops Q (o :: rest) a w :=
  wpList_lookup_own_ok_int w hg m x t hop k e .i64 K ht he hz b n D hm hown key kl hx hkey (fun c' h1 _ => by
    rw [hat] at h1
    injection h1 with h1
    injection h1 with _ h1
    subst h1
    rw [hh]
    exact hK)
set_option maxHeartbeats 4000000 in
set_option maxRecDepth 100000 in
theorem spaced_calls (g : Nat) (A : Option Addr) (s : List (S62)) (c : Nat) (A0 : Option Addr) (c0 : Nat) (l0 : List (S67)) (w : World) (hs : Sees w g A s c) (hr0 : Kd.C k67 w A0 l0.length l0) (hc0 : l0.length ≤ c0)
    (hin : ∀ i, i < l0.length → 0 ≤ (l0.getD i z67).f0 ∧ (l0.getD i z67).f0 < s.length) (hrl : ∀ i, i < l0.length → 0 ≤ (l0.getD i z67).f1 ∧ (l0.getD i z67).f1 ≤ 119) (hlen : l0.length ≤ 60) :
    Calls Try.prog 100 #[.slice A0 l0.length c0, .func (.func 101) #[] #[], .func (.func 102) #[] #[.pointer (some ⟨g, 0, none⟩)]] w fun e w' => e = .returned (.bool ((List.range l0.length).all (spcAt s l0))) ∧ Below w.heap.size w w' := by
  have hu := Try.underlying67
  have hmm := @run_makeMap Try.prog
  have HR0 := Aside0.mk hr0
  have HS := Aside0.mk hs
  have HIN := Aside0.mk hin
  have HRL := Aside0.mk hrl
  have HB := Aside0.mk (Below.refl w.heap.size w)
  have hsx : s.length ≤ 9223372036854775807 := hs.2.1.2.1
  clear hr0 hc0 hs hin hrl
  go_enter Try.func100, Try.ntmps100
  go_wp2
  go_loopw [16] (fun v16 w' => ∃ j : Nat, v16 = .int .i64 j ∧ Aside0 (j ≤ l0.length ∧ ∀ i, i < j → spcAt s l0 i = true) ∧ (∃ D, w'.ownsMap Try.prog 3 (plainElem Try.prog 3) w.heap.size j D ∧ MapSays l0 j D) ∧ Aside0 (Below w.heap.size w w')) (fun v16 _ => l0.length - (intOf v16).toNat)
  case atStart => exact ⟨0, rfl, ⟨Nat.zero_le _, fun i hi => absurd hi (by omega)⟩, ⟨_, World.ownsMap_made _ _ _ _, MapSays.zero l0⟩, ⟨by ((repeat (first | (with_reducible first | exact HB.out | apply below_alloc | apply pw_below_drewN | apply below_drew1) | exact HB.out)))⟩⟩
  case round =>
    clear HB
    obtain ⟨j, rfl, ⟨HJ⟩, ⟨D, hown, hms⟩, HB⟩ := hrel
    by_cases hlt : j < l0.length
    · have b1 : decide ((j : Int) < (l0.length : Int)) = true := decide_eq_true (by omega)
      obtain ⟨ad0, e0, hy0, hy1, hy2, hy3⟩ := at_T67 HR0.out (j : Int) (by omega) (by omega)
      cases e0
      replace hy0 := (HB.out.cell (World.block_lt_of_cell? w _ hy0)).trans hy0
      replace hy1 := (HB.out.cell (World.block_lt_of_cell? w _ hy1)).trans hy1
      replace hy2 := (HB.out.cell (World.block_lt_of_cell? w _ hy2)).trans hy2
      replace hy3 := (HB.out.cell (World.block_lt_of_cell? w _ hy3)).trans hy3
      simp only [Int.toNat_natCast] at hy0 hy1 hy2 hy3
      have hrd : rd_T67 l0 (j : Int) = l0.getD j z67 := rfl
      rw [hrd] at hy0 hy1 hy2 hy3
      have q0 : 0 ≤ (j : Int) := by omega
      have q1 : (j : Int) < (l0.length : Int) := by omega
      have hi := HIN.out j hlt
      have hr := HRL.out j hlt
      have hl := lastT_in HRL.out j (by omega) (l0.getD j z67).f0
      obtain ⟨y, hy⟩ : ∃ y, y = l0.getD j z67 := ⟨_, rfl⟩
      have hsa : spcAt s l0 j = match lastT l0 j y.f0 with | none => true | some b => !decide (y.f1 - b < (rd_T62 s y.f0).f2) := by rw [hy]; rfl
      rw [← hy] at hy0 hy1 hy2 hy3 hi hr hl
      have HY := Lib.hid hy
      have HJJ := Lib.hid HJ
      have HM := Lib.hid hms
      have HO0 := Lib.hid hown.isMap
      have HO := Aside0.mk hown
      have hsay := hms y.f0 hi.1 (by omega)
      clear hrd hy HJ hown hms
      obtain ⟨ya, yb, yc, yd⟩ := y
      simp only at hi hr hl hsa hsay
      obtain ⟨hi1, hi2⟩ := hi
      obtain ⟨hr1, hr2⟩ := hr
      have HKEY : Hid (keyOf Try.prog 3 (.int .i64 ya) = some (.int .i64 ya)) := Lib.hid (keyOf_int_mk Try.underlying3 (wf_small hi1 (by omega)))
      have HWF : Hid ((Lit.int .i64 yb).wf = true) := Lib.hid (wf_small hr1 (by omega))
      have HREL := Lib.hid (fun W => impl_release.calls ya yb yc yd yb W rfl)
      have hk0 : (wr.alloc (.cells #[.int .i64 ya, .int .i64 yb, .int .i64 yc, .int .i64 yd] 67)).cell? ⟨wr.heap.size, 0, none⟩ = some (.int .i64 ya) := by rw [World.cell?_alloc_at _ _ _ _ rfl]; rfl
      cases hlt2 : lastT l0 j ya with
      | none =>
        rw [hlt2] at hsa hsay
        have HOK := Lib.hid hsa
        have HAT := Lib.hid (atKey_of_not_has hsay (.lit (.int .i64 0)))
        have HHAS := Lib.hid hsay
        clear hsa hsay hl hlt2
        go_wp2_with (first | ((go_at_call 101; refine (HREL.out _).mono ?_; rintro e w2 ⟨rfl, hb2⟩; have n0_ := Aside0.mk (below_step (below_alloc HB.out _) hb2); have n1_ := Aside0.mk (ownsMap_below (HO.out.alloc _) hb2); have k0 := (hb2.cell (World.block_lt_of_cell? _ _ hk0)).trans hk0; clear HB HO hk0 hb2; have HB := n0_; have HO := n1_; clear n0_ n1_)) | (at_lookup; refine look_known _ rfl _ _ 181 rfl 3 3 key3 Try.underlying181 Try.underlying3 (zero3 _) w.heap.size j D rfl HO.out _ _ rfl HKEY.out HAT.out HHAS.out ?_) | ((at_mapUpdate; refine wpList_mapUpdate_own _ rfl _ _ _ 181 rfl 3 3 key3 Try.underlying181 _ w.heap.size j _ rfl HO.out (by unfold maxLen; omega) _ _ _ rfl rfl HKEY.out _ [] (plainElem_int Try.underlying3 HWF.out) ?_; intro w9 hown1 hgrow1; have n0_ := Aside0.mk (HB.out.grown hgrow1 HB.out.size (fun k hk => by cases hk; exact Nat.le_refl _)); have n1_ := Aside0.mk hown1; clear HB HO hown1 hgrow1 k0; have HB := n0_; have HO := n1_; clear n0_ n1_)))
        ((go_roundw; (case rel => exact ⟨j + 1, by go_num, ⟨by omega, upto_step HJJ.out.2 HOK.out⟩, ⟨_, HO.out, HM.out.put HO0.out HY.out⟩, ⟨by ((repeat (first | (with_reducible first | exact HB.out | apply below_alloc | apply pw_below_drewN | apply below_drew1) | exact HB.out)))⟩⟩); (case measure => simp [intOf]; omega)))
      | some b =>
        rw [hlt2] at hsa hsay
        have hb := hl b hlt2
        obtain ⟨hb1, hb2⟩ := hb
        have HAT := Lib.hid hsay.2
        have HHAS := Lib.hid hsay.1
        obtain ⟨m, hm⟩ : ∃ m, m = (rd_T62 s ya).f2 := ⟨_, rfl⟩
        simp only at hsa
        rw [← hm] at hsa
        have QM : Hid (∀ W : World, Sees W g A s c → Calls Try.prog 102 #[.int .i64 ya, .pointer (some ⟨g, 0, none⟩)] W fun e w' => e = .returned (.int .i64 m) ∧ ∃ k, w' = W.drewN k) := Lib.hid (fun W hW => by
          rw [hm]
          exact (JobsLegal_2 g A s c ya hi1 hi2 W hW).mono (by rintro e w' ⟨rfl, hd⟩; exact ⟨rfl, hd.out⟩))
        clear hsay hl hlt2 hm
        by_cases hbad : yb - b < m
        · have hbb : decide (yb - b < m) = true := decide_eq_true hbad
          rw [hbb] at hsa
          have HOK := Lib.hid hsa
          clear hsa hbad
          go_wp2_with (first | ((go_at_call 101; refine (HREL.out _).mono ?_; rintro e w2 ⟨rfl, hb2⟩; have n0_ := Aside0.mk (below_step (below_alloc HB.out _) hb2); have n1_ := Aside0.mk (ownsMap_below (HO.out.alloc _) hb2); have k0 := (hb2.cell (World.block_lt_of_cell? _ _ hk0)).trans hk0; clear HB HO hk0 hb2; have HB := n0_; have HO := n1_; clear n0_ n1_)) | (at_lookup; refine look_known _ rfl _ _ 181 rfl 3 3 key3 Try.underlying181 Try.underlying3 (zero3 _) w.heap.size j D rfl HO.out _ _ rfl HKEY.out HAT.out HHAS.out ?_) | (go_at_call 102; refine (QM.out _ (HS.out.below HB.out)).mono ?_; rintro e w3 ⟨rfl, m3, rfl⟩; have n0_ := Aside0.mk (pw_below_drewN HB.out m3); have n1_ := Aside0.mk (ownsMap_below HO.out (pw_below_drewN (Below.refl _ _) m3)); clear HB HO; have HB := n0_; have HO := n1_; clear n0_ n1_) | ((at_mapUpdate; refine wpList_mapUpdate_own _ rfl _ _ _ 181 rfl 3 3 key3 Try.underlying181 _ w.heap.size j _ rfl HO.out (by unfold maxLen; omega) _ _ _ rfl rfl HKEY.out _ [] (plainElem_int Try.underlying3 HWF.out) ?_; intro w9 hown1 hgrow1; have n0_ := Aside0.mk (HB.out.grown hgrow1 HB.out.size (fun k hk => by cases hk; exact Nat.le_refl _)); have n1_ := Aside0.mk hown1; clear HB HO hown1 hgrow1 k0; have HB := n0_; have HO := n1_; clear n0_ n1_)))
          go_ret
          exact ⟨by rw [all_no hlt HOK.out]; rfl, by ((repeat (first | (with_reducible first | exact HB.out | apply below_alloc | apply pw_below_drewN | apply below_drew1) | exact HB.out)))⟩
        · have hbb : decide (yb - b < m) = false := decide_eq_false hbad
          rw [hbb] at hsa
          have HOK := Lib.hid hsa
          clear hsa hbad
          go_wp2_with (first | ((go_at_call 101; refine (HREL.out _).mono ?_; rintro e w2 ⟨rfl, hb2⟩; have n0_ := Aside0.mk (below_step (below_alloc HB.out _) hb2); have n1_ := Aside0.mk (ownsMap_below (HO.out.alloc _) hb2); have k0 := (hb2.cell (World.block_lt_of_cell? _ _ hk0)).trans hk0; clear HB HO hk0 hb2; have HB := n0_; have HO := n1_; clear n0_ n1_)) | (at_lookup; refine look_known _ rfl _ _ 181 rfl 3 3 key3 Try.underlying181 Try.underlying3 (zero3 _) w.heap.size j D rfl HO.out _ _ rfl HKEY.out HAT.out HHAS.out ?_) | (go_at_call 102; refine (QM.out _ (HS.out.below HB.out)).mono ?_; rintro e w3 ⟨rfl, m3, rfl⟩; have n0_ := Aside0.mk (pw_below_drewN HB.out m3); have n1_ := Aside0.mk (ownsMap_below HO.out (pw_below_drewN (Below.refl _ _) m3)); clear HB HO; have HB := n0_; have HO := n1_; clear n0_ n1_) | ((at_mapUpdate; refine wpList_mapUpdate_own _ rfl _ _ _ 181 rfl 3 3 key3 Try.underlying181 _ w.heap.size j _ rfl HO.out (by unfold maxLen; omega) _ _ _ rfl rfl HKEY.out _ [] (plainElem_int Try.underlying3 HWF.out) ?_; intro w9 hown1 hgrow1; have n0_ := Aside0.mk (HB.out.grown hgrow1 HB.out.size (fun k hk => by cases hk; exact Nat.le_refl _)); have n1_ := Aside0.mk hown1; clear HB HO hown1 hgrow1 k0; have HB := n0_; have HO := n1_; clear n0_ n1_)))
          ((go_roundw; (case rel => exact ⟨j + 1, by go_num, ⟨by omega, upto_step HJJ.out.2 HOK.out⟩, ⟨_, HO.out, HM.out.put HO0.out HY.out⟩, ⟨by ((repeat (first | (with_reducible first | exact HB.out | apply below_alloc | apply pw_below_drewN | apply below_drew1) | exact HB.out)))⟩⟩); (case measure => simp [intOf]; omega)))
    · have b1 : decide ((j : Int) < (l0.length : Int)) = false := decide_eq_false (by omega)
      have HJA := Aside0.mk HJ
      have hje : j = l0.length := by omega
      subst hje
      clear HJ
      go_wp2
      go_ret
      exact ⟨by rw [all_yes HJA.out.2]; rfl, HB.out⟩

open Go.Proofs.Ytonifhkplniblaa.Walk Go.Maps
theorem getD_mem_Job {l : List (S67)} {j : Nat} (h : j < l.length) : l.getD j z67 ∈ l := by
  rw [List.getD_eq_getElem?_getD, List.getElem?_eq_getElem h]
  exact List.getElem_mem h

set_option maxHeartbeats 1000000 in
set_option maxRecDepth 100000 in
theorem IndexFunc_Job (p : S67 → Bool) (f : FuncId) (cap : Array Value) (w : World) (l0 : List (S67)) (hcl : ∀ (x : S67) (W : World), x ∈ l0 → Below w.heap.size w W → Calls Try.prog f (#[.agg #[.int .i64 x.f0, .int .i64 x.f1, .int .i64 x.f2, .int .i64 x.f3]] ++ cap) W fun e w' => e = .returned (.bool (p x)) ∧ Below W.heap.size W w')
    {fn : Func} (hf : Try.prog.funcs[f]? = some fn) (hname : (fn.name == "runtime.NumGoroutine") = false) (hb : fn.body.isSome = true)
    (A0 : Option Addr) (c0 : Nat) (hr0 : Kd.C k67 w A0 l0.length l0) (hc0 : l0.length ≤ c0) :
    Calls Try.prog 154 #[.slice A0 l0.length c0, .func (.func f) #[] cap] w fun e w' => e = .returned (.int .i64 (idxOf p l0)) ∧ Below w.heap.size w w' := by
  have hu := Try.underlying67
  have HR := Aside0.mk hr0
  have HC := Aside0.mk hc0
  have HCL := Aside0.mk hcl
  have HF := Aside0.mk hf
  have HB := Aside0.mk (Below.refl w.heap.size w)
  have hmx : l0.length ≤ 9223372036854775807 := hr0.2.1
  clear hr0 hc0 hcl hf
  go_enter Try.func154, Try.ntmps154
  go_wp2
  go_loopw [8] (fun v8 w' => ∃ j : Nat, v8 = .int .i64 j ∧ Aside0 (j ≤ l0.length ∧ ∀ i, i < j → p (l0.getD i z67) = false) ∧ Aside0 (Below w.heap.size w w')) (fun v8 _ => l0.length - (intOf v8).toNat)
  case atStart => exact ⟨0, rfl, ⟨by omega, fun i hi => absurd hi (by omega)⟩, HB⟩
  case round =>
    clear HB
    obtain ⟨j, rfl, ⟨HJ⟩, HB⟩ := hrel
    by_cases hlt : j < l0.length
    · have b1 : decide ((j : Int) < (l0.length : Int)) = true := decide_eq_true (by omega)
      obtain ⟨ad, e1, hx0, hx1, hx2, hx3⟩ := at_T67 HR.out (j : Int) (by omega) (by omega)
      cases e1
      replace hx0 := (HB.out.cell (World.block_lt_of_cell? w _ hx0)).trans hx0
      replace hx1 := (HB.out.cell (World.block_lt_of_cell? w _ hx1)).trans hx1
      replace hx2 := (HB.out.cell (World.block_lt_of_cell? w _ hx2)).trans hx2
      replace hx3 := (HB.out.cell (World.block_lt_of_cell? w _ hx3)).trans hx3
      simp only [Int.toNat_natCast] at hx0 hx1 hx2 hx3
      have hrd : rd_T67 l0 (j : Int) = l0.getD j z67 := rfl
      rw [hrd] at hx0 hx1 hx2 hx3
      clear hrd
      obtain ⟨x, hx⟩ : ∃ x, x = l0.getD j z67 := ⟨_, rfl⟩
      rw [← hx] at hx0 hx1 hx2 hx3
      have q0 : 0 ≤ (j : Int) := by omega
      have q1 : (j : Int) < (l0.length : Int) := by omega
      have HX := Aside0.mk hx
      have HJA := Aside0.mk HJ
      clear HJ hx
      obtain ⟨b, hpb⟩ : ∃ b, b = p x := ⟨_, rfl⟩
      have HP := Aside0.mk hpb
      clear hpb
      cases b with
      | true =>
        go_wp2_with (with_reducible refine gate_value (n := 11) rfl ?_; go_must (refine goesF_ (some 16) rfl rfl rfl rfl HF.out hname hb (#[.agg #[.int .i64 x.f0, .int .i64 x.f1, .int .i64 x.f2, .int .i64 x.f3]] ++ cap) (by simp [Act.eval]) ?_; refine (HCL.out x _ (by rw [HX.out]; exact getD_mem_Job hlt) HB.out).mono ?_; rw [← HP.out]; rintro e w2 ⟨rfl, hb2⟩; refine ⟨_, rfl, ?_⟩; have n0_ := Aside0.mk (below_step HB.out hb2); clear hb2 HB; have HB := n0_; clear n0_))
        go_ret
        exact ⟨by rw [idxOf_at z67 hlt HJA.out.2 (by rw [← HX.out]; exact HP.out.symm)]; rfl, HB.out⟩
      | false =>
        go_wp2_with (with_reducible refine gate_value (n := 11) rfl ?_; go_must (refine goesF_ (some 16) rfl rfl rfl rfl HF.out hname hb (#[.agg #[.int .i64 x.f0, .int .i64 x.f1, .int .i64 x.f2, .int .i64 x.f3]] ++ cap) (by simp [Act.eval]) ?_; refine (HCL.out x _ (by rw [HX.out]; exact getD_mem_Job hlt) HB.out).mono ?_; rw [← HP.out]; rintro e w2 ⟨rfl, hb2⟩; refine ⟨_, rfl, ?_⟩; have n0_ := Aside0.mk (below_step HB.out hb2); clear hb2 HB; have HB := n0_; clear n0_))
        go_roundw
        case rel =>
          refine ⟨j + 1, by go_num, ⟨by omega, fun i hi => ?_⟩, HB⟩
          by_cases hij : i = j
          · rw [hij, ← HX.out]; exact HP.out.symm
          · exact HJA.out.2 i (by omega)
        case measure => simp [intOf]; omega
    · have b1 : decide ((j : Int) < (l0.length : Int)) = false := decide_eq_false (by omega)
      have HJA := Aside0.mk HJ
      clear HJ
      go_wp2
      go_ret
      exact ⟨by rw [idxOf_none z67 (fun i hi => HJA.out.2 i (by omega))]; rfl, HB.out⟩

set_option maxHeartbeats 1000000 in
set_option maxRecDepth 100000 in
theorem ContainsFunc_Job (p : S67 → Bool) (f : FuncId) (cap : Array Value) (w : World) (l0 : List (S67)) (hcl : ∀ (x : S67) (W : World), x ∈ l0 → Below w.heap.size w W → Calls Try.prog f (#[.agg #[.int .i64 x.f0, .int .i64 x.f1, .int .i64 x.f2, .int .i64 x.f3]] ++ cap) W fun e w' => e = .returned (.bool (p x)) ∧ Below W.heap.size W w')
    {fn : Func} (hf : Try.prog.funcs[f]? = some fn) (hname : (fn.name == "runtime.NumGoroutine") = false) (hb : fn.body.isSome = true)
    (A0 : Option Addr) (c0 : Nat) (hr0 : Kd.C k67 w A0 l0.length l0) (hc0 : l0.length ≤ c0) :
    Calls Try.prog 103 #[.slice A0 l0.length c0, .func (.func f) #[] cap] w fun e w' => e = .returned (.bool (l0.any p)) ∧ Below w.heap.size w w' := by
  have H := Lib.hid (IndexFunc_Job p f cap w l0 hcl hf hname hb A0 c0 hr0 hc0)
  clear hr0 hc0 hcl hf
  go_enter Try.func103, Try.ntmps103
  go_wp2_with (go_at_call 154; refine H.out.mono ?_; rintro e w2 ⟨rfl, hb2⟩)
  go_ret
  exact ⟨by rw [← idxOf_neg]; rfl, hb2⟩
def dlOk (s : List (S62)) (x : S67) : Bool := decide (x.f2 = wrap64 (x.f1 + (rd_T62 s x.f0).f1))
/-- The jobs are a legal pattern of a valid set. -/
def legalB (s : List (S62)) (l : List (S67)) : Bool := ordB s l && ((List.range l.length).all (spcAt s l) && l.all (dlOk s))
theorem ordB_in {s : List (S62)} {l : List (S67)} (h : ordB s l = true) : l.length ≤ 60 ∧ ∀ i, i < l.length → jobIn s (l.getD i z67) = true := by
  unfold ordB at h
  rw [Bool.and_eq_true, List.all_eq_true] at h
  refine ⟨of_decide_eq_true h.2, fun i hi => ?_⟩
  have := h.1 i (List.mem_range.2 hi)
  unfold ordAt at this
  rw [Bool.and_eq_true] at this
  exact this.1
theorem jobIn_f0 {s : List (S62)} {j : S67} (h : jobIn s j = true) : 0 ≤ j.f0 ∧ j.f0 < s.length := by
  unfold jobIn at h; rw [Bool.and_eq_true] at h; have := of_decide_eq_true h.1; omega
theorem jobIn_f1 {s : List (S62)} {j : S67} (h : jobIn s j = true) : 0 ≤ j.f1 ∧ j.f1 ≤ 119 := by
  unfold jobIn at h; rw [Bool.and_eq_true, Bool.and_eq_true] at h; exact of_decide_eq_true h.2.1
def impl_JobsLegal.f (l0 : List (S62)) (l1 : List (S67)) : Option Bool := (impl_SetValid.f l0).bind fun b => some (b && legalB l0 l1)
set_option maxHeartbeats 2000000 in
set_option maxRecDepth 100000 in
theorem impl_JobsLegal.calls (A0 : Option Addr) (c0 : Nat) (l0 : List (S62)) (A1 : Option Addr) (c1 : Nat) (l1 : List (S67)) (r : Bool) (w : World) (hr0 : Kd.C k62 w A0 l0.length l0) (hc0 : l0.length ≤ c0) (hr1 : Kd.C k67 w A1 l1.length l1) (hc1 : l1.length ≤ c1) (h : impl_JobsLegal.f l0 l1 = some r) :
    Calls Try.prog 35 #[.slice A0 l0.length c0, .slice A1 l1.length c1] w fun e w' => e = .returned (.bool r) ∧ Below w.heap.size w w' := by
  unfold impl_JobsLegal.f at h
  obtain ⟨b, hb⟩ : ∃ b, impl_SetValid.f l0 = some b := by
    cases hs : impl_SetValid.f l0 with
    | none => rw [hs] at h; cases h
    | some b => exact ⟨b, rfl⟩
  rw [hb, Option.bind_some] at h
  obtain rfl := Option.some.inj h
  clear h
  have hB0 : Below w.heap.size w (w.alloc (.cells #[.slice A0 l0.length c0] 37)) := below_alloc (Below.refl _ _) _
  have HS := Lib.hid (impl_SetValid.calls A0 c0 l0 b (w.alloc (.cells #[.slice A0 l0.length c0] 37)) (Kd.C_below hr0 hB0) hc0 hb)
  have hcell : (w.alloc (.cells #[.slice A0 l0.length c0] 37)).cell? ⟨w.heap.size, 0, none⟩ = some (.slice A0 l0.length c0) := by
    rw [World.cell?_alloc_at _ _ _ _ rfl]; rfl
  have hse : Sees (w.alloc (.cells #[.slice A0 l0.length c0] 37)) w.heap.size A0 l0 c0 := ⟨hcell, Kd.C_below hr0 hB0, by simp⟩
  have HSE := Aside0.mk hse
  have HR1 := Aside0.mk (Kd.C_below hr1 hB0)
  have HC1 := Lib.hid hc1
  have HB := Aside0.mk hB0
  have hmf : ∀ (fn : Fn) (first cap : Array Value) (w : World), (Instr.makeFunc fn first cap).run Try.prog w = .ok (.func fn first cap) w := fun _ _ _ _ => rfl
  have hsx : l0.length ≤ 9223372036854775807 := hr0.2.1
  clear hr0 hc0 hr1 hc1 hb hse hB0
  cases b with
  | false =>
    go_enter Try.func35, Try.ntmps35
    go_wp2_with (go_at_call 97; refine HS.out.mono ?_; rintro e w2 ⟨rfl, hbx⟩; ((have n0_ := Aside0.mk (below_step HB.out hbx); have n1_ := Aside0.mk (HSE.out.below hbx); have n2_ := Aside0.mk (Kd.C_below HR1.out hbx); clear HB HSE HR1 hbx; have HB := n0_; have HSE := n1_; have HR1 := n2_; clear n0_ n1_ n2_)))
    go_ret
    exact ⟨by simp, HB.out⟩
  | true =>
    have HORD := Lib.hid (fun (W : World) (hs : Sees W w.heap.size A0 l0 c0) (hr : Kd.C k67 W A1 l1.length l1) => ordered_calls w.heap.size A0 l0 c0 A1 c1 l1 W hs hr HC1.out)
    cases ho : ordB l0 l1 with
    | false =>
      have HO := Lib.hid ho
      clear ho
      go_enter Try.func35, Try.ntmps35
      go_wp2_with (first | (go_at_call 97; refine HS.out.mono ?_; rintro e w2 ⟨rfl, hbx⟩; have hcx := (hbx.cell (World.block_lt_of_cell? _ _ hcell)).trans hcell; ((have n0_ := Aside0.mk (below_step HB.out hbx); have n1_ := Aside0.mk (HSE.out.below hbx); have n2_ := Aside0.mk (Kd.C_below HR1.out hbx); clear HB HSE HR1 hbx; have HB := n0_; have HSE := n1_; have HR1 := n2_; clear n0_ n1_ n2_))) | (go_at_call 98; refine (HORD.out _ HSE.out HR1.out).mono ?_; rw [HO.out]; rintro e w3 ⟨rfl, hbx⟩; ((have n0_ := Aside0.mk (below_step HB.out hbx); have n1_ := Aside0.mk (HSE.out.below hbx); have n2_ := Aside0.mk (Kd.C_below HR1.out hbx); clear HB HSE HR1 hbx; have HB := n0_; have HSE := n1_; have HR1 := n2_; clear n0_ n1_ n2_))))
      go_ret
      exact ⟨by unfold legalB; rw [HO.out]; rfl, HB.out⟩
    | true =>
      have HO := Lib.hid ho
      have hin := ordB_in ho
      have HSP := Lib.hid (fun (W : World) (hs : Sees W w.heap.size A0 l0 c0) (hr : Kd.C k67 W A1 l1.length l1) => spaced_calls w.heap.size A0 l0 c0 A1 c1 l1 W hs hr HC1.out (fun i hi => jobIn_f0 (hin.2 i hi)) (fun i hi => jobIn_f1 (hin.2 i hi)) hin.1)
      cases hp : (List.range l1.length).all (spcAt l0 l1) with
      | false =>
        have HP := Lib.hid hp
        clear ho hin hp
        go_enter Try.func35, Try.ntmps35
        go_wp2_with (first | (go_at_call 97; refine HS.out.mono ?_; rintro e w2 ⟨rfl, hbx⟩; have hcx := (hbx.cell (World.block_lt_of_cell? _ _ hcell)).trans hcell; ((have n0_ := Aside0.mk (below_step HB.out hbx); have n1_ := Aside0.mk (HSE.out.below hbx); have n2_ := Aside0.mk (Kd.C_below HR1.out hbx); clear HB HSE HR1 hbx; have HB := n0_; have HSE := n1_; have HR1 := n2_; clear n0_ n1_ n2_))) | (go_at_call 98; refine (HORD.out _ HSE.out HR1.out).mono ?_; rw [HO.out]; rintro e w3 ⟨rfl, hbx⟩; ((have n0_ := Aside0.mk (below_step HB.out hbx); have n1_ := Aside0.mk (HSE.out.below hbx); have n2_ := Aside0.mk (Kd.C_below HR1.out hbx); clear HB HSE HR1 hbx; have HB := n0_; have HSE := n1_; have HR1 := n2_; clear n0_ n1_ n2_))) | (go_at_call 100; refine (HSP.out _ HSE.out HR1.out).mono ?_; rw [HP.out]; rintro e w4 ⟨rfl, hbx⟩; ((have n0_ := Aside0.mk (below_step HB.out hbx); have n1_ := Aside0.mk (HSE.out.below hbx); have n2_ := Aside0.mk (Kd.C_below HR1.out hbx); clear HB HSE HR1 hbx; have HB := n0_; have HSE := n1_; have HR1 := n2_; clear n0_ n1_ n2_))))
        go_ret
        exact ⟨by unfold legalB; rw [HO.out, HP.out]; rfl, HB.out⟩
      | true =>
        have HP := Lib.hid hp
        have HCF := Lib.hid (fun (W : World) (hs : Sees W w.heap.size A0 l0 c0) (hr : Kd.C k67 W A1 l1.length l1) => ContainsFunc_Job (fun x => !dlOk l0 x) 104 #[.pointer (some ⟨w.heap.size, 0, none⟩)] W l1
          (fun x W' hx hW => by
            obtain ⟨i, hi, rfl⟩ := List.getElem_of_mem hx
            have hj := jobIn_f0 (hin.2 i hi)
            have hg : l1.getD i z67 = l1[i] := by simp [List.getD_eq_getElem?_getD, hi]
            rw [hg] at hj
            exact JobsLegal_3 w.heap.size A0 l0 c0 l1[i] hj.1 hj.2 W' (hs.below hW)) Try.func104 (by kernel_rfl) rfl A1 c1 hr HC1.out)
        have hany : l1.any (fun x => !dlOk l0 x) = !l1.all (dlOk l0) := by rw [List.all_eq_not_any_not, Bool.not_not]
        have HA := Lib.hid hany
        clear ho hin hp hany
        go_enter Try.func35, Try.ntmps35
        go_wp2_with (first | (go_at_call 97; refine HS.out.mono ?_; rintro e w2 ⟨rfl, hbx⟩; have hcx := (hbx.cell (World.block_lt_of_cell? _ _ hcell)).trans hcell; ((have n0_ := Aside0.mk (below_step HB.out hbx); have n1_ := Aside0.mk (HSE.out.below hbx); have n2_ := Aside0.mk (Kd.C_below HR1.out hbx); clear HB HSE HR1 hbx; have HB := n0_; have HSE := n1_; have HR1 := n2_; clear n0_ n1_ n2_))) | (go_at_call 98; refine (HORD.out _ HSE.out HR1.out).mono ?_; rw [HO.out]; rintro e w3 ⟨rfl, hbx⟩; ((have n0_ := Aside0.mk (below_step HB.out hbx); have n1_ := Aside0.mk (HSE.out.below hbx); have n2_ := Aside0.mk (Kd.C_below HR1.out hbx); clear HB HSE HR1 hbx; have HB := n0_; have HSE := n1_; have HR1 := n2_; clear n0_ n1_ n2_))) | (go_at_call 100; refine (HSP.out _ HSE.out HR1.out).mono ?_; rw [HP.out]; rintro e w4 ⟨rfl, hbx⟩; ((have n0_ := Aside0.mk (below_step HB.out hbx); have n1_ := Aside0.mk (HSE.out.below hbx); have n2_ := Aside0.mk (Kd.C_below HR1.out hbx); clear HB HSE HR1 hbx; have HB := n0_; have HSE := n1_; have HR1 := n2_; clear n0_ n1_ n2_))) | (go_at_call 103; refine (HCF.out _ HSE.out HR1.out).mono ?_; rw [HA.out]; rintro e w5 ⟨rfl, hbx⟩; ((have n0_ := Aside0.mk (below_step HB.out hbx); have n1_ := Aside0.mk (HSE.out.below hbx); have n2_ := Aside0.mk (Kd.C_below HR1.out hbx); clear HB HSE HR1 hbx; have HB := n0_; have HSE := n1_; have HR1 := n2_; clear n0_ n1_ n2_))))
        go_ret
        exact ⟨by unfold legalB; rw [HO.out, HP.out]; simp, HB.out⟩

end Go.Proofs.Ytonifhkplniblaa.Print

namespace Go.Proofs.Ytonifhkplniblaa.Print
open Go.RowKit Go.Proofs.YtonifhkplniblaaW.PrintWords Go.Proofs.YtonifhkplniblaaW.PrintLast Go.Proofs.YtonifhkplniblaaW.PrintMore
attribute [local go_sem] max2_int min2_int max_two min_two max_three min_three max_four min_four   -- for this text's walks alone
set_option linter.unusedVariables false
set_option linter.unusedSimpArgs false

/-! ### impl_ArrivalsLegal: function 78 -/
def impl_ArrivalsLegal.l0 : Nat → List (S164) → List (S164) → Int → Int → Option (Bool)
  | 0, _, _, _, _ => none
  | k + 1, x0, x5, x6, x7 => if x7 < x6 then (if 0 ≤ x7 then (if x7 < (x5.length : Int) then ((impl_in.f ((rd_T164 x5 x7).f0) 0 119).bind fun t103 => (if t103 = true then ((impl_in.f ((rd_T164 x5 x7).f1) 1 20).bind fun t104 => (if t104 = true then (if x7 > 0 then (if 0 ≤ (wrap64 (x7 - 1)) then (if (wrap64 (x7 - 1)) < (x0.length : Int) then (if ((rd_T164 x0 (wrap64 (x7 - 1))).f0) > ((rd_T164 x5 x7).f0) then (some false) else (impl_ArrivalsLegal.l0 k x0 x5 x6 (wrap64 (x7 + 1)))) else (none)) else (none)) else (impl_ArrivalsLegal.l0 k x0 x5 x6 (wrap64 (x7 + 1)))) else (some false))) else (some false))) else (none)) else (none)) else (some (decide ((x0.length : Int) ≤ 20)))
def impl_ArrivalsLegal.f (k : Nat) (l0 : List (S164)) : Option (Bool) := impl_ArrivalsLegal.l0 k l0 l0 (l0.length : Int) 0
set_option maxHeartbeats 8000000 in
set_option maxRecDepth 100000 in
theorem impl_ArrivalsLegal.calls (k : Nat) (A0 : Option Addr) (c0 : Nat) (l0 : List (S164)) (r : Bool) (w : World) (hr0 : Kd.C k164 w A0 l0.length l0) (hc0 : l0.length ≤ c0) (h : impl_ArrivalsLegal.f k l0 = some r) :
    Calls Try.prog 78 #[.slice A0 l0.length c0] w fun e w' => e = .returned (.bool r) ∧ Below w.heap.size w w' := by
  have hu164 := Try.underlying164
  have HR0 := Aside0.mk hr0
  have HC0 := Aside0.mk hc0
  clear hr0 hc0
  have HB := Aside0.mk (Below.refl w.heap.size w)
  have H : (impl_ArrivalsLegal.l0 k l0 l0 (l0.length : Int) 0) = some r := h
  clear h
  have H' := Aside0.mk H
  clear H
  go_enter Try.func78, Try.ntmps78
  go_wp2
  repeat (go_quiet (fail); try go_wp2)
  go_loopg [7] k (fun kq v7 w' => ∃ (x7_1 : Int), v7 = .int .i64 x7_1 ∧ Aside0 (impl_ArrivalsLegal.l0 kq l0 l0 (l0.length : Int) x7_1 = some r) ∧ Aside0 (kq ≤ k) ∧ Aside0 (Below w.heap.size w w'))
  case atStart => exact ⟨(0), q3, H', ⟨Nat.le_refl _⟩, ⟨by repeat (first | (with_reducible first | exact HB.out | apply below_alloc | apply pw_below_drewN | apply below_drew1) | exact HB.out)⟩⟩
  case round =>
    clear H'
    obtain ⟨x7_1, rfl, HA, HK1, HB⟩ := hrel
    cases gk with
    | zero => exact absurd HA.out (by simp [impl_ArrivalsLegal.l0])
    | succ k1 =>
      have H := HA.out
      clear HA
      simp only [impl_ArrivalsLegal.l0] at H
      by_cases c2 : x7_1 < (l0.length : Int)
      · rw [if_pos c2] at H
        have c2b0 : decide (x7_1 < (l0.length : Int)) = true := decide_eq_true c2
        clear c2
        by_cases c3 : 0 ≤ x7_1
        · rw [if_pos c3] at H
          have c3b0 : decide (0 ≤ x7_1) = true := decide_eq_true c3
          clear c3
          by_cases c4 : x7_1 < (l0.length : Int)
          · rw [if_pos c4] at H
            have c4b0 : decide (x7_1 < (l0.length : Int)) = true := decide_eq_true c4
            clear c4
            replace H := Option.bind_eq_some_iff.mp H
            obtain ⟨t103, A50, H⟩ := H
            replace H : (if t103 = true then ((impl_in.f ((rd_T164 l0 x7_1).f1) 1 20).bind fun t104 => (if t104 = true then (if x7_1 > 0 then (if 0 ≤ (wrap64 (x7_1 - 1)) then (if (wrap64 (x7_1 - 1)) < (l0.length : Int) then (if ((rd_T164 l0 (wrap64 (x7_1 - 1))).f0) > ((rd_T164 l0 x7_1).f0) then (some false) else (impl_ArrivalsLegal.l0 k1 l0 l0 (l0.length : Int) (wrap64 (x7_1 + 1)))) else (none)) else (none)) else (impl_ArrivalsLegal.l0 k1 l0 l0 (l0.length : Int) (wrap64 (x7_1 + 1)))) else (some false))) else (some false)) = some r := H
            have A5 := Aside0.mk A50
            clear A50
            by_cases c6 : t103 = true
            · subst c6
              have H1 : ((impl_in.f ((rd_T164 l0 x7_1).f1) 1 20).bind fun t104 => (if t104 = true then (if x7_1 > 0 then (if 0 ≤ (wrap64 (x7_1 - 1)) then (if (wrap64 (x7_1 - 1)) < (l0.length : Int) then (if ((rd_T164 l0 (wrap64 (x7_1 - 1))).f0) > ((rd_T164 l0 x7_1).f0) then (some false) else (impl_ArrivalsLegal.l0 k1 l0 l0 (l0.length : Int) (wrap64 (x7_1 + 1)))) else (none)) else (none)) else (impl_ArrivalsLegal.l0 k1 l0 l0 (l0.length : Int) (wrap64 (x7_1 + 1)))) else (some false))) = some r := by rw [if_pos rfl] at H; exact H
              clear H
              have H := H1
              clear H1
              replace H := Option.bind_eq_some_iff.mp H
              obtain ⟨t104, A70, H⟩ := H
              replace H : (if t104 = true then (if x7_1 > 0 then (if 0 ≤ (wrap64 (x7_1 - 1)) then (if (wrap64 (x7_1 - 1)) < (l0.length : Int) then (if ((rd_T164 l0 (wrap64 (x7_1 - 1))).f0) > ((rd_T164 l0 x7_1).f0) then (some false) else (impl_ArrivalsLegal.l0 k1 l0 l0 (l0.length : Int) (wrap64 (x7_1 + 1)))) else (none)) else (none)) else (impl_ArrivalsLegal.l0 k1 l0 l0 (l0.length : Int) (wrap64 (x7_1 + 1)))) else (some false)) = some r := H
              have A7 := Aside0.mk A70
              clear A70
              by_cases c8 : t104 = true
              · subst c8
                have H1 : (if x7_1 > 0 then (if 0 ≤ (wrap64 (x7_1 - 1)) then (if (wrap64 (x7_1 - 1)) < (l0.length : Int) then (if ((rd_T164 l0 (wrap64 (x7_1 - 1))).f0) > ((rd_T164 l0 x7_1).f0) then (some false) else (impl_ArrivalsLegal.l0 k1 l0 l0 (l0.length : Int) (wrap64 (x7_1 + 1)))) else (none)) else (none)) else (impl_ArrivalsLegal.l0 k1 l0 l0 (l0.length : Int) (wrap64 (x7_1 + 1)))) = some r := by rw [if_pos rfl] at H; exact H
                clear H
                have H := H1
                clear H1
                by_cases c9 : x7_1 > 0
                · rw [if_pos c9] at H
                  have c9b0 : decide (0 < x7_1) = true := decide_eq_true c9
                  clear c9
                  obtain ⟨ji10, hji10⟩ : ∃ j_ : Int, (wrap64 (x7_1 - 1)) = j_ := ⟨_, rfl⟩
                  replace H : (if 0 ≤ (ji10) then (if (ji10) < (l0.length : Int) then (if ((rd_T164 l0 (ji10)).f0) > ((rd_T164 l0 x7_1).f0) then (some false) else (impl_ArrivalsLegal.l0 k1 l0 l0 (l0.length : Int) (wrap64 (x7_1 + 1)))) else (none)) else (none)) = some r := by first | (rw [hji10] at H; exact H) | (simp only [hji10] at H ⊢; exact H)
                  (try rw [hji10] at A5)
                  (try rw [hji10] at A7)
                  have hji10w : (IntKind.i64.wrap (x7_1 - 1)) = ji10 := (i64_w _).trans hji10
                  by_cases c11 : 0 ≤ (ji10)
                  · rw [if_pos c11] at H
                    have c11b0 : decide (0 ≤ (ji10)) = true := decide_eq_true c11
                    clear c11
                    by_cases c12 : (ji10) < (l0.length : Int)
                    · rw [if_pos c12] at H
                      have c12b0 : decide ((ji10) < (l0.length : Int)) = true := decide_eq_true c12
                      clear c12
                      by_cases c13 : ((rd_T164 l0 (ji10)).f0) > ((rd_T164 l0 x7_1).f0)
                      · rw [if_pos c13] at H
                        have c13b0 : decide (((rd_T164 l0 x7_1).f0) < ((rd_T164 l0 (ji10)).f0)) = true := decide_eq_true c13
                        clear c13
                        obtain rfl := Option.some.inj H
                        have p101 : 0 ≤ (x7_1 : Int) := of_decide_eq_true q1
                        have q101 : x7_1 < (l0.length : Int) := of_decide_eq_true q1
                        obtain ⟨ad101, e101, hx101_0, hx101_1⟩ := at_T164 HR0.out x7_1 p101 q101
                        cases e101
                        replace hx101_0 := (HB.out.cell (World.block_lt_of_cell? w _ hx101_0)).trans hx101_0
                        replace hx101_1 := (HB.out.cell (World.block_lt_of_cell? w _ hx101_1)).trans hx101_1
                        replace p101 := eq_true p101
                        replace q101 := eq_true q101
                        go_wp2_with (first | ((with_reducible refine gate_dst (N := 4) rfl ?_); refine box_event ?hg (N := 4) ?hd (cs := #[.int .i64 0, .int .i64 0]) (t := 164) ?hr ?_; (case hd => rfl); (case hg => rfl); (case hr => first | (go_simp; done) | (go_simp; rfl)); intro gb102 hg w14 hbox hb; have n0_ := Aside0.mk (below_step bq hb); have n1_ := Aside0.mk (hbox); have n2_ := Aside0.mk ((gbq : w.heap.size ≤ gb102)); have n3_ := Aside0.mk ((gbq : w.heap.size ≤ gb102)); clear HB; have HB := n0_; have BK102 := n1_; have GW102 := n2_; have GE102 := n3_; clear n0_ n1_ n2_ n3_; clear hb hbox hg; have hcz15_0 : w14.cell? ⟨gb102, 0, none⟩ = some (.int .i64 0) := (blk_cell BK102.out 0).trans rfl; have hcz15_1 : w14.cell? ⟨gb102, 1, none⟩ = some (.int .i64 0) := (blk_cell BK102.out 1).trans rfl; have hfz15_0 := blk_frozen BK102.out 0; have hfz15_1 := blk_frozen BK102.out 1) | (go_at_call 105; (with_reducible refine (impl_in.calls ((rd_T164 l0 x7_1).f0) 0 119 true _ A5.out).mono ?_); rintro e w' ⟨rfl, ⟨nd, rfl⟩⟩; (try first | exact ⟨rfl, _, World.drewN_drewN _ _ _⟩ | exact ⟨rfl, _, Eq.trans (World.drewN_drewN _ _ _) (congrArg (World.drewN _) (Nat.add_assoc _ _ _))⟩)) | (go_at_call 105; (with_reducible refine (impl_in.calls ((rd_T164 l0 x7_1).f1) 1 20 true _ A7.out).mono ?_); rintro e w' ⟨rfl, ⟨nd, rfl⟩⟩; (try first | exact ⟨rfl, _, World.drewN_drewN _ _ _⟩ | exact ⟨rfl, _, Eq.trans (World.drewN_drewN _ _ _) (congrArg (World.drewN _) (Nat.add_assoc _ _ _))⟩); have p105 : 0 ≤ ((ji10) : Int) := of_decide_eq_true q1; have q105 : (ji10) < (l0.length : Int) := of_decide_eq_true q1; obtain ⟨ad105, e105, hx105_0, hx105_1⟩ := at_T164 HR0.out (ji10) p105 q105; obtain rfl : ad101 = ad105 := (by injection e105); have hn105_0 : ad101.block ≠ gb102 := Nat.ne_of_lt (Nat.lt_of_lt_of_le q8 GW102.out); have hn105_1 : ad101.block ≠ gb102 := Nat.ne_of_lt (Nat.lt_of_lt_of_le q8 GW102.out); replace hx105_0 := (HB.out.cell (World.block_lt_of_cell? w _ hx105_0)).trans hx105_0; replace hx105_1 := (HB.out.cell (World.block_lt_of_cell? w _ hx105_1)).trans hx105_1; replace hx105_0 := (cell_far (p := ⟨gb102, 0, none⟩) q7 (.int .i64 ((rd_T164 l0 x7_1).f0))).trans hx105_0; replace hx105_1 := (cell_far (p := ⟨gb102, 0, none⟩) q7 (.int .i64 ((rd_T164 l0 x7_1).f0))).trans hx105_1; replace hx105_0 := (cell_far (p := ⟨gb102, 1, none⟩) q6 (.int .i64 ((rd_T164 l0 x7_1).f1))).trans hx105_0; replace hx105_1 := (cell_far (p := ⟨gb102, 1, none⟩) q6 (.int .i64 ((rd_T164 l0 x7_1).f1))).trans hx105_1; (try have hy105_0 := fun (n_ : Nat) => (show ((((w14.drewN n_).setCell ⟨gb102, 0, none⟩ (.int .i64 ((rd_T164 l0 x7_1).f0))).setCell ⟨gb102, 1, none⟩ (.int .i64 ((rd_T164 l0 x7_1).f1)))).cell? _ = some _ from hx105_0)); (try have hy105_1 := fun (n_ : Nat) => (show ((((w14.drewN n_).setCell ⟨gb102, 0, none⟩ (.int .i64 ((rd_T164 l0 x7_1).f0))).setCell ⟨gb102, 1, none⟩ (.int .i64 ((rd_T164 l0 x7_1).f1)))).cell? _ = some _ from hx105_1)); clear hn105_0; clear hn105_1; replace p105 := eq_true p105; replace q105 := eq_true q105))
                        (try (have p105 : 0 ≤ ((ji10) : Int) := of_decide_eq_true q1; have q105 : (ji10) < (l0.length : Int) := of_decide_eq_true q1; obtain ⟨ad105, e105, hx105_0, hx105_1⟩ := at_T164 HR0.out (ji10) p105 q105; obtain rfl : ad101 = ad105 := (by injection e105); have hn105_0 : ad101.block ≠ gb102 := Nat.ne_of_lt (Nat.lt_of_lt_of_le q8 GW102.out); have hn105_1 : ad101.block ≠ gb102 := Nat.ne_of_lt (Nat.lt_of_lt_of_le q8 GW102.out); replace hx105_0 := (HB.out.cell (World.block_lt_of_cell? w _ hx105_0)).trans hx105_0; replace hx105_1 := (HB.out.cell (World.block_lt_of_cell? w _ hx105_1)).trans hx105_1; replace hx105_0 := (cell_far (p := ⟨gb102, 0, none⟩) q7 (.int .i64 ((rd_T164 l0 x7_1).f0))).trans hx105_0; replace hx105_1 := (cell_far (p := ⟨gb102, 0, none⟩) q7 (.int .i64 ((rd_T164 l0 x7_1).f0))).trans hx105_1; replace hx105_0 := (cell_far (p := ⟨gb102, 1, none⟩) q6 (.int .i64 ((rd_T164 l0 x7_1).f1))).trans hx105_0; replace hx105_1 := (cell_far (p := ⟨gb102, 1, none⟩) q6 (.int .i64 ((rd_T164 l0 x7_1).f1))).trans hx105_1; (try have hy105_0 := fun (n_ : Nat) => (show ((((w14.drewN n_).setCell ⟨gb102, 0, none⟩ (.int .i64 ((rd_T164 l0 x7_1).f0))).setCell ⟨gb102, 1, none⟩ (.int .i64 ((rd_T164 l0 x7_1).f1)))).cell? _ = some _ from hx105_0)); (try have hy105_1 := fun (n_ : Nat) => (show ((((w14.drewN n_).setCell ⟨gb102, 0, none⟩ (.int .i64 ((rd_T164 l0 x7_1).f0))).setCell ⟨gb102, 1, none⟩ (.int .i64 ((rd_T164 l0 x7_1).f1)))).cell? _ = some _ from hx105_1)); clear hn105_0; clear hn105_1; replace p105 := eq_true p105; replace q105 := eq_true q105))
                        repeat (go_quiet (first | ((with_reducible refine gate_dst (N := 4) rfl ?_); refine box_event ?hg (N := 4) ?hd (cs := #[.int .i64 0, .int .i64 0]) (t := 164) ?hr ?_; (case hd => rfl); (case hg => rfl); (case hr => first | (go_simp; done) | (go_simp; rfl)); intro gb102 hg w14 hbox hb; have n0_ := Aside0.mk (below_step bq hb); have n1_ := Aside0.mk (hbox); have n2_ := Aside0.mk ((gbq : w.heap.size ≤ gb102)); have n3_ := Aside0.mk ((gbq : w.heap.size ≤ gb102)); clear HB; have HB := n0_; have BK102 := n1_; have GW102 := n2_; have GE102 := n3_; clear n0_ n1_ n2_ n3_; clear hb hbox hg; have hcz15_0 : w14.cell? ⟨gb102, 0, none⟩ = some (.int .i64 0) := (blk_cell BK102.out 0).trans rfl; have hcz15_1 : w14.cell? ⟨gb102, 1, none⟩ = some (.int .i64 0) := (blk_cell BK102.out 1).trans rfl; have hfz15_0 := blk_frozen BK102.out 0; have hfz15_1 := blk_frozen BK102.out 1) | (go_at_call 105; (with_reducible refine (impl_in.calls ((rd_T164 l0 x7_1).f0) 0 119 true _ A5.out).mono ?_); rintro e w' ⟨rfl, ⟨nd, rfl⟩⟩; (try first | exact ⟨rfl, _, World.drewN_drewN _ _ _⟩ | exact ⟨rfl, _, Eq.trans (World.drewN_drewN _ _ _) (congrArg (World.drewN _) (Nat.add_assoc _ _ _))⟩)) | (go_at_call 105; (with_reducible refine (impl_in.calls ((rd_T164 l0 x7_1).f1) 1 20 true _ A7.out).mono ?_); rintro e w' ⟨rfl, ⟨nd, rfl⟩⟩; (try first | exact ⟨rfl, _, World.drewN_drewN _ _ _⟩ | exact ⟨rfl, _, Eq.trans (World.drewN_drewN _ _ _) (congrArg (World.drewN _) (Nat.add_assoc _ _ _))⟩))); try go_wp2_with (first | ((with_reducible refine gate_dst (N := 4) rfl ?_); refine box_event ?hg (N := 4) ?hd (cs := #[.int .i64 0, .int .i64 0]) (t := 164) ?hr ?_; (case hd => rfl); (case hg => rfl); (case hr => first | (go_simp; done) | (go_simp; rfl)); intro gb102 hg w14 hbox hb; have n0_ := Aside0.mk (below_step bq hb); have n1_ := Aside0.mk (hbox); have n2_ := Aside0.mk ((gbq : w.heap.size ≤ gb102)); have n3_ := Aside0.mk ((gbq : w.heap.size ≤ gb102)); clear HB; have HB := n0_; have BK102 := n1_; have GW102 := n2_; have GE102 := n3_; clear n0_ n1_ n2_ n3_; clear hb hbox hg; have hcz15_0 : w14.cell? ⟨gb102, 0, none⟩ = some (.int .i64 0) := (blk_cell BK102.out 0).trans rfl; have hcz15_1 : w14.cell? ⟨gb102, 1, none⟩ = some (.int .i64 0) := (blk_cell BK102.out 1).trans rfl; have hfz15_0 := blk_frozen BK102.out 0; have hfz15_1 := blk_frozen BK102.out 1) | (go_at_call 105; (with_reducible refine (impl_in.calls ((rd_T164 l0 x7_1).f0) 0 119 true _ A5.out).mono ?_); rintro e w' ⟨rfl, ⟨nd, rfl⟩⟩; (try first | exact ⟨rfl, _, World.drewN_drewN _ _ _⟩ | exact ⟨rfl, _, Eq.trans (World.drewN_drewN _ _ _) (congrArg (World.drewN _) (Nat.add_assoc _ _ _))⟩)) | (go_at_call 105; (with_reducible refine (impl_in.calls ((rd_T164 l0 x7_1).f1) 1 20 true _ A7.out).mono ?_); rintro e w' ⟨rfl, ⟨nd, rfl⟩⟩; (try first | exact ⟨rfl, _, World.drewN_drewN _ _ _⟩ | exact ⟨rfl, _, Eq.trans (World.drewN_drewN _ _ _) (congrArg (World.drewN _) (Nat.add_assoc _ _ _))⟩); have p105 : 0 ≤ ((ji10) : Int) := of_decide_eq_true q1; have q105 : (ji10) < (l0.length : Int) := of_decide_eq_true q1; obtain ⟨ad105, e105, hx105_0, hx105_1⟩ := at_T164 HR0.out (ji10) p105 q105; obtain rfl : ad101 = ad105 := (by injection e105); have hn105_0 : ad101.block ≠ gb102 := Nat.ne_of_lt (Nat.lt_of_lt_of_le q8 GW102.out); have hn105_1 : ad101.block ≠ gb102 := Nat.ne_of_lt (Nat.lt_of_lt_of_le q8 GW102.out); replace hx105_0 := (HB.out.cell (World.block_lt_of_cell? w _ hx105_0)).trans hx105_0; replace hx105_1 := (HB.out.cell (World.block_lt_of_cell? w _ hx105_1)).trans hx105_1; replace hx105_0 := (cell_far (p := ⟨gb102, 0, none⟩) q7 (.int .i64 ((rd_T164 l0 x7_1).f0))).trans hx105_0; replace hx105_1 := (cell_far (p := ⟨gb102, 0, none⟩) q7 (.int .i64 ((rd_T164 l0 x7_1).f0))).trans hx105_1; replace hx105_0 := (cell_far (p := ⟨gb102, 1, none⟩) q6 (.int .i64 ((rd_T164 l0 x7_1).f1))).trans hx105_0; replace hx105_1 := (cell_far (p := ⟨gb102, 1, none⟩) q6 (.int .i64 ((rd_T164 l0 x7_1).f1))).trans hx105_1; (try have hy105_0 := fun (n_ : Nat) => (show ((((w14.drewN n_).setCell ⟨gb102, 0, none⟩ (.int .i64 ((rd_T164 l0 x7_1).f0))).setCell ⟨gb102, 1, none⟩ (.int .i64 ((rd_T164 l0 x7_1).f1)))).cell? _ = some _ from hx105_0)); (try have hy105_1 := fun (n_ : Nat) => (show ((((w14.drewN n_).setCell ⟨gb102, 0, none⟩ (.int .i64 ((rd_T164 l0 x7_1).f0))).setCell ⟨gb102, 1, none⟩ (.int .i64 ((rd_T164 l0 x7_1).f1)))).cell? _ = some _ from hx105_1)); clear hn105_0; clear hn105_1; replace p105 := eq_true p105; replace q105 := eq_true q105)))
                        go_ret
                        exact ⟨by first | rfl | (simp [errW_none, errW_some] <;> rfl) | (simp only [← hji10]; first | rfl | (simp [errW_none, errW_some] <;> rfl)) | (simp [*, errW_none, errW_some] <;> rfl), by repeat (first | (with_reducible first | exact HB.out | apply below_alloc | apply pw_below_drewN | apply below_drew1 | refine below_set ?_ GE102.out) | exact HB.out)⟩
                      · rw [if_neg c13] at H
                        have c13b0 : decide (((rd_T164 l0 x7_1).f0) < ((rd_T164 l0 (ji10)).f0)) = false := decide_eq_false c13
                        clear c13
                        have H' := Aside0.mk H
                        clear H
                        have p101 : 0 ≤ (x7_1 : Int) := of_decide_eq_true q1
                        have q101 : x7_1 < (l0.length : Int) := of_decide_eq_true q1
                        obtain ⟨ad101, e101, hx101_0, hx101_1⟩ := at_T164 HR0.out x7_1 p101 q101
                        cases e101
                        replace hx101_0 := (HB.out.cell (World.block_lt_of_cell? w _ hx101_0)).trans hx101_0
                        replace hx101_1 := (HB.out.cell (World.block_lt_of_cell? w _ hx101_1)).trans hx101_1
                        replace p101 := eq_true p101
                        replace q101 := eq_true q101
                        go_wp2_with (first | ((with_reducible refine gate_dst (N := 4) rfl ?_); refine box_event ?hg (N := 4) ?hd (cs := #[.int .i64 0, .int .i64 0]) (t := 164) ?hr ?_; (case hd => rfl); (case hg => rfl); (case hr => first | (go_simp; done) | (go_simp; rfl)); intro gb102 hg w16 hbox hb; have n0_ := Aside0.mk (below_step bq hb); have n1_ := Aside0.mk (hbox); have n2_ := Aside0.mk ((gbq : w.heap.size ≤ gb102)); have n3_ := Aside0.mk ((gbq : w.heap.size ≤ gb102)); clear HB; have HB := n0_; have BK102 := n1_; have GW102 := n2_; have GE102 := n3_; clear n0_ n1_ n2_ n3_; clear hb hbox hg; have hcz17_0 : w16.cell? ⟨gb102, 0, none⟩ = some (.int .i64 0) := (blk_cell BK102.out 0).trans rfl; have hcz17_1 : w16.cell? ⟨gb102, 1, none⟩ = some (.int .i64 0) := (blk_cell BK102.out 1).trans rfl; have hfz17_0 := blk_frozen BK102.out 0; have hfz17_1 := blk_frozen BK102.out 1) | (go_at_call 105; (with_reducible refine (impl_in.calls ((rd_T164 l0 x7_1).f0) 0 119 true _ A5.out).mono ?_); rintro e w' ⟨rfl, ⟨nd, rfl⟩⟩; (try first | exact ⟨rfl, _, World.drewN_drewN _ _ _⟩ | exact ⟨rfl, _, Eq.trans (World.drewN_drewN _ _ _) (congrArg (World.drewN _) (Nat.add_assoc _ _ _))⟩)) | (go_at_call 105; (with_reducible refine (impl_in.calls ((rd_T164 l0 x7_1).f1) 1 20 true _ A7.out).mono ?_); rintro e w' ⟨rfl, ⟨nd, rfl⟩⟩; (try first | exact ⟨rfl, _, World.drewN_drewN _ _ _⟩ | exact ⟨rfl, _, Eq.trans (World.drewN_drewN _ _ _) (congrArg (World.drewN _) (Nat.add_assoc _ _ _))⟩); have p105 : 0 ≤ ((ji10) : Int) := of_decide_eq_true q1; have q105 : (ji10) < (l0.length : Int) := of_decide_eq_true q1; obtain ⟨ad105, e105, hx105_0, hx105_1⟩ := at_T164 HR0.out (ji10) p105 q105; obtain rfl : ad101 = ad105 := (by injection e105); have hn105_0 : ad101.block ≠ gb102 := Nat.ne_of_lt (Nat.lt_of_lt_of_le q8 GW102.out); have hn105_1 : ad101.block ≠ gb102 := Nat.ne_of_lt (Nat.lt_of_lt_of_le q8 GW102.out); replace hx105_0 := (HB.out.cell (World.block_lt_of_cell? w _ hx105_0)).trans hx105_0; replace hx105_1 := (HB.out.cell (World.block_lt_of_cell? w _ hx105_1)).trans hx105_1; replace hx105_0 := (cell_far (p := ⟨gb102, 0, none⟩) q7 (.int .i64 ((rd_T164 l0 x7_1).f0))).trans hx105_0; replace hx105_1 := (cell_far (p := ⟨gb102, 0, none⟩) q7 (.int .i64 ((rd_T164 l0 x7_1).f0))).trans hx105_1; replace hx105_0 := (cell_far (p := ⟨gb102, 1, none⟩) q6 (.int .i64 ((rd_T164 l0 x7_1).f1))).trans hx105_0; replace hx105_1 := (cell_far (p := ⟨gb102, 1, none⟩) q6 (.int .i64 ((rd_T164 l0 x7_1).f1))).trans hx105_1; (try have hy105_0 := fun (n_ : Nat) => (show ((((w16.drewN n_).setCell ⟨gb102, 0, none⟩ (.int .i64 ((rd_T164 l0 x7_1).f0))).setCell ⟨gb102, 1, none⟩ (.int .i64 ((rd_T164 l0 x7_1).f1)))).cell? _ = some _ from hx105_0)); (try have hy105_1 := fun (n_ : Nat) => (show ((((w16.drewN n_).setCell ⟨gb102, 0, none⟩ (.int .i64 ((rd_T164 l0 x7_1).f0))).setCell ⟨gb102, 1, none⟩ (.int .i64 ((rd_T164 l0 x7_1).f1)))).cell? _ = some _ from hx105_1)); clear hn105_0; clear hn105_1; replace p105 := eq_true p105; replace q105 := eq_true q105))
                        (try (have p105 : 0 ≤ ((ji10) : Int) := of_decide_eq_true q1; have q105 : (ji10) < (l0.length : Int) := of_decide_eq_true q1; obtain ⟨ad105, e105, hx105_0, hx105_1⟩ := at_T164 HR0.out (ji10) p105 q105; obtain rfl : ad101 = ad105 := (by injection e105); have hn105_0 : ad101.block ≠ gb102 := Nat.ne_of_lt (Nat.lt_of_lt_of_le q8 GW102.out); have hn105_1 : ad101.block ≠ gb102 := Nat.ne_of_lt (Nat.lt_of_lt_of_le q8 GW102.out); replace hx105_0 := (HB.out.cell (World.block_lt_of_cell? w _ hx105_0)).trans hx105_0; replace hx105_1 := (HB.out.cell (World.block_lt_of_cell? w _ hx105_1)).trans hx105_1; replace hx105_0 := (cell_far (p := ⟨gb102, 0, none⟩) q7 (.int .i64 ((rd_T164 l0 x7_1).f0))).trans hx105_0; replace hx105_1 := (cell_far (p := ⟨gb102, 0, none⟩) q7 (.int .i64 ((rd_T164 l0 x7_1).f0))).trans hx105_1; replace hx105_0 := (cell_far (p := ⟨gb102, 1, none⟩) q6 (.int .i64 ((rd_T164 l0 x7_1).f1))).trans hx105_0; replace hx105_1 := (cell_far (p := ⟨gb102, 1, none⟩) q6 (.int .i64 ((rd_T164 l0 x7_1).f1))).trans hx105_1; (try have hy105_0 := fun (n_ : Nat) => (show ((((w16.drewN n_).setCell ⟨gb102, 0, none⟩ (.int .i64 ((rd_T164 l0 x7_1).f0))).setCell ⟨gb102, 1, none⟩ (.int .i64 ((rd_T164 l0 x7_1).f1)))).cell? _ = some _ from hx105_0)); (try have hy105_1 := fun (n_ : Nat) => (show ((((w16.drewN n_).setCell ⟨gb102, 0, none⟩ (.int .i64 ((rd_T164 l0 x7_1).f0))).setCell ⟨gb102, 1, none⟩ (.int .i64 ((rd_T164 l0 x7_1).f1)))).cell? _ = some _ from hx105_1)); clear hn105_0; clear hn105_1; replace p105 := eq_true p105; replace q105 := eq_true q105))
                        repeat (go_quiet (first | ((with_reducible refine gate_dst (N := 4) rfl ?_); refine box_event ?hg (N := 4) ?hd (cs := #[.int .i64 0, .int .i64 0]) (t := 164) ?hr ?_; (case hd => rfl); (case hg => rfl); (case hr => first | (go_simp; done) | (go_simp; rfl)); intro gb102 hg w16 hbox hb; have n0_ := Aside0.mk (below_step bq hb); have n1_ := Aside0.mk (hbox); have n2_ := Aside0.mk ((gbq : w.heap.size ≤ gb102)); have n3_ := Aside0.mk ((gbq : w.heap.size ≤ gb102)); clear HB; have HB := n0_; have BK102 := n1_; have GW102 := n2_; have GE102 := n3_; clear n0_ n1_ n2_ n3_; clear hb hbox hg; have hcz17_0 : w16.cell? ⟨gb102, 0, none⟩ = some (.int .i64 0) := (blk_cell BK102.out 0).trans rfl; have hcz17_1 : w16.cell? ⟨gb102, 1, none⟩ = some (.int .i64 0) := (blk_cell BK102.out 1).trans rfl; have hfz17_0 := blk_frozen BK102.out 0; have hfz17_1 := blk_frozen BK102.out 1) | (go_at_call 105; (with_reducible refine (impl_in.calls ((rd_T164 l0 x7_1).f0) 0 119 true _ A5.out).mono ?_); rintro e w' ⟨rfl, ⟨nd, rfl⟩⟩; (try first | exact ⟨rfl, _, World.drewN_drewN _ _ _⟩ | exact ⟨rfl, _, Eq.trans (World.drewN_drewN _ _ _) (congrArg (World.drewN _) (Nat.add_assoc _ _ _))⟩)) | (go_at_call 105; (with_reducible refine (impl_in.calls ((rd_T164 l0 x7_1).f1) 1 20 true _ A7.out).mono ?_); rintro e w' ⟨rfl, ⟨nd, rfl⟩⟩; (try first | exact ⟨rfl, _, World.drewN_drewN _ _ _⟩ | exact ⟨rfl, _, Eq.trans (World.drewN_drewN _ _ _) (congrArg (World.drewN _) (Nat.add_assoc _ _ _))⟩))); try go_wp2_with (first | ((with_reducible refine gate_dst (N := 4) rfl ?_); refine box_event ?hg (N := 4) ?hd (cs := #[.int .i64 0, .int .i64 0]) (t := 164) ?hr ?_; (case hd => rfl); (case hg => rfl); (case hr => first | (go_simp; done) | (go_simp; rfl)); intro gb102 hg w16 hbox hb; have n0_ := Aside0.mk (below_step bq hb); have n1_ := Aside0.mk (hbox); have n2_ := Aside0.mk ((gbq : w.heap.size ≤ gb102)); have n3_ := Aside0.mk ((gbq : w.heap.size ≤ gb102)); clear HB; have HB := n0_; have BK102 := n1_; have GW102 := n2_; have GE102 := n3_; clear n0_ n1_ n2_ n3_; clear hb hbox hg; have hcz17_0 : w16.cell? ⟨gb102, 0, none⟩ = some (.int .i64 0) := (blk_cell BK102.out 0).trans rfl; have hcz17_1 : w16.cell? ⟨gb102, 1, none⟩ = some (.int .i64 0) := (blk_cell BK102.out 1).trans rfl; have hfz17_0 := blk_frozen BK102.out 0; have hfz17_1 := blk_frozen BK102.out 1) | (go_at_call 105; (with_reducible refine (impl_in.calls ((rd_T164 l0 x7_1).f0) 0 119 true _ A5.out).mono ?_); rintro e w' ⟨rfl, ⟨nd, rfl⟩⟩; (try first | exact ⟨rfl, _, World.drewN_drewN _ _ _⟩ | exact ⟨rfl, _, Eq.trans (World.drewN_drewN _ _ _) (congrArg (World.drewN _) (Nat.add_assoc _ _ _))⟩)) | (go_at_call 105; (with_reducible refine (impl_in.calls ((rd_T164 l0 x7_1).f1) 1 20 true _ A7.out).mono ?_); rintro e w' ⟨rfl, ⟨nd, rfl⟩⟩; (try first | exact ⟨rfl, _, World.drewN_drewN _ _ _⟩ | exact ⟨rfl, _, Eq.trans (World.drewN_drewN _ _ _) (congrArg (World.drewN _) (Nat.add_assoc _ _ _))⟩); have p105 : 0 ≤ ((ji10) : Int) := of_decide_eq_true q1; have q105 : (ji10) < (l0.length : Int) := of_decide_eq_true q1; obtain ⟨ad105, e105, hx105_0, hx105_1⟩ := at_T164 HR0.out (ji10) p105 q105; obtain rfl : ad101 = ad105 := (by injection e105); have hn105_0 : ad101.block ≠ gb102 := Nat.ne_of_lt (Nat.lt_of_lt_of_le q8 GW102.out); have hn105_1 : ad101.block ≠ gb102 := Nat.ne_of_lt (Nat.lt_of_lt_of_le q8 GW102.out); replace hx105_0 := (HB.out.cell (World.block_lt_of_cell? w _ hx105_0)).trans hx105_0; replace hx105_1 := (HB.out.cell (World.block_lt_of_cell? w _ hx105_1)).trans hx105_1; replace hx105_0 := (cell_far (p := ⟨gb102, 0, none⟩) q7 (.int .i64 ((rd_T164 l0 x7_1).f0))).trans hx105_0; replace hx105_1 := (cell_far (p := ⟨gb102, 0, none⟩) q7 (.int .i64 ((rd_T164 l0 x7_1).f0))).trans hx105_1; replace hx105_0 := (cell_far (p := ⟨gb102, 1, none⟩) q6 (.int .i64 ((rd_T164 l0 x7_1).f1))).trans hx105_0; replace hx105_1 := (cell_far (p := ⟨gb102, 1, none⟩) q6 (.int .i64 ((rd_T164 l0 x7_1).f1))).trans hx105_1; (try have hy105_0 := fun (n_ : Nat) => (show ((((w16.drewN n_).setCell ⟨gb102, 0, none⟩ (.int .i64 ((rd_T164 l0 x7_1).f0))).setCell ⟨gb102, 1, none⟩ (.int .i64 ((rd_T164 l0 x7_1).f1)))).cell? _ = some _ from hx105_0)); (try have hy105_1 := fun (n_ : Nat) => (show ((((w16.drewN n_).setCell ⟨gb102, 0, none⟩ (.int .i64 ((rd_T164 l0 x7_1).f0))).setCell ⟨gb102, 1, none⟩ (.int .i64 ((rd_T164 l0 x7_1).f1)))).cell? _ = some _ from hx105_1)); clear hn105_0; clear hn105_1; replace p105 := eq_true p105; replace q105 := eq_true q105)))
                        go_roundg k1
                        case measure => have := HK1.out; omega
                        case rel => exact ⟨(wrap64 (x7_1 + 1)), q3, H', ⟨by have := HK1.out; omega⟩, ⟨by repeat (first | (with_reducible first | exact HB.out | apply below_alloc | apply pw_below_drewN | apply below_drew1 | refine below_set ?_ GE102.out) | exact HB.out)⟩⟩
                    · rw [if_neg c12] at H
                      exact absurd H (by simp)
                  · rw [if_neg c11] at H
                    exact absurd H (by simp)
                · rw [if_neg c9] at H
                  have c9b0 : decide (0 < x7_1) = false := decide_eq_false c9
                  clear c9
                  have H' := Aside0.mk H
                  clear H
                  have p101 : 0 ≤ (x7_1 : Int) := of_decide_eq_true q1
                  have q101 : x7_1 < (l0.length : Int) := of_decide_eq_true q1
                  obtain ⟨ad101, e101, hx101_0, hx101_1⟩ := at_T164 HR0.out x7_1 p101 q101
                  cases e101
                  replace hx101_0 := (HB.out.cell (World.block_lt_of_cell? w _ hx101_0)).trans hx101_0
                  replace hx101_1 := (HB.out.cell (World.block_lt_of_cell? w _ hx101_1)).trans hx101_1
                  replace p101 := eq_true p101
                  replace q101 := eq_true q101
                  go_wp2_with (first | ((with_reducible refine gate_dst (N := 4) rfl ?_); refine box_event ?hg (N := 4) ?hd (cs := #[.int .i64 0, .int .i64 0]) (t := 164) ?hr ?_; (case hd => rfl); (case hg => rfl); (case hr => first | (go_simp; done) | (go_simp; rfl)); intro gb102 hg w18 hbox hb; have n0_ := Aside0.mk (below_step bq hb); have n1_ := Aside0.mk (hbox); have n2_ := Aside0.mk ((gbq : w.heap.size ≤ gb102)); have n3_ := Aside0.mk ((gbq : w.heap.size ≤ gb102)); clear HB; have HB := n0_; have BK102 := n1_; have GW102 := n2_; have GE102 := n3_; clear n0_ n1_ n2_ n3_; clear hb hbox hg; have hcz19_0 : w18.cell? ⟨gb102, 0, none⟩ = some (.int .i64 0) := (blk_cell BK102.out 0).trans rfl; have hcz19_1 : w18.cell? ⟨gb102, 1, none⟩ = some (.int .i64 0) := (blk_cell BK102.out 1).trans rfl; have hfz19_0 := blk_frozen BK102.out 0; have hfz19_1 := blk_frozen BK102.out 1) | (go_at_call 105; (with_reducible refine (impl_in.calls ((rd_T164 l0 x7_1).f0) 0 119 true _ A5.out).mono ?_); rintro e w' ⟨rfl, ⟨nd, rfl⟩⟩; (try first | exact ⟨rfl, _, World.drewN_drewN _ _ _⟩ | exact ⟨rfl, _, Eq.trans (World.drewN_drewN _ _ _) (congrArg (World.drewN _) (Nat.add_assoc _ _ _))⟩)) | (go_at_call 105; (with_reducible refine (impl_in.calls ((rd_T164 l0 x7_1).f1) 1 20 true _ A7.out).mono ?_); rintro e w' ⟨rfl, ⟨nd, rfl⟩⟩; (try first | exact ⟨rfl, _, World.drewN_drewN _ _ _⟩ | exact ⟨rfl, _, Eq.trans (World.drewN_drewN _ _ _) (congrArg (World.drewN _) (Nat.add_assoc _ _ _))⟩)))
                  repeat (go_quiet (first | ((with_reducible refine gate_dst (N := 4) rfl ?_); refine box_event ?hg (N := 4) ?hd (cs := #[.int .i64 0, .int .i64 0]) (t := 164) ?hr ?_; (case hd => rfl); (case hg => rfl); (case hr => first | (go_simp; done) | (go_simp; rfl)); intro gb102 hg w18 hbox hb; have n0_ := Aside0.mk (below_step bq hb); have n1_ := Aside0.mk (hbox); have n2_ := Aside0.mk ((gbq : w.heap.size ≤ gb102)); have n3_ := Aside0.mk ((gbq : w.heap.size ≤ gb102)); clear HB; have HB := n0_; have BK102 := n1_; have GW102 := n2_; have GE102 := n3_; clear n0_ n1_ n2_ n3_; clear hb hbox hg; have hcz19_0 : w18.cell? ⟨gb102, 0, none⟩ = some (.int .i64 0) := (blk_cell BK102.out 0).trans rfl; have hcz19_1 : w18.cell? ⟨gb102, 1, none⟩ = some (.int .i64 0) := (blk_cell BK102.out 1).trans rfl; have hfz19_0 := blk_frozen BK102.out 0; have hfz19_1 := blk_frozen BK102.out 1) | (go_at_call 105; (with_reducible refine (impl_in.calls ((rd_T164 l0 x7_1).f0) 0 119 true _ A5.out).mono ?_); rintro e w' ⟨rfl, ⟨nd, rfl⟩⟩; (try first | exact ⟨rfl, _, World.drewN_drewN _ _ _⟩ | exact ⟨rfl, _, Eq.trans (World.drewN_drewN _ _ _) (congrArg (World.drewN _) (Nat.add_assoc _ _ _))⟩)) | (go_at_call 105; (with_reducible refine (impl_in.calls ((rd_T164 l0 x7_1).f1) 1 20 true _ A7.out).mono ?_); rintro e w' ⟨rfl, ⟨nd, rfl⟩⟩; (try first | exact ⟨rfl, _, World.drewN_drewN _ _ _⟩ | exact ⟨rfl, _, Eq.trans (World.drewN_drewN _ _ _) (congrArg (World.drewN _) (Nat.add_assoc _ _ _))⟩))); try go_wp2_with (first | ((with_reducible refine gate_dst (N := 4) rfl ?_); refine box_event ?hg (N := 4) ?hd (cs := #[.int .i64 0, .int .i64 0]) (t := 164) ?hr ?_; (case hd => rfl); (case hg => rfl); (case hr => first | (go_simp; done) | (go_simp; rfl)); intro gb102 hg w18 hbox hb; have n0_ := Aside0.mk (below_step bq hb); have n1_ := Aside0.mk (hbox); have n2_ := Aside0.mk ((gbq : w.heap.size ≤ gb102)); have n3_ := Aside0.mk ((gbq : w.heap.size ≤ gb102)); clear HB; have HB := n0_; have BK102 := n1_; have GW102 := n2_; have GE102 := n3_; clear n0_ n1_ n2_ n3_; clear hb hbox hg; have hcz19_0 : w18.cell? ⟨gb102, 0, none⟩ = some (.int .i64 0) := (blk_cell BK102.out 0).trans rfl; have hcz19_1 : w18.cell? ⟨gb102, 1, none⟩ = some (.int .i64 0) := (blk_cell BK102.out 1).trans rfl; have hfz19_0 := blk_frozen BK102.out 0; have hfz19_1 := blk_frozen BK102.out 1) | (go_at_call 105; (with_reducible refine (impl_in.calls ((rd_T164 l0 x7_1).f0) 0 119 true _ A5.out).mono ?_); rintro e w' ⟨rfl, ⟨nd, rfl⟩⟩; (try first | exact ⟨rfl, _, World.drewN_drewN _ _ _⟩ | exact ⟨rfl, _, Eq.trans (World.drewN_drewN _ _ _) (congrArg (World.drewN _) (Nat.add_assoc _ _ _))⟩)) | (go_at_call 105; (with_reducible refine (impl_in.calls ((rd_T164 l0 x7_1).f1) 1 20 true _ A7.out).mono ?_); rintro e w' ⟨rfl, ⟨nd, rfl⟩⟩; (try first | exact ⟨rfl, _, World.drewN_drewN _ _ _⟩ | exact ⟨rfl, _, Eq.trans (World.drewN_drewN _ _ _) (congrArg (World.drewN _) (Nat.add_assoc _ _ _))⟩))))
                  go_roundg k1
                  case measure => have := HK1.out; omega
                  case rel => exact ⟨(wrap64 (x7_1 + 1)), q3, H', ⟨by have := HK1.out; omega⟩, ⟨by repeat (first | (with_reducible first | exact HB.out | apply below_alloc | apply pw_below_drewN | apply below_drew1 | refine below_set ?_ GE102.out) | exact HB.out)⟩⟩
              · replace c8 := Bool.eq_false_iff.mpr c8
                subst c8
                have H1 : (some false) = some r := by rw [if_neg (show ¬ (false = true) by decide)] at H; exact H
                clear H
                have H := H1
                clear H1
                obtain rfl := Option.some.inj H
                have p101 : 0 ≤ (x7_1 : Int) := of_decide_eq_true q1
                have q101 : x7_1 < (l0.length : Int) := of_decide_eq_true q1
                obtain ⟨ad101, e101, hx101_0, hx101_1⟩ := at_T164 HR0.out x7_1 p101 q101
                cases e101
                replace hx101_0 := (HB.out.cell (World.block_lt_of_cell? w _ hx101_0)).trans hx101_0
                replace hx101_1 := (HB.out.cell (World.block_lt_of_cell? w _ hx101_1)).trans hx101_1
                replace p101 := eq_true p101
                replace q101 := eq_true q101
                go_wp2_with (first | ((with_reducible refine gate_dst (N := 4) rfl ?_); refine box_event ?hg (N := 4) ?hd (cs := #[.int .i64 0, .int .i64 0]) (t := 164) ?hr ?_; (case hd => rfl); (case hg => rfl); (case hr => first | (go_simp; done) | (go_simp; rfl)); intro gb102 hg w20 hbox hb; have n0_ := Aside0.mk (below_step bq hb); have n1_ := Aside0.mk (hbox); have n2_ := Aside0.mk ((gbq : w.heap.size ≤ gb102)); have n3_ := Aside0.mk ((gbq : w.heap.size ≤ gb102)); clear HB; have HB := n0_; have BK102 := n1_; have GW102 := n2_; have GE102 := n3_; clear n0_ n1_ n2_ n3_; clear hb hbox hg; have hcz21_0 : w20.cell? ⟨gb102, 0, none⟩ = some (.int .i64 0) := (blk_cell BK102.out 0).trans rfl; have hcz21_1 : w20.cell? ⟨gb102, 1, none⟩ = some (.int .i64 0) := (blk_cell BK102.out 1).trans rfl; have hfz21_0 := blk_frozen BK102.out 0; have hfz21_1 := blk_frozen BK102.out 1) | (go_at_call 105; (with_reducible refine (impl_in.calls ((rd_T164 l0 x7_1).f0) 0 119 true _ A5.out).mono ?_); rintro e w' ⟨rfl, ⟨nd, rfl⟩⟩; (try first | exact ⟨rfl, _, World.drewN_drewN _ _ _⟩ | exact ⟨rfl, _, Eq.trans (World.drewN_drewN _ _ _) (congrArg (World.drewN _) (Nat.add_assoc _ _ _))⟩)) | (go_at_call 105; (with_reducible refine (impl_in.calls ((rd_T164 l0 x7_1).f1) 1 20 false _ A7.out).mono ?_); rintro e w' ⟨rfl, ⟨nd, rfl⟩⟩; (try first | exact ⟨rfl, _, World.drewN_drewN _ _ _⟩ | exact ⟨rfl, _, Eq.trans (World.drewN_drewN _ _ _) (congrArg (World.drewN _) (Nat.add_assoc _ _ _))⟩)))
                repeat (go_quiet (first | ((with_reducible refine gate_dst (N := 4) rfl ?_); refine box_event ?hg (N := 4) ?hd (cs := #[.int .i64 0, .int .i64 0]) (t := 164) ?hr ?_; (case hd => rfl); (case hg => rfl); (case hr => first | (go_simp; done) | (go_simp; rfl)); intro gb102 hg w20 hbox hb; have n0_ := Aside0.mk (below_step bq hb); have n1_ := Aside0.mk (hbox); have n2_ := Aside0.mk ((gbq : w.heap.size ≤ gb102)); have n3_ := Aside0.mk ((gbq : w.heap.size ≤ gb102)); clear HB; have HB := n0_; have BK102 := n1_; have GW102 := n2_; have GE102 := n3_; clear n0_ n1_ n2_ n3_; clear hb hbox hg; have hcz21_0 : w20.cell? ⟨gb102, 0, none⟩ = some (.int .i64 0) := (blk_cell BK102.out 0).trans rfl; have hcz21_1 : w20.cell? ⟨gb102, 1, none⟩ = some (.int .i64 0) := (blk_cell BK102.out 1).trans rfl; have hfz21_0 := blk_frozen BK102.out 0; have hfz21_1 := blk_frozen BK102.out 1) | (go_at_call 105; (with_reducible refine (impl_in.calls ((rd_T164 l0 x7_1).f0) 0 119 true _ A5.out).mono ?_); rintro e w' ⟨rfl, ⟨nd, rfl⟩⟩; (try first | exact ⟨rfl, _, World.drewN_drewN _ _ _⟩ | exact ⟨rfl, _, Eq.trans (World.drewN_drewN _ _ _) (congrArg (World.drewN _) (Nat.add_assoc _ _ _))⟩)) | (go_at_call 105; (with_reducible refine (impl_in.calls ((rd_T164 l0 x7_1).f1) 1 20 false _ A7.out).mono ?_); rintro e w' ⟨rfl, ⟨nd, rfl⟩⟩; (try first | exact ⟨rfl, _, World.drewN_drewN _ _ _⟩ | exact ⟨rfl, _, Eq.trans (World.drewN_drewN _ _ _) (congrArg (World.drewN _) (Nat.add_assoc _ _ _))⟩))); try go_wp2_with (first | ((with_reducible refine gate_dst (N := 4) rfl ?_); refine box_event ?hg (N := 4) ?hd (cs := #[.int .i64 0, .int .i64 0]) (t := 164) ?hr ?_; (case hd => rfl); (case hg => rfl); (case hr => first | (go_simp; done) | (go_simp; rfl)); intro gb102 hg w20 hbox hb; have n0_ := Aside0.mk (below_step bq hb); have n1_ := Aside0.mk (hbox); have n2_ := Aside0.mk ((gbq : w.heap.size ≤ gb102)); have n3_ := Aside0.mk ((gbq : w.heap.size ≤ gb102)); clear HB; have HB := n0_; have BK102 := n1_; have GW102 := n2_; have GE102 := n3_; clear n0_ n1_ n2_ n3_; clear hb hbox hg; have hcz21_0 : w20.cell? ⟨gb102, 0, none⟩ = some (.int .i64 0) := (blk_cell BK102.out 0).trans rfl; have hcz21_1 : w20.cell? ⟨gb102, 1, none⟩ = some (.int .i64 0) := (blk_cell BK102.out 1).trans rfl; have hfz21_0 := blk_frozen BK102.out 0; have hfz21_1 := blk_frozen BK102.out 1) | (go_at_call 105; (with_reducible refine (impl_in.calls ((rd_T164 l0 x7_1).f0) 0 119 true _ A5.out).mono ?_); rintro e w' ⟨rfl, ⟨nd, rfl⟩⟩; (try first | exact ⟨rfl, _, World.drewN_drewN _ _ _⟩ | exact ⟨rfl, _, Eq.trans (World.drewN_drewN _ _ _) (congrArg (World.drewN _) (Nat.add_assoc _ _ _))⟩)) | (go_at_call 105; (with_reducible refine (impl_in.calls ((rd_T164 l0 x7_1).f1) 1 20 false _ A7.out).mono ?_); rintro e w' ⟨rfl, ⟨nd, rfl⟩⟩; (try first | exact ⟨rfl, _, World.drewN_drewN _ _ _⟩ | exact ⟨rfl, _, Eq.trans (World.drewN_drewN _ _ _) (congrArg (World.drewN _) (Nat.add_assoc _ _ _))⟩))))
                go_ret
                exact ⟨by first | rfl | (simp [errW_none, errW_some] <;> rfl) | (simp [*, errW_none, errW_some] <;> rfl), by repeat (first | (with_reducible first | exact HB.out | apply below_alloc | apply pw_below_drewN | apply below_drew1 | refine below_set ?_ GE102.out) | exact HB.out)⟩
            · replace c6 := Bool.eq_false_iff.mpr c6
              subst c6
              have H1 : (some false) = some r := by rw [if_neg (show ¬ (false = true) by decide)] at H; exact H
              clear H
              have H := H1
              clear H1
              obtain rfl := Option.some.inj H
              have p101 : 0 ≤ (x7_1 : Int) := of_decide_eq_true q1
              have q101 : x7_1 < (l0.length : Int) := of_decide_eq_true q1
              obtain ⟨ad101, e101, hx101_0, hx101_1⟩ := at_T164 HR0.out x7_1 p101 q101
              cases e101
              replace hx101_0 := (HB.out.cell (World.block_lt_of_cell? w _ hx101_0)).trans hx101_0
              replace hx101_1 := (HB.out.cell (World.block_lt_of_cell? w _ hx101_1)).trans hx101_1
              replace p101 := eq_true p101
              replace q101 := eq_true q101
              go_wp2_with (first | ((with_reducible refine gate_dst (N := 4) rfl ?_); refine box_event ?hg (N := 4) ?hd (cs := #[.int .i64 0, .int .i64 0]) (t := 164) ?hr ?_; (case hd => rfl); (case hg => rfl); (case hr => first | (go_simp; done) | (go_simp; rfl)); intro gb102 hg w22 hbox hb; have n0_ := Aside0.mk (below_step bq hb); have n1_ := Aside0.mk (hbox); have n2_ := Aside0.mk ((gbq : w.heap.size ≤ gb102)); have n3_ := Aside0.mk ((gbq : w.heap.size ≤ gb102)); clear HB; have HB := n0_; have BK102 := n1_; have GW102 := n2_; have GE102 := n3_; clear n0_ n1_ n2_ n3_; clear hb hbox hg; have hcz23_0 : w22.cell? ⟨gb102, 0, none⟩ = some (.int .i64 0) := (blk_cell BK102.out 0).trans rfl; have hcz23_1 : w22.cell? ⟨gb102, 1, none⟩ = some (.int .i64 0) := (blk_cell BK102.out 1).trans rfl; have hfz23_0 := blk_frozen BK102.out 0; have hfz23_1 := blk_frozen BK102.out 1) | (go_at_call 105; (with_reducible refine (impl_in.calls ((rd_T164 l0 x7_1).f0) 0 119 false _ A5.out).mono ?_); rintro e w' ⟨rfl, ⟨nd, rfl⟩⟩; (try first | exact ⟨rfl, _, World.drewN_drewN _ _ _⟩ | exact ⟨rfl, _, Eq.trans (World.drewN_drewN _ _ _) (congrArg (World.drewN _) (Nat.add_assoc _ _ _))⟩)))
              repeat (go_quiet (first | ((with_reducible refine gate_dst (N := 4) rfl ?_); refine box_event ?hg (N := 4) ?hd (cs := #[.int .i64 0, .int .i64 0]) (t := 164) ?hr ?_; (case hd => rfl); (case hg => rfl); (case hr => first | (go_simp; done) | (go_simp; rfl)); intro gb102 hg w22 hbox hb; have n0_ := Aside0.mk (below_step bq hb); have n1_ := Aside0.mk (hbox); have n2_ := Aside0.mk ((gbq : w.heap.size ≤ gb102)); have n3_ := Aside0.mk ((gbq : w.heap.size ≤ gb102)); clear HB; have HB := n0_; have BK102 := n1_; have GW102 := n2_; have GE102 := n3_; clear n0_ n1_ n2_ n3_; clear hb hbox hg; have hcz23_0 : w22.cell? ⟨gb102, 0, none⟩ = some (.int .i64 0) := (blk_cell BK102.out 0).trans rfl; have hcz23_1 : w22.cell? ⟨gb102, 1, none⟩ = some (.int .i64 0) := (blk_cell BK102.out 1).trans rfl; have hfz23_0 := blk_frozen BK102.out 0; have hfz23_1 := blk_frozen BK102.out 1) | (go_at_call 105; (with_reducible refine (impl_in.calls ((rd_T164 l0 x7_1).f0) 0 119 false _ A5.out).mono ?_); rintro e w' ⟨rfl, ⟨nd, rfl⟩⟩; (try first | exact ⟨rfl, _, World.drewN_drewN _ _ _⟩ | exact ⟨rfl, _, Eq.trans (World.drewN_drewN _ _ _) (congrArg (World.drewN _) (Nat.add_assoc _ _ _))⟩))); try go_wp2_with (first | ((with_reducible refine gate_dst (N := 4) rfl ?_); refine box_event ?hg (N := 4) ?hd (cs := #[.int .i64 0, .int .i64 0]) (t := 164) ?hr ?_; (case hd => rfl); (case hg => rfl); (case hr => first | (go_simp; done) | (go_simp; rfl)); intro gb102 hg w22 hbox hb; have n0_ := Aside0.mk (below_step bq hb); have n1_ := Aside0.mk (hbox); have n2_ := Aside0.mk ((gbq : w.heap.size ≤ gb102)); have n3_ := Aside0.mk ((gbq : w.heap.size ≤ gb102)); clear HB; have HB := n0_; have BK102 := n1_; have GW102 := n2_; have GE102 := n3_; clear n0_ n1_ n2_ n3_; clear hb hbox hg; have hcz23_0 : w22.cell? ⟨gb102, 0, none⟩ = some (.int .i64 0) := (blk_cell BK102.out 0).trans rfl; have hcz23_1 : w22.cell? ⟨gb102, 1, none⟩ = some (.int .i64 0) := (blk_cell BK102.out 1).trans rfl; have hfz23_0 := blk_frozen BK102.out 0; have hfz23_1 := blk_frozen BK102.out 1) | (go_at_call 105; (with_reducible refine (impl_in.calls ((rd_T164 l0 x7_1).f0) 0 119 false _ A5.out).mono ?_); rintro e w' ⟨rfl, ⟨nd, rfl⟩⟩; (try first | exact ⟨rfl, _, World.drewN_drewN _ _ _⟩ | exact ⟨rfl, _, Eq.trans (World.drewN_drewN _ _ _) (congrArg (World.drewN _) (Nat.add_assoc _ _ _))⟩))))
              go_ret
              exact ⟨by first | rfl | (simp [errW_none, errW_some] <;> rfl) | (simp [*, errW_none, errW_some] <;> rfl), by repeat (first | (with_reducible first | exact HB.out | apply below_alloc | apply pw_below_drewN | apply below_drew1 | refine below_set ?_ GE102.out) | exact HB.out)⟩
          · rw [if_neg c4] at H
            exact absurd H (by simp)
        · rw [if_neg c3] at H
          exact absurd H (by simp)
      · rw [if_neg c2] at H
        have c2b0 : decide (x7_1 < (l0.length : Int)) = false := decide_eq_false c2
        clear c2
        obtain rfl := Option.some.inj H
        go_wp2
        repeat (go_quiet (fail); try go_wp2)
        go_ret
        exact ⟨by first | rfl | (simp [errW_none, errW_some] <;> rfl) | (simp [*, errW_none, errW_some] <;> rfl), by repeat (first | (with_reducible first | exact HB.out | apply below_alloc | apply pw_below_drewN | apply below_drew1) | exact HB.out)⟩



/-! ### impl_ServersValid_1: function 145 -/
def impl_ServersValid_1.f (a0_0 : Int) (a0_1 : Int) : Option (Bool) := (impl_in.f a0_0 1 a0_1).bind fun t102 => (if t102 = true then (some (decide (a0_1 > 12))) else (some true))
set_option maxHeartbeats 8000000 in
set_option maxRecDepth 100000 in
theorem impl_ServersValid_1.calls (a0_0 : Int) (a0_1 : Int) (r : Bool) (w : World) (h : impl_ServersValid_1.f a0_0 a0_1 = some r) :
    Calls Try.prog 145 #[.agg #[.int .i64 a0_0, .int .i64 a0_1]] w fun e w' => e = .returned (.bool r) ∧ Below w.heap.size w w' := by
  have hu109 := Try.underlying109
  have HB := Aside0.mk (Below.refl w.heap.size w)
  have H : ((impl_in.f a0_0 1 a0_1).bind fun t102 => (if t102 = true then (some (decide (a0_1 > 12))) else (some true))) = some r := h
  clear h
  replace H := Option.bind_eq_some_iff.mp H
  obtain ⟨t102, A20, H⟩ := H
  replace H : (if t102 = true then (some (decide (a0_1 > 12))) else (some true)) = some r := H
  have A2 := Aside0.mk A20
  clear A20
  by_cases c3 : t102 = true
  · subst c3
    have H1 : (some (decide (a0_1 > 12))) = some r := by rw [if_pos rfl] at H; exact H
    clear H
    have H := H1
    clear H1
    obtain rfl := Option.some.inj H
    go_enter Try.func145, Try.ntmps145
    go_wp2_with (first | ((with_reducible refine gate_dst (N := 1) rfl ?_); refine box_event ?hg (N := 1) ?hd (cs := #[.int .i64 a0_0, .int .i64 a0_1]) (t := 109) ?hr ?_; (case hd => rfl); (case hg => rfl); (case hr => first | (go_simp; done) | (go_simp; rfl)); intro gb101 hg w4 hbox hb; have n0_ := Aside0.mk (below_step bq hb); have n1_ := Aside0.mk (hbox); have n2_ := Aside0.mk ((gbq : w.heap.size ≤ gb101)); have n3_ := Aside0.mk ((gbq : w.heap.size ≤ gb101)); clear HB; have HB := n0_; have BK101 := n1_; have GW101 := n2_; have GE101 := n3_; clear n0_ n1_ n2_ n3_; clear hb hbox hg; have hcz5_0 : w4.cell? ⟨gb101, 0, none⟩ = some (.int .i64 a0_0) := (blk_cell BK101.out 0).trans rfl; have hcz5_1 : w4.cell? ⟨gb101, 1, none⟩ = some (.int .i64 a0_1) := (blk_cell BK101.out 1).trans rfl; have hfz5_0 := blk_frozen BK101.out 0; have hfz5_1 := blk_frozen BK101.out 1) | ((with_reducible refine gate_callee (f := 105) rfl ?_); refine goesL_ (some 7) rfl rfl Try.func105 (by kernel_rfl) rfl #[.int .i64 a0_0, .int .i64 1, .int .i64 a0_1] rfl q4 ?_; (with_reducible refine (impl_in.calls a0_0 1 a0_1 true _ A2.out).mono ?_); rintro e w' ⟨rfl, ⟨nd, rfl⟩⟩; refine ⟨_, rfl, ?_⟩))
    go_ret
    exact ⟨by first | rfl | (simp [errW_none, errW_some] <;> rfl) | (simp [*, errW_none, errW_some] <;> rfl), by repeat (first | (with_reducible first | exact HB.out | apply below_alloc | apply pw_below_drewN | apply below_drew1 | refine below_set ?_ GE101.out) | exact HB.out)⟩
  · replace c3 := Bool.eq_false_iff.mpr c3
    subst c3
    have H1 : (some true) = some r := by rw [if_neg (show ¬ (false = true) by decide)] at H; exact H
    clear H
    have H := H1
    clear H1
    obtain rfl := Option.some.inj H
    go_enter Try.func145, Try.ntmps145
    go_wp2_with (first | ((with_reducible refine gate_dst (N := 1) rfl ?_); refine box_event ?hg (N := 1) ?hd (cs := #[.int .i64 a0_0, .int .i64 a0_1]) (t := 109) ?hr ?_; (case hd => rfl); (case hg => rfl); (case hr => first | (go_simp; done) | (go_simp; rfl)); intro gb101 hg w6 hbox hb; have n0_ := Aside0.mk (below_step bq hb); have n1_ := Aside0.mk (hbox); have n2_ := Aside0.mk ((gbq : w.heap.size ≤ gb101)); have n3_ := Aside0.mk ((gbq : w.heap.size ≤ gb101)); clear HB; have HB := n0_; have BK101 := n1_; have GW101 := n2_; have GE101 := n3_; clear n0_ n1_ n2_ n3_; clear hb hbox hg; have hcz7_0 : w6.cell? ⟨gb101, 0, none⟩ = some (.int .i64 a0_0) := (blk_cell BK101.out 0).trans rfl; have hcz7_1 : w6.cell? ⟨gb101, 1, none⟩ = some (.int .i64 a0_1) := (blk_cell BK101.out 1).trans rfl; have hfz7_0 := blk_frozen BK101.out 0; have hfz7_1 := blk_frozen BK101.out 1) | ((with_reducible refine gate_callee (f := 105) rfl ?_); refine goesL_ (some 7) rfl rfl Try.func105 (by kernel_rfl) rfl #[.int .i64 a0_0, .int .i64 1, .int .i64 a0_1] rfl q4 ?_; (with_reducible refine (impl_in.calls a0_0 1 a0_1 false _ A2.out).mono ?_); rintro e w' ⟨rfl, ⟨nd, rfl⟩⟩; refine ⟨_, rfl, ?_⟩))
    go_ret
    exact ⟨by first | rfl | (simp [errW_none, errW_some] <;> rfl) | (simp [*, errW_none, errW_some] <;> rfl), by repeat (first | (with_reducible first | exact HB.out | apply below_alloc | apply pw_below_drewN | apply below_drew1 | refine below_set ?_ GE101.out) | exact HB.out)⟩



/-! ### impl_ServersValid: function 75 (given) -/
open Go.Proofs.Ytonifhkplniblaa.Walk
def okServer (x : S109) : Bool := decide (1 ≤ x.f0 ∧ x.f0 ≤ x.f1 ∧ x.f1 ≤ 12)

set_option maxHeartbeats 1000000 in
set_option maxRecDepth 100000 in
theorem IndexFunc_Server (p : S109 → Bool) (f : FuncId) (cap : Array Value) (w : World) (hcl : ∀ (x : S109) (W : World), Below w.heap.size w W → Calls Try.prog f (#[.agg #[.int .i64 x.f0, .int .i64 x.f1]] ++ cap) W fun e w' => e = .returned (.bool (p x)) ∧ Below W.heap.size W w')
    {fn : Func} (hf : Try.prog.funcs[f]? = some fn) (hname : (fn.name == "runtime.NumGoroutine") = false) (hb : fn.body.isSome = true)
    (A0 : Option Addr) (c0 : Nat) (l0 : List (S109)) (hr0 : Kd.C k109 w A0 l0.length l0) (hc0 : l0.length ≤ c0) :
    Calls Try.prog 167 #[.slice A0 l0.length c0, .func (.func f) #[] cap] w fun e w' => e = .returned (.int .i64 (idxOf p l0)) ∧ Below w.heap.size w w' := by
  have hu := Try.underlying109
  have HR := Aside0.mk hr0
  have HC := Aside0.mk hc0
  have HCL := Aside0.mk hcl
  have HF := Aside0.mk hf
  have HB := Aside0.mk (Below.refl w.heap.size w)
  have hmx : l0.length ≤ 9223372036854775807 := hr0.2.1
  clear hr0 hc0 hcl hf
  go_enter Try.func167, Try.ntmps167
  go_wp2
  go_loopw [8] (fun v8 w' => ∃ j : Nat, v8 = .int .i64 j ∧ Aside0 (j ≤ l0.length ∧ ∀ i, i < j → p (l0.getD i z109) = false) ∧ Aside0 (Below w.heap.size w w')) (fun v8 _ => l0.length - (intOf v8).toNat)
  case atStart => exact ⟨0, rfl, ⟨by omega, fun i hi => absurd hi (by omega)⟩, HB⟩
  case round =>
    clear HB
    obtain ⟨j, rfl, ⟨HJ⟩, HB⟩ := hrel
    by_cases hlt : j < l0.length
    · have b1 : decide ((j : Int) < (l0.length : Int)) = true := decide_eq_true (by omega)
      obtain ⟨ad, e1, hx0, hx1⟩ := at_T109 HR.out (j : Int) (by omega) (by omega)
      cases e1
      replace hx0 := (HB.out.cell (World.block_lt_of_cell? w _ hx0)).trans hx0
      replace hx1 := (HB.out.cell (World.block_lt_of_cell? w _ hx1)).trans hx1
      simp only [Int.toNat_natCast] at hx0 hx1
      have hrd : rd_T109 l0 (j : Int) = l0.getD j z109 := rfl
      rw [hrd] at hx0 hx1
      clear hrd
      obtain ⟨x, hx⟩ : ∃ x, x = l0.getD j z109 := ⟨_, rfl⟩
      rw [← hx] at hx0 hx1
      have q0 : 0 ≤ (j : Int) := by omega
      have q1 : (j : Int) < (l0.length : Int) := by omega
      have HX := Aside0.mk hx
      have HJA := Aside0.mk HJ
      clear HJ hx
      obtain ⟨b, hpb⟩ : ∃ b, b = p x := ⟨_, rfl⟩
      have HP := Aside0.mk hpb
      clear hpb
      cases b with
      | true =>
        go_wp2_with (with_reducible refine gate_value (n := 11) rfl ?_; go_must (refine goesF_ (some 16) rfl rfl rfl rfl HF.out hname hb (#[.agg #[.int .i64 x.f0, .int .i64 x.f1]] ++ cap) (by simp [Act.eval]) ?_; refine (HCL.out x _ HB.out).mono ?_; rw [← HP.out]; rintro e w2 ⟨rfl, hb2⟩; refine ⟨_, rfl, ?_⟩; have n0_ := Aside0.mk (below_step HB.out hb2); clear hb2 HB; have HB := n0_; clear n0_))
        go_ret
        exact ⟨by rw [idxOf_at z109 hlt HJA.out.2 (by rw [← HX.out]; exact HP.out.symm)]; rfl, HB.out⟩
      | false =>
        go_wp2_with (with_reducible refine gate_value (n := 11) rfl ?_; go_must (refine goesF_ (some 16) rfl rfl rfl rfl HF.out hname hb (#[.agg #[.int .i64 x.f0, .int .i64 x.f1]] ++ cap) (by simp [Act.eval]) ?_; refine (HCL.out x _ HB.out).mono ?_; rw [← HP.out]; rintro e w2 ⟨rfl, hb2⟩; refine ⟨_, rfl, ?_⟩; have n0_ := Aside0.mk (below_step HB.out hb2); clear hb2 HB; have HB := n0_; clear n0_))
        go_roundw
        case rel =>
          refine ⟨j + 1, by go_num, ⟨by omega, fun i hi => ?_⟩, HB⟩
          by_cases hij : i = j
          · rw [hij, ← HX.out]; exact HP.out.symm
          · exact HJA.out.2 i (by omega)
        case measure => simp [intOf]; omega
    · have b1 : decide ((j : Int) < (l0.length : Int)) = false := decide_eq_false (by omega)
      have HJA := Aside0.mk HJ
      clear HJ
      go_wp2
      go_ret
      exact ⟨by rw [idxOf_none z109 (fun i hi => HJA.out.2 i (by omega))]; rfl, HB.out⟩

set_option maxHeartbeats 1000000 in
set_option maxRecDepth 100000 in
theorem ContainsFunc_Server (p : S109 → Bool) (f : FuncId) (cap : Array Value) (w : World) (hcl : ∀ (x : S109) (W : World), Below w.heap.size w W → Calls Try.prog f (#[.agg #[.int .i64 x.f0, .int .i64 x.f1]] ++ cap) W fun e w' => e = .returned (.bool (p x)) ∧ Below W.heap.size W w')
    {fn : Func} (hf : Try.prog.funcs[f]? = some fn) (hname : (fn.name == "runtime.NumGoroutine") = false) (hb : fn.body.isSome = true)
    (A0 : Option Addr) (c0 : Nat) (l0 : List (S109)) (hr0 : Kd.C k109 w A0 l0.length l0) (hc0 : l0.length ≤ c0) :
    Calls Try.prog 144 #[.slice A0 l0.length c0, .func (.func f) #[] cap] w fun e w' => e = .returned (.bool (l0.any p)) ∧ Below w.heap.size w w' := by
  have H := Lib.hid (IndexFunc_Server p f cap w hcl hf hname hb A0 c0 l0 hr0 hc0)
  clear hr0 hc0 hcl hf
  go_enter Try.func144, Try.ntmps144
  go_wp2_with (go_at_call 167; refine H.out.mono ?_; rintro e w2 ⟨rfl, hb2⟩)
  go_ret
  exact ⟨by rw [← idxOf_neg]; rfl, hb2⟩
def impl_ServersValid.f (l0 : List (S109)) : Option Bool := some (decide (l0.length ≤ 2) && l0.all okServer)
theorem impl_in_fS (a b c : Int) : impl_in.f a b c = some (decide (b ≤ a ∧ a ≤ c)) := by
  unfold impl_in.f
  by_cases h : a ≥ b
  · have h' : b ≤ a := h
    simp [h, h']
  · have h' : ¬ b ≤ a := h
    simp [h, h']
theorem impl_ServersValid_1_f (x : S109) : impl_ServersValid_1.f x.f0 x.f1 = some (!okServer x) := by
  unfold impl_ServersValid_1.f okServer
  simp only [impl_in_fS, Option.bind_some]
  by_cases h : 1 ≤ x.f0 ∧ x.f0 ≤ x.f1
  · rw [if_pos (by simpa using h)]
    congr 1
    rw [Bool.eq_iff_iff]
    simp only [decide_eq_true_eq, Bool.not_eq_true', decide_eq_false_iff_not]
    omega
  · rw [if_neg (by simpa using h)]
    congr 1
    rw [Bool.eq_iff_iff]
    simp only [decide_eq_true_eq, Bool.not_eq_true', decide_eq_false_iff_not, true_iff]
    omega
set_option maxHeartbeats 1000000 in
set_option maxRecDepth 100000 in
theorem impl_ServersValid.calls (A0 : Option Addr) (c0 : Nat) (l0 : List (S109)) (r : Bool) (w : World) (hr0 : Kd.C k109 w A0 l0.length l0) (hc0 : l0.length ≤ c0) (h : impl_ServersValid.f l0 = some r) :
    Calls Try.prog 75 #[.slice A0 l0.length c0] w fun e w' => e = .returned (.bool r) ∧ Below w.heap.size w w' := by
  obtain rfl := Option.some.inj h
  clear h
  have hcl : ∀ (x : S109) (W : World), Calls Try.prog 145 #[.agg #[.int .i64 x.f0, .int .i64 x.f1]] W fun e w' => e = .returned (.bool (!okServer x)) ∧ Below W.heap.size W w' :=
    fun x W => impl_ServersValid_1.calls x.f0 x.f1 _ W (impl_ServersValid_1_f x)
  have H := Lib.hid (ContainsFunc_Server (fun x => !okServer x) 145 #[] w (fun x W _ => hcl x W) Try.func145 (by kernel_rfl) rfl A0 c0 l0 hr0 hc0)
  clear hcl hr0 hc0
  have hany : l0.any (fun x => !okServer x) = !l0.all okServer := by rw [List.all_eq_not_any_not, Bool.not_not]
  by_cases hl : l0.length ≤ 2
  · have b1 : decide ((l0.length : Int) ≤ 2) = true := decide_eq_true (by omega)
    have HA := Lib.hid hany
    clear hany
    go_enter Try.func75, Try.ntmps75
    go_wp2_with (go_at_call 144; refine H.out.mono ?_; rintro e w2 ⟨rfl, hb2⟩)
    go_ret
    exact ⟨by rw [HA.out]; simp [hl], hb2⟩
  · have b1 : decide ((l0.length : Int) ≤ 2) = false := decide_eq_false (by omega)
    clear hany
    go_enter Try.func75, Try.ntmps75
    go_wp2
    go_ret
    exact ⟨by simp [hl], Below.refl _ _⟩



/-! ### spec_JobsLegal: function 34 (given) -/
open Go.Proofs.Ytonifhkplniblaa.Walk
/-- Job j of a list. -/
def jb (l : List S67) (j : Nat) : S67 := l.getD j z67
/-- When the next job of each task may come. -/
def nextL (s : List S62) (l : List S67) : Nat → List Int
  | 0 => List.replicate s.length 0
  | i + 1 => (nextL s l i).set (jb l i).f0.toNat (wrap64 ((jb l i).f1 + (rd_T62 s (jb l i).f0).f2))
theorem nextL_len (s : List S62) (l : List S67) : ∀ i, (nextL s l i).length = s.length
  | 0 => by simp [nextL]
  | i + 1 => by simp [nextL, nextL_len s l i]
def specAt (s : List S62) (l : List S67) (i : Nat) : Bool :=
  (decide (0 ≤ (jb l i).f0 ∧ (jb l i).f0 ≤ (s.length : Int) - 1) && decide (0 ≤ (jb l i).f1 ∧ (jb l i).f1 ≤ 119)) &&
  ((!decide ((jb l i).f1 < rd (nextL s l i) (jb l i).f0) && (dlOk s (jb l i) && decide (1 ≤ (jb l i).f3 ∧ (jb l i).f3 ≤ (rd_T62 s (jb l i).f0).f0))) &&
  !(decide (0 < i) && jobBad (jb l (i - 1)) (jb l i)))
theorem inqs (a b c : Int) (r : Bool) (hr : decide (b ≤ a ∧ a ≤ c) = r) (W : World) : Calls Try.prog 96 #[.int .i64 a, .int .i64 b, .int .i64 c] W fun e w' => e = .returned (.bool r) ∧ ∃ m, w' = W.drewN m := by
  refine (spec_l1In.calls a b c r W ?_).mono ?_
  · unfold spec_l1In.f
    rw [← hr]
    by_cases h : a ≥ b
    · have h' : b ≤ a := h
      simp [h, h']
    · have h' : ¬ b ≤ a := h
      simp [h, h']
  · rintro e w' ⟨rfl, hd⟩
    exact ⟨rfl, hd.out⟩
def spec_JobsLegal.f (k : Nat) (l0 : List (S62)) (l1 : List (S67)) : Option Bool := (spec_SetValid.f k l0).bind fun b => if b = true then (if l1.length ≤ 60 then (if l0.length ≤ 1000000 then some ((List.range l1.length).all (specAt l0 l1)) else none) else some false) else some false
set_option maxHeartbeats 4000000 in
set_option maxRecDepth 100000 in
theorem spec_JobsLegal.calls (k : Nat) (A0 : Option Addr) (c0 : Nat) (l0 : List (S62)) (A1 : Option Addr) (c1 : Nat) (l1 : List (S67)) (r : Bool) (w : World) (hr0 : Kd.C k62 w A0 l0.length l0) (hc0 : l0.length ≤ c0) (hr1 : Kd.C k67 w A1 l1.length l1) (hc1 : l1.length ≤ c1) (h : spec_JobsLegal.f k l0 l1 = some r) :
    Calls Try.prog 34 #[.slice A0 l0.length c0, .slice A1 l1.length c1] w fun e w' => e = .returned (.bool r) ∧ Below w.heap.size w w' := by
  have hu := Try.underlying67
  have huT := Try.underlying62
  unfold spec_JobsLegal.f at h
  obtain ⟨b, hb⟩ : ∃ b, spec_SetValid.f k l0 = some b := by
    cases hs : spec_SetValid.f k l0 with
    | none => rw [hs] at h; cases h
    | some b => exact ⟨b, rfl⟩
  rw [hb, Option.bind_some] at h
  have HSV := Lib.hid (spec_SetValid.calls k A0 c0 l0 b w hr0 hc0 hb)
  cases b with
  | false =>
    rw [if_neg (by simp)] at h
    obtain rfl := Option.some.inj h
    clear hr0 hc0 hr1 hc1 hb h
    go_enter Try.func34, Try.ntmps34
    go_wp2_with (go_at_call 95; refine HSV.out.mono ?_; rintro e w2 ⟨rfl, hb2⟩)
    go_ret
    exact ⟨rfl, hb2⟩
  | true =>
    rw [if_pos rfl] at h
    by_cases hl : l1.length ≤ 60
    · rw [if_pos hl] at h
      by_cases hs1 : l0.length ≤ 1000000
      · rw [if_pos hs1] at h
        obtain rfl := Option.some.inj h
        have b60 : decide ((l1.length : Int) > 60) = false := decide_eq_false (by omega)
        have HR0 := Aside0.mk hr0
        have HR1 := Aside0.mk hr1
        have HB := Aside0.mk (Below.refl w.heap.size w)
        have n0 : (0 : Int) ≤ (l0.length : Int) := by omega
        clear hr0 hc0 hr1 hc1 hb h
        go_enter Try.func34, Try.ntmps34
        go_wp2_with (first | (go_at_call 95; refine HSV.out.mono ?_; rintro e w2 ⟨rfl, hb2⟩; have n0_ := Aside0.mk hb2; clear HB hb2; have HB := n0_; clear n0_) | ((with_reducible refine gate_dst (N := 19) rfl ?_); refine Kd.R_make (Kd.int .i64) w.heap.size 3 rfl (N := 19) rfl 30 _ _ rfl (l0.length : Int) rfl rfl Try.underlying30 (.int .i64 0) 8 info3 rfl (by decide) (by omega) 0 (ok := fun _ => True) (okp := fun _ => True) rfl (fun _ hk => hk) trivial n0 (by simp only [Int.toNat_natCast]; omega) HB.out HB.out.size ?_; intro v103 w11 ho12 hb hg_ hnew_; clear hg_ hnew_; simp only [Int.toNat_natCast] at ho12; have n0_ := Aside0.mk ho12; have n1_ := Aside0.mk hb; clear HB; have HN := n0_; have HB := n1_; clear n0_ n1_; clear hb ho12; obtain ⟨An, cn, en⟩ := Kd.R_slice HN.out; rw [show (List.replicate l0.length (0 : Int)).length = l0.length from List.length_replicate] at en; subst en))
        have HN0 : Aside0 (Kd.R (Kd.int .i64) 3 w11 w.heap.size (fun _ => True) (.slice An l0.length cn) (nextL l0 l1 0)) := HN
        clear HN
        go_loopw [6] (fun v6 w' => ∃ j : Nat, v6 = .int .i64 j ∧ Aside0 (j ≤ l1.length ∧ ∀ i, i < j → specAt l0 l1 i = true) ∧ Aside0 (Kd.R (Kd.int .i64) 3 w' w.heap.size (fun _ => True) (.slice An l0.length cn) (nextL l0 l1 j)) ∧ Aside0 (Below w.heap.size w w')) (fun v6 _ => l1.length - (intOf v6).toNat)
        case atStart => exact ⟨0, rfl, ⟨Nat.zero_le _, fun i hi => absurd hi (by omega)⟩, HN0, HB⟩
        case round =>
          clear HB HN0
          obtain ⟨j, rfl, ⟨HJ⟩, HN, HB⟩ := hrel
          by_cases hlt : j < l1.length
          · have b1 : decide ((j : Int) < (l1.length : Int)) = true := decide_eq_true (by omega)
            obtain ⟨ad0, e0, hy0, hy1, hy2, hy3⟩ := at_T67 HR1.out (j : Int) (by omega) (by omega)
            cases e0
            replace hy0 := (HB.out.cell (World.block_lt_of_cell? w _ hy0)).trans hy0
            replace hy1 := (HB.out.cell (World.block_lt_of_cell? w _ hy1)).trans hy1
            replace hy2 := (HB.out.cell (World.block_lt_of_cell? w _ hy2)).trans hy2
            replace hy3 := (HB.out.cell (World.block_lt_of_cell? w _ hy3)).trans hy3
            simp only [Int.toNat_natCast] at hy0 hy1 hy2 hy3
            have hrd : rd_T67 l1 (j : Int) = jb l1 j := rfl
            rw [hrd] at hy0 hy1 hy2 hy3
            have q0 : 0 ≤ (j : Int) := by omega
            have q1 : (j : Int) < (l1.length : Int) := by omega
            have hnx : nextL l0 l1 (j + 1) = (nextL l0 l1 j).set (jb l1 j).f0.toNat (wrap64 ((jb l1 j).f1 + (rd_T62 l0 (jb l1 j).f0).f2)) := rfl
            obtain ⟨y, hy⟩ : ∃ y, y = jb l1 j := ⟨_, rfl⟩
            rw [← hy] at hy0 hy1 hy2 hy3 hnx
            have HY := Lib.hid hy
            have HLT := Lib.hid hlt
            have HJJ := Lib.hid HJ
            clear hrd hy HJ
            obtain ⟨ya, yb, yc, yd⟩ := y
            simp only at hnx
            by_cases a1 : 0 ≤ ya ∧ ya ≤ (l0.length : Int) - 1
            · have Q1 := Lib.hid (fun W => inqs ya 0 ((l0.length : Int) - 1) true (decide_eq_true a1) W)
              by_cases a2 : 0 ≤ yb ∧ yb ≤ 119
              · have Q2 := Lib.hid (fun W => inqs yb 0 119 true (decide_eq_true a2) W)
                obtain ⟨adt, et, hz0, hz1, hz2⟩ := at_T62 HR0.out ya (by omega) (by omega)
                cases et
                replace hz0 := (HB.out.cell (World.block_lt_of_cell? w _ hz0)).trans hz0
                replace hz1 := (HB.out.cell (World.block_lt_of_cell? w _ hz1)).trans hz1
                replace hz2 := (HB.out.cell (World.block_lt_of_cell? w _ hz2)).trans hz2
                obtain ⟨z, hz⟩ : ∃ z, z = rd_T62 l0 ya := ⟨_, rfl⟩
                rw [← hz] at hz0 hz1 hz2 hnx
                have HZ := Lib.hid hz
                obtain ⟨za, zb, zc⟩ := z
                simp only at hnx
                have HNX := Lib.hid hnx
                have hnl := nextL_len l0 l1 j
                obtain ⟨gn, cn', en, _⟩ := Kd.R_form HN.out (by omega)
                injection en with en1 en2 en3
                subst en1 en3
                clear en2
                have HGN := Aside0.mk (Kd.R_base HN.out gn rfl)
                have q2 : 0 ≤ ya := a1.1
                have q3 : ya < (l0.length : Int) := by omega
                have hBJ := below_alloc (Below.refl wr.heap.size wr) (.cells #[.int .i64 ya, .int .i64 yb, .int .i64 yc, .int .i64 yd] 67)
                have hzA0 := (hBJ.cell (World.block_lt_of_cell? _ _ hz0)).trans hz0
                have hzA1 := (hBJ.cell (World.block_lt_of_cell? _ _ hz1)).trans hz1
                have hzA2 := (hBJ.cell (World.block_lt_of_cell? _ _ hz2)).trans hz2
                clear hBJ
                go_wp2_with ((go_at_call 96; (first | (with_reducible refine (Q1.out _).mono ?_) | (with_reducible refine (Q2.out _).mono ?_)); rintro e w2_ ⟨rfl, m_, rfl⟩; (try rw [World.drewN_drewN])))
                generalize hw3 : World.alloc (World.drewN _ _) _ = w3
                obtain ⟨nn, hw4⟩ : ∃ nn, w3 = ((wr.alloc (.cells #[.int .i64 ya, .int .i64 yb, .int .i64 yc, .int .i64 yd] 67)).drewN nn).alloc (.cells #[.int .i64 za, .int .i64 zb, .int .i64 zc] 62) := ⟨_, hw3.symm⟩
                have BJ : w3.heap[wr.heap.size]? = some (.cells #[.int .i64 ya, .int .i64 yb, .int .i64 yc, .int .i64 yd] 67 (0, 0)) := by rw [← hw3]; exact blk_alloc (blk_drewN (blk_new wr _) _) _
                have BT : w3.heap[wr.heap.size + 1]? = some (.cells #[.int .i64 za, .int .i64 zb, .int .i64 zc] 62 (0, 0)) := by
                  rw [hw4]
                  have := blk_new ((wr.alloc (.cells #[.int .i64 ya, .int .i64 yb, .int .i64 yc, .int .i64 yd] 67)).drewN nn) (.cells #[.int .i64 za, .int .i64 zb, .int .i64 zc] 62)
                  rw [show ((wr.alloc (.cells #[.int .i64 ya, .int .i64 yb, .int .i64 yc, .int .i64 yd] 67)).drewN nn).heap.size = wr.heap.size + 1 by simp] at this
                  exact this
                have hBw : Below wr.heap.size wr w3 := by rw [← hw3]; exact below_alloc (pw_below_drewN (below_alloc (Below.refl _ _) _) _) _
                have hN2 := Kd.R_below HN.out hBw
                have hB2 := below_step HB.out hBw
                have hj0 : w3.cell? ⟨wr.heap.size, 0, none⟩ = some (.int .i64 ya) := (blk_cell BJ 0).trans rfl
                have hj1 : w3.cell? ⟨wr.heap.size, 1, none⟩ = some (.int .i64 yb) := (blk_cell BJ 1).trans rfl
                have hj2 : w3.cell? ⟨wr.heap.size, 2, none⟩ = some (.int .i64 yc) := (blk_cell BJ 2).trans rfl
                have hj3 : w3.cell? ⟨wr.heap.size, 3, none⟩ = some (.int .i64 yd) := (blk_cell BJ 3).trans rfl
                have ht0 : w3.cell? ⟨wr.heap.size + 1, 0, none⟩ = some (.int .i64 za) := (blk_cell BT 0).trans rfl
                have ht1 : w3.cell? ⟨wr.heap.size + 1, 1, none⟩ = some (.int .i64 zb) := (blk_cell BT 1).trans rfl
                have ht2 : w3.cell? ⟨wr.heap.size + 1, 2, none⟩ = some (.int .i64 zc) := (blk_cell BT 2).trans rfl
                obtain ⟨hnc, hnf⟩ := Kd.R_celln 0 hN2 ya (by omega) (by omega)
                have hrn : rdOf 0 (nextL l0 l1 j) ya = rd (nextL l0 l1 j) ya := rfl
                rw [hrn] at hnc
                obtain ⟨mv, hmv⟩ : ∃ mv, mv = rd (nextL l0 l1 j) ya := ⟨_, rfl⟩
                rw [← hmv] at hnc
                have HMV := Lib.hid hmv
                have HN2 := Aside0.mk hN2
                have n0_ := Aside0.mk hB2
                clear HB
                have HB := n0_
                have HR2 := Aside0.mk (Kd.C_below HR1.out hB2)
                clear n0_ hB2 hN2 hrn hmv hBw BJ BT hw3 hw4 HN hz0 hz1 hz2 hzA0 hzA1 hzA2 hy0 hy1 hy2 hy3 hz hnx hnl
                have hat0 : specAt l0 l1 j = (!decide (yb < mv) && (decide (yc = wrap64 (yb + zb)) && decide (1 ≤ yd ∧ yd ≤ za)) && !(decide (0 < j) && jobBad (jb l1 (j - 1)) ⟨ya, yb, yc, yd⟩)) := by
                  unfold specAt dlOk
                  rw [← HY.out]
                  simp only
                  rw [← HMV.out, ← HZ.out, decide_eq_true a1, decide_eq_true a2]
                  rfl
                clear a1 a2
                by_cases c1 : yb < mv
                · have c1b : decide (yb < mv) = true := decide_eq_true c1
                  have HO : Hid (specAt l0 l1 j = false) := Lib.hid (by rw [hat0, c1b]; rfl)
                  clear hat0 c1
                  ((go_quiet ((go_at_call 96; with_reducible exact Calls.quiet_of (Q3.out _)))))
                  go_wp2
                  ((go_ret; exact ⟨by rw [all_no HLT.out HO.out]; rfl, by ((repeat (first | (with_reducible first | exact HB.out | apply below_alloc | apply pw_below_drewN | apply below_drew1) | exact HB.out)))⟩))
                · have c1b : decide (yb < mv) = false := decide_eq_false c1
                  have hw1 : IntKind.i64.wrap (yb + zb) = wrap64 (yb + zb) := i64_w _
                  obtain ⟨dl, hdl⟩ : ∃ dl, dl = wrap64 (yb + zb) := ⟨_, rfl⟩
                  rw [← hdl] at hw1 hat0
                  by_cases c2 : yc = dl
                  · have c2b : (yc != dl) = false := by rw [bne_eq_false_iff_eq]; exact c2
                    by_cases c3 : 1 ≤ yd ∧ yd ≤ za
                    · have Q3 := Lib.hid (fun W => inqs yd 1 za true (decide_eq_true c3) W)
                      rw [c1b, decide_eq_true c2, decide_eq_true c3] at hat0
                      have hw2 : IntKind.i64.wrap (yb + zc) = wrap64 (yb + zc) := i64_w _
                      by_cases h0 : 0 < j
                      · have h0b : decide ((j : Int) > 0) = true := decide_eq_true (by omega)
                        obtain ⟨p, hp⟩ : ∃ p, p = (j : Int) - 1 := ⟨_, rfl⟩
                        obtain ⟨ad1, e1, hx0, hx1, hx2, hx3⟩ := at_T67 HR2.out p (by omega) (by omega)
                        cases e1
                        have hrd : rd_T67 l1 p = jb l1 (j - 1) := by unfold rd_T67 jb; congr 1; omega
                        rw [hrd] at hx0 hx1 hx2 hx3
                        obtain ⟨x, hx⟩ : ∃ x, x = jb l1 (j - 1) := ⟨_, rfl⟩
                        rw [← hx] at hx0 hx1 hat0
                        have hwp : IntKind.i64.wrap ((j : Int) - 1) = p := by rw [i64_w]; unfold wrap64; omega
                        have qp2 : 0 ≤ p := by omega
                        have qp3 : p < (l1.length : Int) := by omega
                        clear hp hx2 hx3 hrd hx
                        obtain ⟨xa, xb, xc, xd⟩ := x
                        simp only at hx0 hx1
                        by_cases d1 : xb > yb
                        · have d1b : decide (xb > yb) = true := decide_eq_true d1
                          have HO : Hid (specAt l0 l1 j = false) := Lib.hid (by rw [hat0]; simp [h0, jobBad, d1])
                          clear hat0 c1 c2 c3 hdl
                          ((go_quiet ((go_at_call 96; with_reducible exact Calls.quiet_of (Q3.out _)))))
                          go_wp2_with fail
                          ((go_quiet ((go_at_call 96; with_reducible exact Calls.quiet_of (Q3.out _)))))
                          go_wp2
                          ((go_ret; exact ⟨by rw [all_no HLT.out HO.out]; rfl, by ((repeat (first | (with_reducible first | exact HB.out | apply below_alloc | apply pw_below_drewN | apply below_drew1) | exact HB.out)))⟩))
                        · have d1b : decide (xb > yb) = false := decide_eq_false d1
                          by_cases d2 : xb = yb
                          · have d2b : (xb == yb) = true := by rw [beq_iff_eq]; exact d2
                            by_cases d3 : xa ≥ ya
                            · have d3b : decide (xa ≥ ya) = true := decide_eq_true d3
                              have HO : Hid (specAt l0 l1 j = false) := Lib.hid (by rw [hat0]; simp [h0, jobBad, d2, d3])
                              clear hat0 c1 c2 c3 hdl
                              ((go_quiet ((go_at_call 96; with_reducible exact Calls.quiet_of (Q3.out _)))))
                              go_wp2_with fail
                              ((go_quiet ((go_at_call 96; with_reducible exact Calls.quiet_of (Q3.out _)))))
                              go_wp2
                              ((go_ret; exact ⟨by rw [all_no HLT.out HO.out]; rfl, by ((repeat (first | (with_reducible first | exact HB.out | apply below_alloc | apply pw_below_drewN | apply below_drew1) | exact HB.out)))⟩))
                            · have d3b : decide (xa ≥ ya) = false := decide_eq_false d3
                              have HO : Hid (specAt l0 l1 j = true) := Lib.hid (by rw [hat0]; simp [h0, jobBad, d1, d2, d3])
                              clear hat0 c1 c2 c3 hdl
                              ((go_quiet ((go_at_call 96; with_reducible exact Calls.quiet_of (Q3.out _)))))
                              go_wp2_with fail
                              ((go_quiet ((go_at_call 96; with_reducible exact Calls.quiet_of (Q3.out _)))))
                              go_wp2_with fail
                              ((generalize hw9_ : World.setCell _ _ _ = w9; (have n0_ : Aside0 (Kd.R (Kd.int .i64) 3 w9 w.heap.size (fun _ => True) (.slice (some ⟨gn, 0, none⟩) l0.length cn) (nextL l0 l1 (j + 1))) := ⟨by rw [← hw9_, HNX.out]; first | exact (Kd.R_putg (Kd.R_drewN HN2.out _) _ _).1 | (rw [i64_w]; exact (Kd.R_putg (Kd.R_drewN HN2.out _) _ _).1)⟩); (have n1_ : Aside0 (Below w.heap.size w w9) := ⟨by rw [← hw9_]; exact (pw_below_drewN HB.out _).setCell HGN.out _⟩); clear hw9_ HB HN2; go_roundw; (case rel => exact ⟨j + 1, by go_num, ⟨by omega, upto_step HJJ.out.2 HO.out⟩, n0_, n1_⟩); (case measure => simp [intOf]; omega)))
                          · have d2b : (xb == yb) = false := by rw [beq_eq_false_iff_ne]; exact d2
                            have HO : Hid (specAt l0 l1 j = true) := Lib.hid (by rw [hat0]; simp [h0, jobBad, d1, d2])
                            clear hat0 c1 c2 c3 hdl
                            ((go_quiet ((go_at_call 96; with_reducible exact Calls.quiet_of (Q3.out _)))))
                            go_wp2_with fail
                            ((go_quiet ((go_at_call 96; with_reducible exact Calls.quiet_of (Q3.out _)))))
                            go_wp2_with fail
                            ((generalize hw9_ : World.setCell _ _ _ = w9; (have n0_ : Aside0 (Kd.R (Kd.int .i64) 3 w9 w.heap.size (fun _ => True) (.slice (some ⟨gn, 0, none⟩) l0.length cn) (nextL l0 l1 (j + 1))) := ⟨by rw [← hw9_, HNX.out]; first | exact (Kd.R_putg (Kd.R_drewN HN2.out _) _ _).1 | (rw [i64_w]; exact (Kd.R_putg (Kd.R_drewN HN2.out _) _ _).1)⟩); (have n1_ : Aside0 (Below w.heap.size w w9) := ⟨by rw [← hw9_]; exact (pw_below_drewN HB.out _).setCell HGN.out _⟩); clear hw9_ HB HN2; go_roundw; (case rel => exact ⟨j + 1, by go_num, ⟨by omega, upto_step HJJ.out.2 HO.out⟩, n0_, n1_⟩); (case measure => simp [intOf]; omega)))
                      · have h0b : decide ((j : Int) > 0) = false := decide_eq_false (by omega)
                        have HO : Hid (specAt l0 l1 j = true) := Lib.hid (by rw [hat0]; simp [h0])
                        clear hat0 c1 c2 c3 hdl
                        ((go_quiet ((go_at_call 96; with_reducible exact Calls.quiet_of (Q3.out _)))))
                        go_wp2_with fail
                        ((go_quiet ((go_at_call 96; with_reducible exact Calls.quiet_of (Q3.out _)))))
                        go_wp2_with fail
                        ((generalize hw9_ : World.setCell _ _ _ = w9; (have n0_ : Aside0 (Kd.R (Kd.int .i64) 3 w9 w.heap.size (fun _ => True) (.slice (some ⟨gn, 0, none⟩) l0.length cn) (nextL l0 l1 (j + 1))) := ⟨by rw [← hw9_, HNX.out]; first | exact (Kd.R_putg (Kd.R_drewN HN2.out _) _ _).1 | (rw [i64_w]; exact (Kd.R_putg (Kd.R_drewN HN2.out _) _ _).1)⟩); (have n1_ : Aside0 (Below w.heap.size w w9) := ⟨by rw [← hw9_]; exact (pw_below_drewN HB.out _).setCell HGN.out _⟩); clear hw9_ HB HN2; go_roundw; (case rel => exact ⟨j + 1, by go_num, ⟨by omega, upto_step HJJ.out.2 HO.out⟩, n0_, n1_⟩); (case measure => simp [intOf]; omega)))
                    · have Q3 := Lib.hid (fun W => inqs yd 1 za false (decide_eq_false c3) W)
                      have HO : Hid (specAt l0 l1 j = false) := Lib.hid (by rw [hat0, decide_eq_false c3]; simp)
                      clear hat0 c1 c2 c3 hdl
                      ((go_quiet ((go_at_call 96; with_reducible exact Calls.quiet_of (Q3.out _)))))
                      go_wp2
                      ((go_ret; exact ⟨by rw [all_no HLT.out HO.out]; rfl, by ((repeat (first | (with_reducible first | exact HB.out | apply below_alloc | apply pw_below_drewN | apply below_drew1) | exact HB.out)))⟩))
                  · have c2b : (yc != dl) = true := by rw [bne_iff_ne]; exact c2
                    have HO : Hid (specAt l0 l1 j = false) := Lib.hid (by rw [hat0, decide_eq_false c2]; simp)
                    clear hat0 c1 c2 hdl
                    ((go_quiet ((go_at_call 96; with_reducible exact Calls.quiet_of (Q3.out _)))))
                    go_wp2
                    ((go_ret; exact ⟨by rw [all_no HLT.out HO.out]; rfl, by ((repeat (first | (with_reducible first | exact HB.out | apply below_alloc | apply pw_below_drewN | apply below_drew1) | exact HB.out)))⟩))
              · have Q2 := Lib.hid (fun W => inqs yb 0 119 false (decide_eq_false a2) W)
                have HO : Hid (specAt l0 l1 j = false) := Lib.hid (by unfold specAt; rw [← HY.out]; simp only; rw [decide_eq_false a2]; simp)
                clear a1 a2
                go_wp2_with ((go_at_call 96; (first | (with_reducible refine (Q1.out _).mono ?_) | (with_reducible refine (Q2.out _).mono ?_)); rintro e w2_ ⟨rfl, m_, rfl⟩; (try rw [World.drewN_drewN])))
                ((go_ret; exact ⟨by rw [all_no HLT.out HO.out]; rfl, by ((repeat (first | (with_reducible first | exact HB.out | apply below_alloc | apply pw_below_drewN | apply below_drew1) | exact HB.out)))⟩))
            · have Q1 := Lib.hid (fun W => inqs ya 0 ((l0.length : Int) - 1) false (decide_eq_false a1) W)
              have HO : Hid (specAt l0 l1 j = false) := Lib.hid (by unfold specAt; rw [← HY.out]; simp only; rw [decide_eq_false a1]; simp)
              clear a1
              go_wp2_with ((go_at_call 96; (first | (with_reducible refine (Q1.out _).mono ?_) | (with_reducible refine (Q2.out _).mono ?_)); rintro e w2_ ⟨rfl, m_, rfl⟩; (try rw [World.drewN_drewN])))
              ((go_ret; exact ⟨by rw [all_no HLT.out HO.out]; rfl, by ((repeat (first | (with_reducible first | exact HB.out | apply below_alloc | apply pw_below_drewN | apply below_drew1) | exact HB.out)))⟩))
          · have b1 : decide ((j : Int) < (l1.length : Int)) = false := decide_eq_false (by omega)
            have hje : j = l1.length := by omega
            subst hje
            have HALL := Lib.hid (all_yes HJ.2)
            clear HJ
            go_wp2
            go_ret
            exact ⟨by rw [HALL.out]; rfl, HB.out⟩
      · rw [if_neg hs1] at h; cases h
    · rw [if_neg hl] at h
      obtain rfl := Option.some.inj h
      have b60 : decide ((l1.length : Int) > 60) = true := decide_eq_true (by omega)
      clear hr0 hc0 hr1 hc1 hb h
      go_enter Try.func34, Try.ntmps34
      go_wp2_with (go_at_call 95; refine HSV.out.mono ?_; rintro e w2 ⟨rfl, hb2⟩)
      go_ret
      exact ⟨rfl, hb2⟩



/-! ### spec_l3Best: function 140 -/
def spec_l3Best.l0 : Nat → List (S67) → List Int → List Int → Int → Int → Int → Option (Int)
  | 0, _, _, _, _, _, _ => none
  | k + 1, x0, x1, x2, x3, x9, x10 => if x10 < (x0.length : Int) then (if 0 ≤ x10 then (if ((rd_T67 x0 x10).f1) ≤ x3 then (if x10 < (x1.length : Int) then (if (rd x1 x10) > 0 then (if x9 < 0 then (spec_l3Best.l0 k x0 x1 x2 x3 x10 (wrap64 (x10 + 1))) else (if x10 < (x2.length : Int) then (if 0 ≤ x9 then (if x9 < (x2.length : Int) then (if (rd x2 x10) < (rd x2 x9) then (spec_l3Best.l0 k x0 x1 x2 x3 x10 (wrap64 (x10 + 1))) else (spec_l3Best.l0 k x0 x1 x2 x3 x9 (wrap64 (x10 + 1)))) else (none)) else (none)) else (none))) else (spec_l3Best.l0 k x0 x1 x2 x3 x9 (wrap64 (x10 + 1)))) else (none)) else (spec_l3Best.l0 k x0 x1 x2 x3 x9 (wrap64 (x10 + 1)))) else (none)) else (some x9)
def spec_l3Best.f (k : Nat) (l0 : List (S67)) (l1 : List Int) (l2 : List Int) (a3 : Int) : Option (Int) := spec_l3Best.l0 k l0 l1 l2 a3 (-1) 0
set_option maxHeartbeats 8000000 in
set_option maxRecDepth 100000 in
theorem spec_l3Best.calls (k : Nat) (A0 : Option Addr) (c0 : Nat) (l0 : List (S67)) (A1 : Option Addr) (c1 : Nat) (l1 : List Int) (A2 : Option Addr) (c2 : Nat) (l2 : List Int) (a3 : Int) (r : Int) (w : World) (hr0 : Kd.C k67 w A0 l0.length l0) (hc0 : l0.length ≤ c0) (hr1 : Kd.C (Kd.int .i64) w A1 l1.length l1) (hc1 : l1.length ≤ c1) (hr2 : Kd.C (Kd.int .i64) w A2 l2.length l2) (hc2 : l2.length ≤ c2) (h : spec_l3Best.f k l0 l1 l2 a3 = some r) :
    Calls Try.prog 140 #[.slice A0 l0.length c0, .slice A1 l1.length c1, .slice A2 l2.length c2, .int .i64 a3] w fun e w' => e = .returned (.int .i64 r) ∧ Drawn0 w w' := by
  have HR0 := Aside0.mk hr0
  have HC0 := Aside0.mk hc0
  clear hr0 hc0
  have HR1 := Aside0.mk hr1
  have HC1 := Aside0.mk hc1
  clear hr1 hc1
  have HR2 := Aside0.mk hr2
  have HC2 := Aside0.mk hc2
  clear hr2 hc2
  have H : (spec_l3Best.l0 k l0 l1 l2 a3 (-1) 0) = some r := h
  clear h
  have H' := Aside0.mk H
  clear H
  go_enter Try.func140, Try.ntmps140
  go_wp2
  repeat (go_quiet (fail); try go_wp2)
  go_loopg [9, 10] k (fun kq v9 v10 w' => ∃ (x9_1 : Int) (x10_1 : Int), v9 = .int .i64 x9_1 ∧ v10 = .int .i64 x10_1 ∧ Aside0 (spec_l3Best.l0 kq l0 l1 l2 a3 x9_1 x10_1 = some r) ∧ Aside0 (kq ≤ k) ∧ Drawn0 w w')
  case atStart => exact ⟨((-1)), (0), q3, q3, H', ⟨Nat.le_refl _⟩, by repeat (first | exact Drawn0.refl _ | apply Drawn0.step)⟩
  case round =>
    clear H'
    try clear c1
    try clear c2
    try clear p2
    obtain ⟨x9_1, x10_1, rfl, rfl, HA, HK1, ⟨m1, rfl⟩⟩ := hrel
    cases gk with
    | zero => exact absurd HA.out (by simp [spec_l3Best.l0])
    | succ k1 =>
      have H := HA.out
      clear HA
      simp only [spec_l3Best.l0] at H
      by_cases c5 : x10_1 < (l0.length : Int)
      · rw [if_pos c5] at H
        have c5b0 : decide (x10_1 < (l0.length : Int)) = true := decide_eq_true c5
        clear c5
        by_cases c6 : 0 ≤ x10_1
        · rw [if_pos c6] at H
          have c6b0 : decide (0 ≤ x10_1) = true := decide_eq_true c6
          clear c6
          by_cases c7 : ((rd_T67 l0 x10_1).f1) ≤ a3
          · rw [if_pos c7] at H
            have c7b0 : decide (((rd_T67 l0 x10_1).f1) ≤ a3) = true := decide_eq_true c7
            clear c7
            by_cases c8 : x10_1 < (l1.length : Int)
            · rw [if_pos c8] at H
              have c8b0 : decide (x10_1 < (l1.length : Int)) = true := decide_eq_true c8
              clear c8
              by_cases c9 : (rd l1 x10_1) > 0
              · rw [if_pos c9] at H
                have c9b0 : decide (0 < (rd l1 x10_1)) = true := decide_eq_true c9
                clear c9
                by_cases c10 : x9_1 < 0
                · rw [if_pos c10] at H
                  have c10b0 : decide (x9_1 < 0) = true := decide_eq_true c10
                  clear c10
                  have H' := Aside0.mk H
                  clear H
                  have p101 : 0 ≤ (x10_1 : Int) := of_decide_eq_true q1
                  have q101 : x10_1 < (l0.length : Int) := of_decide_eq_true q1
                  obtain ⟨ad101, e101, hx101_0, hx101_1, hx101_2, hx101_3⟩ := at_T67 HR0.out x10_1 p101 q101
                  cases e101
                  replace p101 := eq_true p101
                  replace q101 := eq_true q101
                  have p102 : 0 ≤ (x10_1 : Int) := of_decide_eq_true q1
                  have q102 : x10_1 < (l1.length : Int) := of_decide_eq_true q1
                  obtain ⟨ad102, e102, hx102_0⟩ := Kd.at_int HR1.out x10_1 p102 q102
                  cases e102
                  replace p102 := eq_true p102
                  replace q102 := eq_true q102
                  go_wp2
                  repeat (go_quiet (fail); try go_wp2)
                  go_roundg k1
                  case measure => have := HK1.out; omega
                  case rel => exact ⟨(x10_1), (wrap64 (x10_1 + 1)), q3, q3, H', ⟨by have := HK1.out; omega⟩, by repeat (first | exact Drawn0.refl _ | apply Drawn0.step)⟩
                · rw [if_neg c10] at H
                  have c10b0 : decide (x9_1 < 0) = false := decide_eq_false c10
                  clear c10
                  by_cases c11 : x10_1 < (l2.length : Int)
                  · rw [if_pos c11] at H
                    have c11b0 : decide (x10_1 < (l2.length : Int)) = true := decide_eq_true c11
                    clear c11
                    by_cases c12 : 0 ≤ x9_1
                    · rw [if_pos c12] at H
                      have c12b0 : decide (0 ≤ x9_1) = true := decide_eq_true c12
                      clear c12
                      by_cases c13 : x9_1 < (l2.length : Int)
                      · rw [if_pos c13] at H
                        have c13b0 : decide (x9_1 < (l2.length : Int)) = true := decide_eq_true c13
                        clear c13
                        by_cases c14 : (rd l2 x10_1) < (rd l2 x9_1)
                        · rw [if_pos c14] at H
                          have c14b0 : decide ((rd l2 x10_1) < (rd l2 x9_1)) = true := decide_eq_true c14
                          clear c14
                          have H' := Aside0.mk H
                          clear H
                          have p101 : 0 ≤ (x10_1 : Int) := of_decide_eq_true q1
                          have q101 : x10_1 < (l0.length : Int) := of_decide_eq_true q1
                          obtain ⟨ad101, e101, hx101_0, hx101_1, hx101_2, hx101_3⟩ := at_T67 HR0.out x10_1 p101 q101
                          cases e101
                          replace p101 := eq_true p101
                          replace q101 := eq_true q101
                          have p102 : 0 ≤ (x10_1 : Int) := of_decide_eq_true q1
                          have q102 : x10_1 < (l1.length : Int) := of_decide_eq_true q1
                          obtain ⟨ad102, e102, hx102_0⟩ := Kd.at_int HR1.out x10_1 p102 q102
                          cases e102
                          replace p102 := eq_true p102
                          replace q102 := eq_true q102
                          have p103 : 0 ≤ (x10_1 : Int) := of_decide_eq_true q1
                          have q103 : x10_1 < (l2.length : Int) := of_decide_eq_true q1
                          obtain ⟨ad103, e103, hx103_0⟩ := Kd.at_int HR2.out x10_1 p103 q103
                          cases e103
                          replace p103 := eq_true p103
                          replace q103 := eq_true q103
                          have p104 : 0 ≤ (x9_1 : Int) := of_decide_eq_true q1
                          have q104 : x9_1 < (l2.length : Int) := of_decide_eq_true q1
                          obtain ⟨ad104, e104, hx104_0⟩ := Kd.at_int HR2.out x9_1 p104 q104
                          obtain rfl : ad103 = ad104 := (by injection e104)
                          replace p104 := eq_true p104
                          replace q104 := eq_true q104
                          go_wp2
                          repeat (go_quiet (fail); try go_wp2)
                          go_roundg k1
                          case measure => have := HK1.out; omega
                          case rel => exact ⟨(x10_1), (wrap64 (x10_1 + 1)), q3, q3, H', ⟨by have := HK1.out; omega⟩, by repeat (first | exact Drawn0.refl _ | apply Drawn0.step)⟩
                        · rw [if_neg c14] at H
                          have c14b0 : decide ((rd l2 x10_1) < (rd l2 x9_1)) = false := decide_eq_false c14
                          clear c14
                          have H' := Aside0.mk H
                          clear H
                          have p101 : 0 ≤ (x10_1 : Int) := of_decide_eq_true q1
                          have q101 : x10_1 < (l0.length : Int) := of_decide_eq_true q1
                          obtain ⟨ad101, e101, hx101_0, hx101_1, hx101_2, hx101_3⟩ := at_T67 HR0.out x10_1 p101 q101
                          cases e101
                          replace p101 := eq_true p101
                          replace q101 := eq_true q101
                          have p102 : 0 ≤ (x10_1 : Int) := of_decide_eq_true q1
                          have q102 : x10_1 < (l1.length : Int) := of_decide_eq_true q1
                          obtain ⟨ad102, e102, hx102_0⟩ := Kd.at_int HR1.out x10_1 p102 q102
                          cases e102
                          replace p102 := eq_true p102
                          replace q102 := eq_true q102
                          have p103 : 0 ≤ (x10_1 : Int) := of_decide_eq_true q1
                          have q103 : x10_1 < (l2.length : Int) := of_decide_eq_true q1
                          obtain ⟨ad103, e103, hx103_0⟩ := Kd.at_int HR2.out x10_1 p103 q103
                          cases e103
                          replace p103 := eq_true p103
                          replace q103 := eq_true q103
                          have p104 : 0 ≤ (x9_1 : Int) := of_decide_eq_true q1
                          have q104 : x9_1 < (l2.length : Int) := of_decide_eq_true q1
                          obtain ⟨ad104, e104, hx104_0⟩ := Kd.at_int HR2.out x9_1 p104 q104
                          obtain rfl : ad103 = ad104 := (by injection e104)
                          replace p104 := eq_true p104
                          replace q104 := eq_true q104
                          go_wp2
                          repeat (go_quiet (fail); try go_wp2)
                          go_roundg k1
                          case measure => have := HK1.out; omega
                          case rel => exact ⟨(x9_1), (wrap64 (x10_1 + 1)), q3, q3, H', ⟨by have := HK1.out; omega⟩, by repeat (first | exact Drawn0.refl _ | apply Drawn0.step)⟩
                      · rw [if_neg c13] at H
                        exact absurd H (by simp)
                    · rw [if_neg c12] at H
                      exact absurd H (by simp)
                  · rw [if_neg c11] at H
                    exact absurd H (by simp)
              · rw [if_neg c9] at H
                have c9b0 : decide (0 < (rd l1 x10_1)) = false := decide_eq_false c9
                clear c9
                have H' := Aside0.mk H
                clear H
                have p101 : 0 ≤ (x10_1 : Int) := of_decide_eq_true q1
                have q101 : x10_1 < (l0.length : Int) := of_decide_eq_true q1
                obtain ⟨ad101, e101, hx101_0, hx101_1, hx101_2, hx101_3⟩ := at_T67 HR0.out x10_1 p101 q101
                cases e101
                replace p101 := eq_true p101
                replace q101 := eq_true q101
                have p102 : 0 ≤ (x10_1 : Int) := of_decide_eq_true q1
                have q102 : x10_1 < (l1.length : Int) := of_decide_eq_true q1
                obtain ⟨ad102, e102, hx102_0⟩ := Kd.at_int HR1.out x10_1 p102 q102
                cases e102
                replace p102 := eq_true p102
                replace q102 := eq_true q102
                go_wp2
                repeat (go_quiet (fail); try go_wp2)
                go_roundg k1
                case measure => have := HK1.out; omega
                case rel => exact ⟨(x9_1), (wrap64 (x10_1 + 1)), q3, q3, H', ⟨by have := HK1.out; omega⟩, by repeat (first | exact Drawn0.refl _ | apply Drawn0.step)⟩
            · rw [if_neg c8] at H
              exact absurd H (by simp)
          · rw [if_neg c7] at H
            have c7b0 : decide (((rd_T67 l0 x10_1).f1) ≤ a3) = false := decide_eq_false c7
            clear c7
            have H' := Aside0.mk H
            clear H
            have p101 : 0 ≤ (x10_1 : Int) := of_decide_eq_true q1
            have q101 : x10_1 < (l0.length : Int) := of_decide_eq_true q1
            obtain ⟨ad101, e101, hx101_0, hx101_1, hx101_2, hx101_3⟩ := at_T67 HR0.out x10_1 p101 q101
            cases e101
            replace p101 := eq_true p101
            replace q101 := eq_true q101
            go_wp2
            repeat (go_quiet (fail); try go_wp2)
            go_roundg k1
            case measure => have := HK1.out; omega
            case rel => exact ⟨(x9_1), (wrap64 (x10_1 + 1)), q3, q3, H', ⟨by have := HK1.out; omega⟩, by repeat (first | exact Drawn0.refl _ | apply Drawn0.step)⟩
        · rw [if_neg c6] at H
          exact absurd H (by simp)
      · rw [if_neg c5] at H
        have c5b0 : decide (x10_1 < (l0.length : Int)) = false := decide_eq_false c5
        clear c5
        obtain rfl := Option.some.inj H
        go_wp2
        repeat (go_quiet (fail); try go_wp2)
        go_ret
        exact ⟨by first | rfl | (simp; done) | (simp [*]; done) | (simp only [i64_w, i32_w]; done) | (simp [*, i64_w, i32_w]; done), by repeat (first | exact Drawn0.refl _ | apply Drawn0.step)⟩



/-! ### spec_l3Deadlines: function 121 -/
def spec_l3Deadlines.l0 : Nat → List (S67) → List Int → Int → Option (List Int)
  | 0, _, _, _ => none
  | k + 1, x0, x3, x4 => if x4 < (x0.length : Int) then (if 0 ≤ x4 then (if x3.length < 17592186044416 then (spec_l3Deadlines.l0 k x0 (x3 ++ [(rd_T67 x0 x4).f2]) (wrap64 (x4 + 1))) else (none)) else (none)) else (some x3)
def spec_l3Deadlines.f (k : Nat) (l0 : List (S67)) : Option (List Int) := spec_l3Deadlines.l0 k l0 (([] : List Int)) 0
set_option maxHeartbeats 8000000 in
set_option maxRecDepth 100000 in
theorem spec_l3Deadlines.calls (k : Nat) (A0 : Option Addr) (c0 : Nat) (l0 : List (S67)) (r : List Int) (w : World) (hr0 : Kd.C k67 w A0 l0.length l0) (hc0 : l0.length ≤ c0) (h : spec_l3Deadlines.f k l0 = some r) :
    Calls Try.prog 121 #[.slice A0 l0.length c0] w fun e w' => ∃ v0_ : Value, e = .returned (v0_) ∧ Kd.R (Kd.int .i64) 3 w' w.heap.size (fun _ => True) v0_ r ∧ Below w.heap.size w w' := by
  have HR0 := Aside0.mk hr0
  have HC0 := Aside0.mk hc0
  clear hr0 hc0
  have HB := Aside0.mk (Below.refl w.heap.size w)
  have H : (spec_l3Deadlines.l0 k l0 (([] : List Int)) 0) = some r := h
  clear h
  obtain ⟨y101, hy101⟩ : ∃ y_ : List Int, y_ = (([] : List Int)) := ⟨_, rfl⟩
  replace H : (spec_l3Deadlines.l0 k l0 y101 0) = some r := by first | (rw [hy101]; with_reducible exact H) | (have H2_ := (Option.bind_some _ _).symm.trans H; rw [hy101]; with_reducible exact H2_) | (have H2_ := (Option.bind_some _ _).symm.trans H; with_reducible exact H2_) | with_reducible exact H | (rw [hy101]; exact H) | exact H
  have Ny101 := Aside0.mk hy101
  clear hy101
  have H' := Aside0.mk H
  clear H
  go_enter Try.func121, Try.ntmps121
  go_wp2_with (first | ((with_reducible refine gate_dst (N := 5) rfl ?_); refine Kd.R_lit (Kd.int .i64) _ 3 ?hg (N := 5) ?hd (xs := ([] : List Int)) (inner := []) (ok := fun _ => True) (okp := fun _ => True) ?hr ?hp (fun _ hk => hk) trivial (Below.refl _ _) (Nat.le_refl _) (by simp) ?_; (case hd => rfl); (case hg => rfl); (case hr => first | (go_simp; done) | (go_simp; rfl)); (case hp => exact (Reps.none _ _)); intro v102 w2 ho3 hb hg_ hnew_; clear hg_ hnew_; (first | rw [← Ny101.out] at ho3 | (simp only [Int.reduceToNat] at ho3; rw [← Ny101.out] at ho3)); have n0_ := Aside0.mk (Kd.R_lower ho3 (below_size bq)); have n1_ := Aside0.mk (below_step bq hb); clear HB; have HO103 := n0_; have HB := n1_; clear n0_ n1_; clear hb ho3))
  go_loopg [3, 4] k (fun kq v3 v4 w' => ∃ (x3_1 : List Int) (x4_1 : Int), v4 = .int .i64 x4_1 ∧ Aside0 (spec_l3Deadlines.l0 kq l0 x3_1 x4_1 = some r) ∧ Aside0 (kq ≤ k) ∧ Aside0 (Kd.R (Kd.int .i64) 3 w' w.heap.size (fun _ => True) v3 x3_1) ∧ Aside0 (Below w.heap.size w w'))
  case atStart => exact ⟨(y101), (0), q3, H', ⟨Nat.le_refl _⟩, ⟨by (with_reducible repeat (first | apply Kd.R_alloc | apply Kd.R_drewN | apply Kd.R_drew)); exact HO103.out⟩, ⟨by repeat (first | (with_reducible first | exact HB.out | apply below_alloc | apply pw_below_drewN | apply below_drew1) | exact HB.out)⟩⟩
  case round =>
    clear H'
    try clear c1
    try clear p2
    obtain ⟨x3_1, x4_1, rfl, HA, HK1, HO_3, HB⟩ := hrel
    cases gk with
    | zero => exact absurd HA.out (by simp [spec_l3Deadlines.l0])
    | succ k1 =>
      have H := HA.out
      clear HA
      simp only [spec_l3Deadlines.l0] at H
      by_cases c4 : x4_1 < (l0.length : Int)
      · rw [if_pos c4] at H
        have c4b0 : decide (x4_1 < (l0.length : Int)) = true := decide_eq_true c4
        clear c4
        by_cases c5 : 0 ≤ x4_1
        · rw [if_pos c5] at H
          have c5b0 : decide (0 ≤ x4_1) = true := decide_eq_true c5
          clear c5
          by_cases c6 : x3_1.length < 17592186044416
          · rw [if_pos c6] at H
            have LMc6 := Aside0.mk c6
            clear c6
            obtain ⟨y105, hy105⟩ : ∃ y_ : List Int, y_ = (x3_1 ++ [(rd_T67 l0 x4_1).f2]) := ⟨_, rfl⟩
            replace H : (spec_l3Deadlines.l0 k1 l0 y105 (wrap64 (x4_1 + 1))) = some r := by first | (rw [hy105]; with_reducible exact H) | (have H2_ := (Option.bind_some _ _).symm.trans H; rw [hy105]; with_reducible exact H2_) | (have H2_ := (Option.bind_some _ _).symm.trans H; with_reducible exact H2_) | with_reducible exact H | (rw [hy105]; exact H) | exact H
            have Ny105 := Aside0.mk hy105
            clear hy105
            have H' := Aside0.mk H
            clear H
            have p104 : 0 ≤ (x4_1 : Int) := of_decide_eq_true q1
            have q104 : x4_1 < (l0.length : Int) := of_decide_eq_true q1
            obtain ⟨ad104, e104, hx104_0, hx104_1, hx104_2, hx104_3⟩ := at_T67 HR0.out x4_1 p104 q104
            cases e104
            replace hx104_0 := (HB.out.cell (World.block_lt_of_cell? w _ hx104_0)).trans hx104_0
            replace hx104_1 := (HB.out.cell (World.block_lt_of_cell? w _ hx104_1)).trans hx104_1
            replace hx104_2 := (HB.out.cell (World.block_lt_of_cell? w _ hx104_2)).trans hx104_2
            replace hx104_3 := (HB.out.cell (World.block_lt_of_cell? w _ hx104_3)).trans hx104_3
            replace p104 := eq_true p104
            replace q104 := eq_true q104
            go_wp2_with (first | ((with_reducible refine gate_builtin (b := .append) (xs := #[.tmp 12, .tmp 18]) rfl ?_); at_builtin; refine Kd.R_append (Kd.int .i64) (w0 := w) w.heap.size rfl (.tmp 12) (.tmp 18) 30 3 (.int .i64 0) 8 rfl Try.underlying30 info3 rfl (by decide) (by omega) u3 x3_1 ((rd_T67 l0 x4_1).f2) [.int .i64 ((rd_T67 l0 x4_1).f2)] (fun _ => True) (fun _ => False) rfl rfl ?aP (fun _ hk => hk.elim) ?aF ?aO ?aB ?aS ?aL ?_; (case aP => exact rfl); (case aB => exact bq); (case aF => exact (fun _ _ => trivial)); (case aO => exact (by (with_reducible repeat (first | apply Kd.R_alloc | apply Kd.R_drewN | apply Kd.R_drew)); exact HO_3.out)); (case aS => exact (below_size bq)); (case aL => have := LMc6.out; omega); intro v106 w7 ho hb hg hat; rw [← Ny105.out] at ho; have n0_ := Aside0.mk (hb); have n1_ := Aside0.mk (ho); clear HB; clear HO_3; have HB := n0_; have HO107 := n1_; clear n0_ n1_; clear ho hb hg hat))
            go_roundg k1
            case measure => have := HK1.out; omega
            case rel => exact ⟨(y105), (wrap64 (x4_1 + 1)), q3, H', ⟨by have := HK1.out; omega⟩, ⟨by (with_reducible repeat (first | apply Kd.R_alloc | apply Kd.R_drewN | apply Kd.R_drew)); exact HO107.out⟩, ⟨by repeat (first | (with_reducible first | exact HB.out | apply below_alloc | apply pw_below_drewN | apply below_drew1) | exact HB.out)⟩⟩
          · rw [if_neg c6] at H
            exact absurd H (by simp)
        · rw [if_neg c5] at H
          exact absurd H (by simp)
      · rw [if_neg c4] at H
        have c4b0 : decide (x4_1 < (l0.length : Int)) = false := decide_eq_false c4
        clear c4
        obtain rfl := Option.some.inj H
        go_wp2
        go_ret
        exact ⟨_, by first | rfl | (simp [errW_none, errW_some] <;> rfl) | (simp [*, errW_none, errW_some] <;> rfl), by (with_reducible repeat (first | apply Kd.R_alloc | apply Kd.R_drewN | apply Kd.R_drew)); exact HO_3.out, by repeat (first | (with_reducible first | exact HB.out | apply below_alloc | apply pw_below_drewN | apply below_drew1) | exact HB.out)⟩



/-! ### spec_ServersValid: function 68 -/
def spec_ServersValid.l0 : Nat → List (S109) → Int → Option (Bool)
  | 0, _, _ => none
  | k + 1, x0, x3 => if x3 < (x0.length : Int) then (if 0 ≤ x3 then ((spec_l1In.f ((rd_T109 x0 x3).f0) 1 ((rd_T109 x0 x3).f1)).bind fun t103 => (if t103 = true then ((spec_l1In.f ((rd_T109 x0 x3).f1) 1 12).bind fun t105 => (if t105 = true then (spec_ServersValid.l0 k x0 (wrap64 (x3 + 1))) else (some false))) else (some false))) else (none)) else (some (decide ((x0.length : Int) ≤ 2)))
def spec_ServersValid.f (k : Nat) (l0 : List (S109)) : Option (Bool) := spec_ServersValid.l0 k l0 0
set_option maxHeartbeats 8000000 in
set_option maxRecDepth 100000 in
theorem spec_ServersValid.calls (k : Nat) (A0 : Option Addr) (c0 : Nat) (l0 : List (S109)) (r : Bool) (w : World) (hr0 : Kd.C k109 w A0 l0.length l0) (hc0 : l0.length ≤ c0) (h : spec_ServersValid.f k l0 = some r) :
    Calls Try.prog 68 #[.slice A0 l0.length c0] w fun e w' => e = .returned (.bool r) ∧ Drawn0 w w' := by
  have HR0 := Aside0.mk hr0
  have HC0 := Aside0.mk hc0
  clear hr0 hc0
  have H : (spec_ServersValid.l0 k l0 0) = some r := h
  clear h
  have H' := Aside0.mk H
  clear H
  go_enter Try.func68, Try.ntmps68
  go_wp2
  repeat (go_quiet (fail); try go_wp2)
  go_loopg [3] k (fun kq v3 w' => ∃ (x3_1 : Int), v3 = .int .i64 x3_1 ∧ Aside0 (spec_ServersValid.l0 kq l0 x3_1 = some r) ∧ Aside0 (kq ≤ k) ∧ Drawn0 w w')
  case atStart => exact ⟨(0), q3, H', ⟨Nat.le_refl _⟩, by repeat (first | exact Drawn0.refl _ | apply Drawn0.step)⟩
  case round =>
    clear H'
    obtain ⟨x3_1, rfl, HA, HK1, ⟨m1, rfl⟩⟩ := hrel
    cases gk with
    | zero => exact absurd HA.out (by simp [spec_ServersValid.l0])
    | succ k1 =>
      have H := HA.out
      clear HA
      simp only [spec_ServersValid.l0] at H
      by_cases c2 : x3_1 < (l0.length : Int)
      · rw [if_pos c2] at H
        have c2b0 : decide (x3_1 < (l0.length : Int)) = true := decide_eq_true c2
        clear c2
        by_cases c3 : 0 ≤ x3_1
        · rw [if_pos c3] at H
          have c3b0 : decide (0 ≤ x3_1) = true := decide_eq_true c3
          clear c3
          replace H := Option.bind_eq_some_iff.mp H
          obtain ⟨t103, A40, H⟩ := H
          replace H : (if t103 = true then ((spec_l1In.f ((rd_T109 l0 x3_1).f1) 1 12).bind fun t105 => (if t105 = true then (spec_ServersValid.l0 k1 l0 (wrap64 (x3_1 + 1))) else (some false))) else (some false)) = some r := H
          have A4 := Aside0.mk A40
          clear A40
          by_cases c5 : t103 = true
          · subst c5
            have H1 : ((spec_l1In.f ((rd_T109 l0 x3_1).f1) 1 12).bind fun t105 => (if t105 = true then (spec_ServersValid.l0 k1 l0 (wrap64 (x3_1 + 1))) else (some false))) = some r := by rw [if_pos rfl] at H; exact H
            clear H
            have H := H1
            clear H1
            replace H := Option.bind_eq_some_iff.mp H
            obtain ⟨t105, A60, H⟩ := H
            replace H : (if t105 = true then (spec_ServersValid.l0 k1 l0 (wrap64 (x3_1 + 1))) else (some false)) = some r := H
            have A6 := Aside0.mk A60
            clear A60
            by_cases c7 : t105 = true
            · subst c7
              have H1 : (spec_ServersValid.l0 k1 l0 (wrap64 (x3_1 + 1))) = some r := by rw [if_pos rfl] at H; exact H
              clear H
              have H := H1
              clear H1
              have H' := Aside0.mk H
              clear H
              have p101 : 0 ≤ (x3_1 : Int) := of_decide_eq_true q1
              have q101 : x3_1 < (l0.length : Int) := of_decide_eq_true q1
              obtain ⟨ad101, e101, hx101_0, hx101_1⟩ := at_T109 HR0.out x3_1 p101 q101
              cases e101
              replace p101 := eq_true p101
              replace q101 := eq_true q101
              have p102 : 0 ≤ (x3_1 : Int) := of_decide_eq_true q1
              have q102 : x3_1 < (l0.length : Int) := of_decide_eq_true q1
              obtain ⟨ad102, e102, hx102_0, hx102_1⟩ := at_T109 HR0.out x3_1 p102 q102
              obtain rfl : ad101 = ad102 := (by injection e102)
              replace p102 := eq_true p102
              replace q102 := eq_true q102
              go_wp2_with (first | (go_at_call 96; (with_reducible refine (spec_l1In.calls ((rd_T109 l0 x3_1).f0) 1 ((rd_T109 l0 x3_1).f1) true _ A4.out).mono ?_); rintro e w' ⟨rfl, ⟨nd, rfl⟩⟩; (try first | exact ⟨rfl, _, World.drewN_drewN _ _ _⟩ | exact ⟨rfl, _, Eq.trans (World.drewN_drewN _ _ _) (congrArg (World.drewN _) (Nat.add_assoc _ _ _))⟩); have p104 : 0 ≤ (x3_1 : Int) := of_decide_eq_true q1; have q104 : x3_1 < (l0.length : Int) := of_decide_eq_true q1; obtain ⟨ad104, e104, hx104_0, hx104_1⟩ := at_T109 HR0.out x3_1 p104 q104; obtain rfl : ad101 = ad104 := (by injection e104); replace p104 := eq_true p104; replace q104 := eq_true q104) | (go_at_call 96; (with_reducible refine (spec_l1In.calls ((rd_T109 l0 x3_1).f1) 1 12 true _ A6.out).mono ?_); rintro e w' ⟨rfl, ⟨nd, rfl⟩⟩; (try first | exact ⟨rfl, _, World.drewN_drewN _ _ _⟩ | exact ⟨rfl, _, Eq.trans (World.drewN_drewN _ _ _) (congrArg (World.drewN _) (Nat.add_assoc _ _ _))⟩)))
              (try (have p104 : 0 ≤ (x3_1 : Int) := of_decide_eq_true q1; have q104 : x3_1 < (l0.length : Int) := of_decide_eq_true q1; obtain ⟨ad104, e104, hx104_0, hx104_1⟩ := at_T109 HR0.out x3_1 p104 q104; obtain rfl : ad101 = ad104 := (by injection e104); replace p104 := eq_true p104; replace q104 := eq_true q104))
              repeat (go_quiet (first | (go_at_call 96; (with_reducible refine (spec_l1In.calls ((rd_T109 l0 x3_1).f0) 1 ((rd_T109 l0 x3_1).f1) true _ A4.out).mono ?_); rintro e w' ⟨rfl, ⟨nd, rfl⟩⟩; (try first | exact ⟨rfl, _, World.drewN_drewN _ _ _⟩ | exact ⟨rfl, _, Eq.trans (World.drewN_drewN _ _ _) (congrArg (World.drewN _) (Nat.add_assoc _ _ _))⟩)) | (go_at_call 96; (with_reducible refine (spec_l1In.calls ((rd_T109 l0 x3_1).f1) 1 12 true _ A6.out).mono ?_); rintro e w' ⟨rfl, ⟨nd, rfl⟩⟩; (try first | exact ⟨rfl, _, World.drewN_drewN _ _ _⟩ | exact ⟨rfl, _, Eq.trans (World.drewN_drewN _ _ _) (congrArg (World.drewN _) (Nat.add_assoc _ _ _))⟩))); try go_wp2_with (first | (go_at_call 96; (with_reducible refine (spec_l1In.calls ((rd_T109 l0 x3_1).f0) 1 ((rd_T109 l0 x3_1).f1) true _ A4.out).mono ?_); rintro e w' ⟨rfl, ⟨nd, rfl⟩⟩; (try first | exact ⟨rfl, _, World.drewN_drewN _ _ _⟩ | exact ⟨rfl, _, Eq.trans (World.drewN_drewN _ _ _) (congrArg (World.drewN _) (Nat.add_assoc _ _ _))⟩); have p104 : 0 ≤ (x3_1 : Int) := of_decide_eq_true q1; have q104 : x3_1 < (l0.length : Int) := of_decide_eq_true q1; obtain ⟨ad104, e104, hx104_0, hx104_1⟩ := at_T109 HR0.out x3_1 p104 q104; obtain rfl : ad101 = ad104 := (by injection e104); replace p104 := eq_true p104; replace q104 := eq_true q104) | (go_at_call 96; (with_reducible refine (spec_l1In.calls ((rd_T109 l0 x3_1).f1) 1 12 true _ A6.out).mono ?_); rintro e w' ⟨rfl, ⟨nd, rfl⟩⟩; (try first | exact ⟨rfl, _, World.drewN_drewN _ _ _⟩ | exact ⟨rfl, _, Eq.trans (World.drewN_drewN _ _ _) (congrArg (World.drewN _) (Nat.add_assoc _ _ _))⟩))))
              go_roundg k1
              case measure => have := HK1.out; omega
              case rel => exact ⟨(wrap64 (x3_1 + 1)), q3, H', ⟨by have := HK1.out; omega⟩, by repeat (first | exact Drawn0.refl _ | apply Drawn0.step)⟩
            · replace c7 := Bool.eq_false_iff.mpr c7
              subst c7
              have H1 : (some false) = some r := by rw [if_neg (show ¬ (false = true) by decide)] at H; exact H
              clear H
              have H := H1
              clear H1
              obtain rfl := Option.some.inj H
              have p101 : 0 ≤ (x3_1 : Int) := of_decide_eq_true q1
              have q101 : x3_1 < (l0.length : Int) := of_decide_eq_true q1
              obtain ⟨ad101, e101, hx101_0, hx101_1⟩ := at_T109 HR0.out x3_1 p101 q101
              cases e101
              replace p101 := eq_true p101
              replace q101 := eq_true q101
              have p102 : 0 ≤ (x3_1 : Int) := of_decide_eq_true q1
              have q102 : x3_1 < (l0.length : Int) := of_decide_eq_true q1
              obtain ⟨ad102, e102, hx102_0, hx102_1⟩ := at_T109 HR0.out x3_1 p102 q102
              obtain rfl : ad101 = ad102 := (by injection e102)
              replace p102 := eq_true p102
              replace q102 := eq_true q102
              go_wp2_with (first | (go_at_call 96; (with_reducible refine (spec_l1In.calls ((rd_T109 l0 x3_1).f0) 1 ((rd_T109 l0 x3_1).f1) true _ A4.out).mono ?_); rintro e w' ⟨rfl, ⟨nd, rfl⟩⟩; (try first | exact ⟨rfl, _, World.drewN_drewN _ _ _⟩ | exact ⟨rfl, _, Eq.trans (World.drewN_drewN _ _ _) (congrArg (World.drewN _) (Nat.add_assoc _ _ _))⟩); have p104 : 0 ≤ (x3_1 : Int) := of_decide_eq_true q1; have q104 : x3_1 < (l0.length : Int) := of_decide_eq_true q1; obtain ⟨ad104, e104, hx104_0, hx104_1⟩ := at_T109 HR0.out x3_1 p104 q104; obtain rfl : ad101 = ad104 := (by injection e104); replace p104 := eq_true p104; replace q104 := eq_true q104) | (go_at_call 96; (with_reducible refine (spec_l1In.calls ((rd_T109 l0 x3_1).f1) 1 12 false _ A6.out).mono ?_); rintro e w' ⟨rfl, ⟨nd, rfl⟩⟩; (try first | exact ⟨rfl, _, World.drewN_drewN _ _ _⟩ | exact ⟨rfl, _, Eq.trans (World.drewN_drewN _ _ _) (congrArg (World.drewN _) (Nat.add_assoc _ _ _))⟩)))
              (try (have p104 : 0 ≤ (x3_1 : Int) := of_decide_eq_true q1; have q104 : x3_1 < (l0.length : Int) := of_decide_eq_true q1; obtain ⟨ad104, e104, hx104_0, hx104_1⟩ := at_T109 HR0.out x3_1 p104 q104; obtain rfl : ad101 = ad104 := (by injection e104); replace p104 := eq_true p104; replace q104 := eq_true q104))
              repeat (go_quiet (first | (go_at_call 96; (with_reducible refine (spec_l1In.calls ((rd_T109 l0 x3_1).f0) 1 ((rd_T109 l0 x3_1).f1) true _ A4.out).mono ?_); rintro e w' ⟨rfl, ⟨nd, rfl⟩⟩; (try first | exact ⟨rfl, _, World.drewN_drewN _ _ _⟩ | exact ⟨rfl, _, Eq.trans (World.drewN_drewN _ _ _) (congrArg (World.drewN _) (Nat.add_assoc _ _ _))⟩)) | (go_at_call 96; (with_reducible refine (spec_l1In.calls ((rd_T109 l0 x3_1).f1) 1 12 false _ A6.out).mono ?_); rintro e w' ⟨rfl, ⟨nd, rfl⟩⟩; (try first | exact ⟨rfl, _, World.drewN_drewN _ _ _⟩ | exact ⟨rfl, _, Eq.trans (World.drewN_drewN _ _ _) (congrArg (World.drewN _) (Nat.add_assoc _ _ _))⟩))); try go_wp2_with (first | (go_at_call 96; (with_reducible refine (spec_l1In.calls ((rd_T109 l0 x3_1).f0) 1 ((rd_T109 l0 x3_1).f1) true _ A4.out).mono ?_); rintro e w' ⟨rfl, ⟨nd, rfl⟩⟩; (try first | exact ⟨rfl, _, World.drewN_drewN _ _ _⟩ | exact ⟨rfl, _, Eq.trans (World.drewN_drewN _ _ _) (congrArg (World.drewN _) (Nat.add_assoc _ _ _))⟩); have p104 : 0 ≤ (x3_1 : Int) := of_decide_eq_true q1; have q104 : x3_1 < (l0.length : Int) := of_decide_eq_true q1; obtain ⟨ad104, e104, hx104_0, hx104_1⟩ := at_T109 HR0.out x3_1 p104 q104; obtain rfl : ad101 = ad104 := (by injection e104); replace p104 := eq_true p104; replace q104 := eq_true q104) | (go_at_call 96; (with_reducible refine (spec_l1In.calls ((rd_T109 l0 x3_1).f1) 1 12 false _ A6.out).mono ?_); rintro e w' ⟨rfl, ⟨nd, rfl⟩⟩; (try first | exact ⟨rfl, _, World.drewN_drewN _ _ _⟩ | exact ⟨rfl, _, Eq.trans (World.drewN_drewN _ _ _) (congrArg (World.drewN _) (Nat.add_assoc _ _ _))⟩))))
              go_ret
              exact ⟨by first | rfl | (simp; done) | (simp [*]; done) | (simp only [i64_w, i32_w]; done) | (simp [*, i64_w, i32_w]; done), by repeat (first | exact Drawn0.refl _ | apply Drawn0.step)⟩
          · replace c5 := Bool.eq_false_iff.mpr c5
            subst c5
            have H1 : (some false) = some r := by rw [if_neg (show ¬ (false = true) by decide)] at H; exact H
            clear H
            have H := H1
            clear H1
            obtain rfl := Option.some.inj H
            have p101 : 0 ≤ (x3_1 : Int) := of_decide_eq_true q1
            have q101 : x3_1 < (l0.length : Int) := of_decide_eq_true q1
            obtain ⟨ad101, e101, hx101_0, hx101_1⟩ := at_T109 HR0.out x3_1 p101 q101
            cases e101
            replace p101 := eq_true p101
            replace q101 := eq_true q101
            have p102 : 0 ≤ (x3_1 : Int) := of_decide_eq_true q1
            have q102 : x3_1 < (l0.length : Int) := of_decide_eq_true q1
            obtain ⟨ad102, e102, hx102_0, hx102_1⟩ := at_T109 HR0.out x3_1 p102 q102
            obtain rfl : ad101 = ad102 := (by injection e102)
            replace p102 := eq_true p102
            replace q102 := eq_true q102
            go_wp2_with (first | (go_at_call 96; (with_reducible refine (spec_l1In.calls ((rd_T109 l0 x3_1).f0) 1 ((rd_T109 l0 x3_1).f1) false _ A4.out).mono ?_); rintro e w' ⟨rfl, ⟨nd, rfl⟩⟩; (try first | exact ⟨rfl, _, World.drewN_drewN _ _ _⟩ | exact ⟨rfl, _, Eq.trans (World.drewN_drewN _ _ _) (congrArg (World.drewN _) (Nat.add_assoc _ _ _))⟩)))
            repeat (go_quiet (first | (go_at_call 96; (with_reducible refine (spec_l1In.calls ((rd_T109 l0 x3_1).f0) 1 ((rd_T109 l0 x3_1).f1) false _ A4.out).mono ?_); rintro e w' ⟨rfl, ⟨nd, rfl⟩⟩; (try first | exact ⟨rfl, _, World.drewN_drewN _ _ _⟩ | exact ⟨rfl, _, Eq.trans (World.drewN_drewN _ _ _) (congrArg (World.drewN _) (Nat.add_assoc _ _ _))⟩))); try go_wp2_with (first | (go_at_call 96; (with_reducible refine (spec_l1In.calls ((rd_T109 l0 x3_1).f0) 1 ((rd_T109 l0 x3_1).f1) false _ A4.out).mono ?_); rintro e w' ⟨rfl, ⟨nd, rfl⟩⟩; (try first | exact ⟨rfl, _, World.drewN_drewN _ _ _⟩ | exact ⟨rfl, _, Eq.trans (World.drewN_drewN _ _ _) (congrArg (World.drewN _) (Nat.add_assoc _ _ _))⟩))))
            go_ret
            exact ⟨by first | rfl | (simp; done) | (simp [*]; done) | (simp only [i64_w, i32_w]; done) | (simp [*, i64_w, i32_w]; done), by repeat (first | exact Drawn0.refl _ | apply Drawn0.step)⟩
        · rw [if_neg c3] at H
          exact absurd H (by simp)
      · rw [if_neg c2] at H
        have c2b0 : decide (x3_1 < (l0.length : Int)) = false := decide_eq_false c2
        clear c2
        obtain rfl := Option.some.inj H
        go_wp2
        repeat (go_quiet (fail); try go_wp2)
        go_ret
        exact ⟨by first | rfl | (simp; done) | (simp [*]; done) | (simp only [i64_w, i32_w]; done) | (simp [*, i64_w, i32_w]; done), by repeat (first | exact Drawn0.refl _ | apply Drawn0.step)⟩



/-! ### laws_markArrivalS: function 91 -/
def laws_markArrivalS.l0 : Nat → List (S164) → Int → Int → Option (Int × (List (S164)))
  | 0, _, _, _ => none
  | k + 1, x0, x1, x5 => if x5 < (x0.length : Int) then (if 0 ≤ x5 then ((some (x0.set (x5 : Int).toNat (⟨x1, (rd_T164 x0 x5).f1⟩ : S164) : List (S164))).bind fun y101 => (laws_markArrivalS.l0 k (y101.set (x5 : Int).toNat (⟨(rd_T164 y101 x5).f0, wrap64 (x1 + 1)⟩ : S164)) (wrap64 ((wrap64 (x1 + 1)) + 1)) (wrap64 (x5 + 1)))) else (none)) else (some (x1, x0))
def laws_markArrivalS.f (k : Nat) (l0 : List (S164)) (a1 : Int) : Option (Int × (List (S164))) := laws_markArrivalS.l0 k l0 a1 0
set_option maxHeartbeats 8000000 in
set_option maxRecDepth 100000 in
theorem laws_markArrivalS.calls (k : Nat) (P0_ : Nat → Prop) (u9000_ : Value) (l0 : List (S164)) (a1 : Int) (r1 : Int) (r2 : List (S164)) (w0 w : World) (hB : Below w0.heap.size w0 w) (ho0 : Kd.R k164 164 w w0.heap.size P0_ u9000_ l0) (h : laws_markArrivalS.f k l0 a1 = some (r1, r2)) :
    Calls Try.prog 91 #[u9000_, .int .i64 a1] w fun e w' => e = .returned (.int .i64 r1) ∧ Kd.R k164 164 w' w0.heap.size (fun k_ => (P0_ k_ ∨ w.heap.size ≤ k_)) u9000_ r2 ∧ Below w0.heap.size w0 w' ∧ Kept w w' (fun k_ => P0_ k_) := by
  have HO0 := Aside0.mk (show Kd.R k164 164 w w0.heap.size (fun k_ => (P0_ k_ ∨ w.heap.size ≤ k_)) u9000_ l0 from Kd.R_mono ho0 (fun k_ hk => (.inl hk)))
  have HK := Aside0.mk (Kept.refl w (fun k_ => P0_ k_))
  have HW0 := Aside0.mk hB.size
  have HB := Aside0.mk hB
  clear hB
  have H : (laws_markArrivalS.l0 k l0 a1 0) = some (r1, r2) := h
  clear h
  have H' := Aside0.mk H
  clear H
  go_enter Try.func91, Try.ntmps91
  go_wp2
  go_loopg [1, 5] k (fun kq v1 v5 w' => ∃ (x0_1 : List (S164)) (x1_1 : Int) (x5_1 : Int), v1 = .int .i64 x1_1 ∧ v5 = .int .i64 x5_1 ∧ Aside0 (laws_markArrivalS.l0 kq x0_1 x1_1 x5_1 = some (r1, r2)) ∧ Aside0 (kq ≤ k) ∧ Aside0 (Kd.R k164 164 w' w0.heap.size (fun k_ => (P0_ k_ ∨ w.heap.size ≤ k_)) u9000_ x0_1) ∧ Aside0 (Kept w w' (fun k_ => P0_ k_)) ∧ Aside0 (Below w0.heap.size w0 w'))
  case atStart => exact ⟨(l0), (a1), (0), q3, q3, H', ⟨Nat.le_refl _⟩, ⟨by (with_reducible repeat (first | apply Kd.R_alloc | apply Kd.R_drewN | apply Kd.R_drew)); exact HO0.out⟩, ⟨by repeat (first | (with_reducible first | exact HK.out | apply Kept.alloc | apply Kept.drewN | apply Kept.drew) | exact HK.out)⟩, ⟨by repeat (first | (with_reducible first | exact HB.out | apply below_alloc | apply pw_below_drewN | apply below_drew1) | exact HB.out)⟩⟩
  case round =>
    clear H'
    try clear p2
    obtain ⟨x0_1, x1_1, x5_1, rfl, rfl, HA, HK1, HO_0, HK, HB⟩ := hrel
    cases gk with
    | zero => exact absurd HA.out (by simp [laws_markArrivalS.l0])
    | succ k1 =>
      have H := HA.out
      clear HA
      simp only [laws_markArrivalS.l0] at H
      by_cases c3 : x5_1 < (x0_1.length : Int)
      · rw [if_pos c3] at H
        have c3b0 : decide (x5_1 < (x0_1.length : Int)) = true := decide_eq_true c3
        clear c3
        by_cases c4 : 0 ≤ x5_1
        · rw [if_pos c4] at H
          have c4b0 : decide (0 ≤ x5_1) = true := decide_eq_true c4
          clear c4
          obtain ⟨y101, hy101⟩ : ∃ y_ : List (S164), y_ = (x0_1.set (x5_1 : Int).toNat (⟨x1_1, (rd_T164 x0_1 x5_1).f1⟩ : S164)) := ⟨_, rfl⟩
          replace H : (laws_markArrivalS.l0 k1 (y101.set (x5_1 : Int).toNat (⟨(rd_T164 y101 x5_1).f0, wrap64 (x1_1 + 1)⟩ : S164)) (wrap64 ((wrap64 (x1_1 + 1)) + 1)) (wrap64 (x5_1 + 1))) = some (r1, r2) := by first | (rw [hy101]; with_reducible exact H) | (have H2_ := (Option.bind_some _ _).symm.trans H; rw [hy101]; with_reducible exact H2_) | (have H2_ := (Option.bind_some _ _).symm.trans H; with_reducible exact H2_) | with_reducible exact H | (rw [hy101]; exact H) | exact H
          have Ny101 := Aside0.mk hy101
          clear hy101
          obtain ⟨y102, hy102⟩ : ∃ y_ : List (S164), y_ = (y101.set (x5_1 : Int).toNat (⟨(rd_T164 y101 x5_1).f0, wrap64 (x1_1 + 1)⟩ : S164)) := ⟨_, rfl⟩
          replace H : (laws_markArrivalS.l0 k1 y102 (wrap64 ((wrap64 (x1_1 + 1)) + 1)) (wrap64 (x5_1 + 1))) = some (r1, r2) := by first | (rw [hy102]; with_reducible exact H) | (have H2_ := (Option.bind_some _ _).symm.trans H; rw [hy102]; with_reducible exact H2_) | (have H2_ := (Option.bind_some _ _).symm.trans H; with_reducible exact H2_) | with_reducible exact H | (rw [hy102]; exact H) | exact H
          have Ny102 := Aside0.mk hy102
          clear hy102
          have H' := Aside0.mk H
          clear H
          obtain ⟨Ao7, co7, eo7⟩ := Kd.R_slice HO_0.out
          subst eo7
          have p5 : 0 ≤ (x5_1 : Int) := of_decide_eq_true q1
          have q5 : (x5_1 : Int) < ((x0_1.length : Int) : Int) := of_decide_eq_true q1
          obtain ⟨go5, co5, eo5, gb5, gl5, cl5, HG5⟩ := Kd.R_form HO_0.out (by omega)
          (first | cases eo5 | (injection eo5 with ea_ en_ ec_; (first | subst ea_ | (injection ea_ with ea_; subst ea_)); subst ec_; clear en_))
          have GB5 := Aside0.mk gb5
          have GG5 := Aside0.mk HG5
          clear gb5 gl5 HG5
          have HMgo5 := Aside0.mk (show (P0_ go5 ∨ w.heap.size ≤ go5) from (HO_0.out.1 _ rfl))
          obtain ⟨ce5, hcl5, hM5, hcc5, hfr5⟩ := Kd.R_elem HO_0.out z164 (x5_1 : Int) p5 q5
          obtain rfl := k164_openM hM5
          have hx5_0 : wr.cell? ⟨go5, (x5_1 : Int).toNat * 2, none⟩ = some (.int .i64 ((rd_T164 x0_1 x5_1).f0)) := hcc5 0 _ rfl
          have hx5_1 : wr.cell? ⟨go5, (x5_1 : Int).toNat * 2 + 1, none⟩ = some (.int .i64 ((rd_T164 x0_1 x5_1).f1)) := hcc5 1 _ rfl
          have hf5_0 : wr.frozen? ⟨go5, (x5_1 : Int).toNat * 2, none⟩ = false := hfr5 0
          have hf5_1 : wr.frozen? ⟨go5, (x5_1 : Int).toNat * 2 + 1, none⟩ = false := hfr5 1
          clear hcl5 hcc5 hfr5 hM5
          replace p5 := eq_true p5
          replace q5 := eq_true q5
          have HX8 := Aside0.mk (show Kd.R k164 164 wr w0.heap.size (fun k_ => (P0_ k_ ∨ w.heap.size ≤ k_)) (.slice (some ⟨go5, 0, none⟩) x0_1.length co7) x0_1 from (by (with_reducible repeat (first | apply Kd.R_alloc | apply Kd.R_drewN | apply Kd.R_drew)); exact HO_0.out))
          obtain ⟨ce8, hcl8, hM8, hcc8, hfr8⟩ := Kd.R_elem HX8.out z164 (x5_1 : Int) (of_decide_eq_true q1) (by have h_ : (x5_1 : Int) < ((x0_1.length : Int) : Int) := of_decide_eq_true q1; first | exact h_ | (have e_ := (Kd.R_reads' HO_0.out).1; omega) | simpa using h_)
          obtain rfl := k164_openM hM8
          have HP8 := Kd.R_seg HX8.out (x5_1 : Int) (of_decide_eq_true q1) (by have h_ : (x5_1 : Int) < ((x0_1.length : Int) : Int) := of_decide_eq_true q1; first | exact h_ | (have e_ := (Kd.R_reads' HO_0.out).1; omega) | simpa using h_) (seg := [.int .i64 x1_1]) (j := 0) hcl8 hcc8 (show 1 ≤ 2 from by decide) (x' := (⟨x1_1, (rd_T164 x0_1 x5_1).f1⟩ : S164)) (k164_mkM _ _ _ (⟨x1_1, (rd_T164 x0_1 x5_1).f1⟩ : S164) ) (fun _ hk => hk)
          have hx8_0 := hcc8 0 _ rfl
          (try simp only [show (k164).sz = 2 from rfl, Nat.mul_one, Nat.add_zero] at hx8_0)
          have hf8_0 := hfr8 0
          (try simp only [show (k164).sz = 2 from rfl, Nat.mul_one, Nat.add_zero] at hf8_0)
          clear hcl8 hcc8 hfr8 hM8
          go_wp2_with (first | ((with_reducible refine gate_store (t := 3) (p := 16) rfl ?_); refine store_event (t := 3) (p := 16) (v := ?vo_w9) (w1 := (wr.setCell ⟨go5, (x5_1 : Int).toNat * 2, none⟩ (.int .i64 x1_1))) ?hg ?ho ?hn ?hr ?_; (case ho => rfl); (case hg => rfl); (case hn => rfl); (case hr => first | (go_simp; done) | (go_simp; rfl)); intro w9 hw; have hg : wr.grownBy w9 (some go5) := (by rw [hw]; exact HP8.2); have hp_ : Kd.R k164 164 w9 w0.heap.size (fun k_ => (P0_ k_ ∨ w.heap.size ≤ k_)) (.slice (some ⟨go5, 0, none⟩) x0_1.length co7) y101 := (by rw [hw, Ny101.out]; exact HP8.1); clear HP8; have n0_ := Aside0.mk (hp_); have n1_ := Aside0.mk ((by rw [hw]; exact below_set (HB.out) GB5.out : Below w0.heap.size w0 w9)); have n2_ := Aside0.mk (Kept.of_grown (S := (fun k_ => P0_ k_)) hg (by repeat (first | (with_reducible first | exact HK.out | apply Kept.alloc | apply Kept.drewN | apply Kept.drew) | exact HK.out)) (fun k_ e_ => (HO_0.out.1 k_ e_))); clear HO_0; clear HB; clear HK; have HO_0 := n0_; have HB := n1_; have HK := n2_; clear n0_ n1_ n2_; clear hg hw hp_; have p6 : 0 ≤ (x5_1 : Int) := of_decide_eq_true q1; have q6 : (x5_1 : Int) < ((x0_1.length : Int) : Int) := of_decide_eq_true q1; obtain ⟨ce6, hcl6, hM6, hcc6, hfr6⟩ := Kd.R_elem HO_0.out z164 (x5_1 : Int) p6 q6; obtain rfl := k164_openM hM6; have hx6_0 : w9.cell? ⟨go5, (x5_1 : Int).toNat * 2, none⟩ = some (.int .i64 ((rd_T164 y101 x5_1).f0)) := hcc6 0 _ rfl; have hx6_1 : w9.cell? ⟨go5, (x5_1 : Int).toNat * 2 + 1, none⟩ = some (.int .i64 ((rd_T164 y101 x5_1).f1)) := hcc6 1 _ rfl; have hf6_0 : w9.frozen? ⟨go5, (x5_1 : Int).toNat * 2, none⟩ = false := hfr6 0; have hf6_1 : w9.frozen? ⟨go5, (x5_1 : Int).toNat * 2 + 1, none⟩ = false := hfr6 1; clear hcl6 hcc6 hfr6 hM6; replace p6 := eq_true p6; replace q6 := eq_true q6; have HX10 := Aside0.mk (show Kd.R k164 164 w9 w0.heap.size (fun k_ => (P0_ k_ ∨ w.heap.size ≤ k_)) (.slice (some ⟨go5, 0, none⟩) x0_1.length co7) y101 from (by (with_reducible repeat (first | apply Kd.R_alloc | apply Kd.R_drewN | apply Kd.R_drew)); exact HO_0.out)); obtain ⟨ce10, hcl10, hM10, hcc10, hfr10⟩ := Kd.R_elem HX10.out z164 (x5_1 : Int) (of_decide_eq_true q1) (by have h_ : (x5_1 : Int) < ((x0_1.length : Int) : Int) := of_decide_eq_true q1; first | exact h_ | (have e_ := (Kd.R_reads' HO_0.out).1; omega) | simpa using h_); obtain rfl := k164_openM hM10; have HP10 := Kd.R_seg HX10.out (x5_1 : Int) (of_decide_eq_true q1) (by have h_ : (x5_1 : Int) < ((x0_1.length : Int) : Int) := of_decide_eq_true q1; first | exact h_ | (have e_ := (Kd.R_reads' HO_0.out).1; omega) | simpa using h_) (seg := [.int .i64 (wrap64 (x1_1 + 1))]) (j := 1) hcl10 hcc10 (show 2 ≤ 2 from by decide) (x' := (⟨(rd_T164 y101 x5_1).f0, wrap64 (x1_1 + 1)⟩ : S164)) (k164_mkM _ _ _ (⟨(rd_T164 y101 x5_1).f0, wrap64 (x1_1 + 1)⟩ : S164) ) (fun _ hk => hk); have hx10_1 := hcc10 1 _ rfl; (try simp only [show (k164).sz = 2 from rfl, Nat.mul_one, Nat.add_zero] at hx10_1); have hf10_1 := hfr10 1; (try simp only [show (k164).sz = 2 from rfl, Nat.mul_one, Nat.add_zero] at hf10_1); clear hcl10 hcc10 hfr10 hM10) | ((with_reducible refine gate_store (t := 3) (p := 23) rfl ?_); refine store_event (t := 3) (p := 23) (v := ?vo_w11) (w1 := (w9.setCell ⟨go5, (x5_1 : Int).toNat * 2 + 1, none⟩ (.int .i64 (wrap64 (x1_1 + 1))))) ?hg ?ho ?hn ?hr ?_; (case ho => rfl); (case hg => rfl); (case hn => rfl); (case hr => first | (go_simp; done) | (go_simp; rfl)); intro w11 hw; have hg : w9.grownBy w11 (some go5) := (by rw [hw]; exact HP10.2); have hp_ : Kd.R k164 164 w11 w0.heap.size (fun k_ => (P0_ k_ ∨ w.heap.size ≤ k_)) (.slice (some ⟨go5, 0, none⟩) x0_1.length co7) y102 := (by rw [hw, Ny102.out]; exact HP10.1); clear HP10; have n0_ := Aside0.mk (hp_); have n1_ := Aside0.mk ((by rw [hw]; exact below_set (HB.out) GB5.out : Below w0.heap.size w0 w11)); have n2_ := Aside0.mk (Kept.of_grown (S := (fun k_ => P0_ k_)) hg (by repeat (first | (with_reducible first | exact HK.out | apply Kept.alloc | apply Kept.drewN | apply Kept.drew) | exact HK.out)) (fun k_ e_ => (HO_0.out.1 k_ e_))); clear HO_0; clear HB; clear HK; have HO_0 := n0_; have HB := n1_; have HK := n2_; clear n0_ n1_ n2_; clear hg hw hp_))
          go_roundg k1
          case measure => have := HK1.out; omega
          case rel => exact ⟨(y102), (wrap64 ((wrap64 (x1_1 + 1)) + 1)), (wrap64 (x5_1 + 1)), q3, q3, H', ⟨by have := HK1.out; omega⟩, ⟨by (with_reducible repeat (first | apply Kd.R_alloc | apply Kd.R_drewN | apply Kd.R_drew)); exact HO_0.out⟩, ⟨by repeat (first | (with_reducible first | exact HK.out | apply Kept.alloc | apply Kept.drewN | apply Kept.drew) | exact HK.out)⟩, ⟨by repeat (first | (with_reducible first | exact HB.out | apply below_alloc | apply pw_below_drewN | apply below_drew1) | exact HB.out)⟩⟩
        · rw [if_neg c4] at H
          exact absurd H (by simp)
      · rw [if_neg c3] at H
        have c3b0 : decide (x5_1 < (x0_1.length : Int)) = false := decide_eq_false c3
        clear c3
        simp only [Option.some.injEq, Prod.mk.injEq] at H
        obtain ⟨rfl, rfl⟩ := H
        obtain ⟨Ao12, co12, eo12⟩ := Kd.R_slice HO_0.out
        subst eo12
        go_wp2
        go_ret
        exact ⟨by first | rfl | (simp [errW_none, errW_some] <;> rfl) | (simp [*, errW_none, errW_some] <;> rfl), by (with_reducible repeat (first | apply Kd.R_alloc | apply Kd.R_drewN | apply Kd.R_drew)); exact HO_0.out, by repeat (first | (with_reducible first | exact HB.out | apply below_alloc | apply pw_below_drewN | apply below_drew1) | exact HB.out), by repeat (first | (with_reducible first | exact HK.out | apply Kept.alloc | apply Kept.drewN | apply Kept.drew) | exact HK.out)⟩

end Go.Proofs.Ytonifhkplniblaa.Print
