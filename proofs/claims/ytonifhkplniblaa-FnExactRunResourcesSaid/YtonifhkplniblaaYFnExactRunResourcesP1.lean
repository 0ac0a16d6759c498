/- Functions of the translation as plain Lean functions, and their contracts. No condition. -/
import Derived.Test.YtonifhkplniblaaYFnExactRunResourcesPB
import Derived.BigQuiet
import Derived.Deep.DeepMust
import Derived.Deep.LoopGhost
import Derived.Deep.QuietTactic
import Derived.Deep.RegionHeld3
import Derived.Lib.Hide
import Derived.Lib.LazyBuf
import Derived.Test.YtonifhkplniblaaYFnExactRunResourcesWGuard
import Derived.Test.YtonifhkplniblaaYFnExactRunResourcesWalk
import Derived.Test.YtonifhkplniblaaYFnExactRunResourcesP0
namespace Go.Proofs.Ytonifhkplniblaa.Print
open Go.RowKit Go.Proofs.YtonifhkplniblaaW.PrintWords Go.Proofs.YtonifhkplniblaaW.PrintLast Go.Proofs.YtonifhkplniblaaW.PrintMore
attribute [local go_sem] max2_int min2_int max_two min_two max_three min_three max_four min_four   -- for this text's walks alone
set_option linter.unusedVariables false
set_option linter.unusedSimpArgs false

/-! ### impl_RunResources: function 39 (given) -/
open Go.Proofs.Ytonifhkplniblaa.Walk
/-- A simulation, as it is read. -/
def MachR (W : World) (g : Nat) (A : Option Addr) (c : Nat) (jobs : List (S67)) (D : Option Addr) (cd : Nat) (done : List Int) (now : Int) : Prop :=
  W.heap[g]? = some (.cells #[.slice A jobs.length c, .slice D done.length cd, .int .i64 now] 124 (0, 0)) ∧ Kd.C k67 W A jobs.length jobs ∧ Kd.C (Kd.int .i64) W D done.length done ∧ done.length = jobs.length
theorem MachR.drewN {W : World} {g : Nat} {A : Option Addr} {c : Nat} {jobs : List (S67)} {D : Option Addr} {cd : Nat} {done : List Int} {now : Int} (h : MachR W g A c jobs D cd done now) (n : Nat) : MachR (W.drewN n) g A c jobs D cd done now :=
  ⟨blk_drewN h.1 n, Kd.C_drewN h.2.1 n, Kd.C_drewN h.2.2.1 n, h.2.2.2⟩
theorem MachR.below {W W' : World} {g : Nat} {A : Option Addr} {c : Nat} {jobs : List (S67)} {D : Option Addr} {cd : Nat} {done : List Int} {now : Int} (h : MachR W g A c jobs D cd done now) (hb : Below W.heap.size W W') : MachR W' g A c jobs D cd done now :=
  ⟨blk_below h.1 hb, Kd.C_below h.2.1 hb, Kd.C_below h.2.2.1 hb, h.2.2.2⟩
/-- Whether a job is released and unfinished. -/
def rdyB (jobs : List (S67)) (done : List Int) (now : Int) (i : Nat) : Bool := decide ((jobs.getD i z67).f1 ≤ now) && decide (done.getD i 0 < (jobs.getD i z67).f3)
set_option maxHeartbeats 2000000 in
set_option maxRecDepth 100000 in
theorem ready_calls (g : Nat) (A : Option Addr) (c : Nat) (jobs : List (S67)) (D : Option Addr) (cd : Nat) (done : List Int) (now : Int) (i : Nat) (hi : i < jobs.length) (w : World) (h : MachR w g A c jobs D cd done now) :
    Calls Try.prog 110 #[.pointer (some ⟨g, 0, none⟩), .int .i64 (i : Int)] w fun e w' => e = .returned (.bool (rdyB jobs done now i)) ∧ ∃ m, w' = w.drewN m := by
  obtain ⟨hb, hj, hd, hl⟩ := h
  have hm0 : w.cell? ⟨g, 0, none⟩ = some (.slice A jobs.length c) := (blk_cell hb 0).trans rfl
  have hm1 : w.cell? ⟨g, 1, none⟩ = some (.slice D done.length cd) := (blk_cell hb 1).trans rfl
  have hm2 : w.cell? ⟨g, 2, none⟩ = some (.int .i64 now) := (blk_cell hb 2).trans rfl
  obtain ⟨ad0, e0, hy0, hy1, hy2, hy3⟩ := at_T67 hj (i : Int) (by omega) (by omega)
  cases e0
  obtain ⟨ad1, e1, hx0⟩ := Kd.at_int hd (i : Int) (by omega) (by omega)
  cases e1
  simp only [Int.toNat_natCast] at hy0 hy1 hy2 hy3 hx0
  have hrd : rd_T67 jobs (i : Int) = jobs.getD i z67 := rfl
  have hrd1 : rd done (i : Int) = done.getD i 0 := rfl
  rw [hrd] at hy0 hy1 hy2 hy3
  rw [hrd1] at hx0
  have hu := Try.underlying124
  have huJ := Try.underlying67
  have q0 : 0 ≤ (i : Int) := by omega
  have q1 : (i : Int) < (jobs.length : Int) := by omega
  have q2 : (i : Int) < (done.length : Int) := by omega
  unfold rdyB
  obtain ⟨y, hy⟩ : ∃ y, y = jobs.getD i z67 := ⟨_, rfl⟩
  rw [← hy] at hy0 hy1 hy2 hy3 ⊢
  obtain ⟨x, hx⟩ : ∃ x, x = done.getD i 0 := ⟨_, rfl⟩
  rw [← hx] at hx0 ⊢
  clear hrd hrd1 hy hx hb hj hd hl
  obtain ⟨ya, yb, yc, yd⟩ := y
  simp only at hy0 hy1 hy2 hy3 ⊢
  by_cases d1 : yb ≤ now
  · have d1b : decide (yb ≤ now) = true := decide_eq_true d1
    rw [d1b]
    clear d1
    go_enter Try.func110, Try.ntmps110
    go_wp2_with fail
    go_quiet (fail)
    go_wp2
    go_ret
    exact ⟨by simp, _, rfl⟩
  · have d1b : decide (yb ≤ now) = false := decide_eq_false d1
    rw [d1b]
    clear d1
    go_enter Try.func110, Try.ntmps110
    go_wp2_with fail
    go_quiet (fail)
    go_wp2
    go_ret
    exact ⟨by simp, _, rfl⟩
set_option maxHeartbeats 2000000 in
set_option maxRecDepth 100000 in
theorem deadline_calls (g : Nat) (A : Option Addr) (c : Nat) (jobs : List (S67)) (D : Option Addr) (cd : Nat) (done : List Int) (now : Int) (i : Nat) (hi : i < jobs.length) (w : World) (h : MachR w g A c jobs D cd done now) :
    Calls Try.prog 112 #[.pointer (some ⟨g, 0, none⟩), .int .i64 (i : Int)] w fun e w' => e = .returned (.int .i64 (jobs.getD i z67).f2) ∧ ∃ m, w' = w.drewN m := by
  obtain ⟨hb, hj, hd, hl⟩ := h
  have hm0 : w.cell? ⟨g, 0, none⟩ = some (.slice A jobs.length c) := (blk_cell hb 0).trans rfl
  obtain ⟨ad0, e0, hy0, hy1, hy2, hy3⟩ := at_T67 hj (i : Int) (by omega) (by omega)
  cases e0
  simp only [Int.toNat_natCast] at hy0 hy1 hy2 hy3
  have hrd : rd_T67 jobs (i : Int) = jobs.getD i z67 := rfl
  rw [hrd] at hy0 hy1 hy2 hy3
  have hu := Try.underlying124
  have huJ := Try.underlying67
  have q0 : 0 ≤ (i : Int) := by omega
  have q1 : (i : Int) < (jobs.length : Int) := by omega
  obtain ⟨y, hy⟩ : ∃ y, y = jobs.getD i z67 := ⟨_, rfl⟩
  rw [← hy] at hy0 hy1 hy2 hy3 ⊢
  clear hrd hy hb hj hd hl
  obtain ⟨ya, yb, yc, yd⟩ := y
  go_enter Try.func112, Try.ntmps112
  go_wp2
  go_ret
  exact ⟨rfl, 0, rfl⟩
theorem any_calls (v : Value) (i : Int) (w : World) :
    Calls Try.prog 148 #[v, .int .i64 i] w fun e w' => e = .returned (.bool true) ∧ ∃ m, w' = w.drewN m := by
  go_enter Try.func148, Try.ntmps148
  go_wp2
  go_ret
  exact ⟨rfl, 0, rfl⟩
/-- The first of the candidates with the least key, among the first. -/
def bestN (ok : Nat → Bool) (key : Nat → Int) : Nat → Int
  | 0 => -1
  | j + 1 => if ok j && (decide (bestN ok key j < 0) || decide (key j < key (bestN ok key j).toNat)) then (j : Int) else bestN ok key j
theorem bestN_in (ok : Nat → Bool) (key : Nat → Int) : ∀ j, -1 ≤ bestN ok key j ∧ bestN ok key j < j
  | 0 => by simp [bestN]
  | j + 1 => by
    have := bestN_in ok key j
    unfold bestN
    split <;> omega
theorem bestN_ok (ok : Nat → Bool) (key : Nat → Int) : ∀ j, 0 ≤ bestN ok key j → ok (bestN ok key j).toNat = true
  | 0, h => by simp [bestN] at h
  | j + 1, h => by
    have ih := bestN_ok ok key j
    unfold bestN at h ⊢
    split
    · rename_i g
      rw [Bool.and_eq_true] at g
      simpa using g.1
    · rename_i g
      rw [if_neg g] at h
      exact ih h
set_option maxHeartbeats 4000000 in
set_option maxRecDepth 100000 in
theorem best_calls (g : Nat) (A : Option Addr) (c : Nat) (jobs : List (S67)) (D : Option Addr) (cd : Nat) (done : List Int) (now : Int) (w : World) (h : MachR w g A c jobs D cd done now) (key : Nat → Int) (may : Nat → Bool)
    (fk : FuncId) (k1 k2 : Array Value) {fnk : Func} (hfk : Try.prog.funcs[fk]? = some fnk) (hnk : (fnk.name == "runtime.NumGoroutine") = false) (hbk : fnk.body.isSome = true)
    (hck : ∀ (i n : Nat), i < jobs.length → Calls Try.prog fk (k1 ++ #[.int .i64 (i : Int)] ++ k2) (w.drewN n) fun e w' => e = .returned (.int .i64 (key i)) ∧ ∃ m, w' = (w.drewN n).drewN m)
    (fm : FuncId) (m1 m2 : Array Value) {fnm : Func} (hfm : Try.prog.funcs[fm]? = some fnm) (hnm : (fnm.name == "runtime.NumGoroutine") = false) (hbm : fnm.body.isSome = true)
    (hcm : ∀ (i n : Nat), i < jobs.length → Calls Try.prog fm (m1 ++ #[.int .i64 (i : Int)] ++ m2) (w.drewN n) fun e w' => e = .returned (.bool (may i)) ∧ ∃ m, w' = (w.drewN n).drewN m) :
    Calls Try.prog 111 #[.pointer (some ⟨g, 0, none⟩), .func (.func fk) k1 k2, .func (.func fm) m1 m2] w fun e w' => e = .returned (.int .i64 (bestN (fun i => rdyB jobs done now i && may i) key jobs.length)) ∧ ∃ m, w' = w.drewN m := by
  have HM := Aside0.mk h
  have hu := Try.underlying124
  have hm0 : w.cell? ⟨g, 0, none⟩ = some (.slice A jobs.length c) := (blk_cell h.1 0).trans rfl
  have hmx : jobs.length ≤ 9223372036854775807 := h.2.1.2.1
  have HFK := Aside0.mk hfk
  have HFM := Aside0.mk hfm
  have HCK := Aside0.mk hck
  have HCM := Aside0.mk hcm
  obtain ⟨B, hB⟩ : ∃ B, B = bestN (fun i => rdyB jobs done now i && may i) key := ⟨_, rfl⟩
  rw [← hB]
  have HIN : Hid (∀ j, -1 ≤ B j ∧ B j < j) := Lib.hid (by rw [hB]; exact bestN_in _ _)
  have HBS : Hid (∀ j, B (j + 1) = if (rdyB jobs done now j && may j) && (decide (B j < 0) || decide (key j < key (B j).toNat)) then (j : Int) else B j) := Lib.hid (fun j => by rw [hB]; rfl)
  have HB0 : Hid (B 0 = -1) := Lib.hid (by rw [hB]; rfl)
  clear h hfk hfm hck hcm hB
  go_enter Try.func111, Try.ntmps111
  go_wp2
  go_loopw [7, 14] (fun v7 v14 w' => ∃ j : Nat, v14 = .int .i64 j ∧ j ≤ jobs.length ∧ v7 = .int .i64 (B j) ∧ ∃ n, w' = w.drewN n) (fun v7 v14 _ => jobs.length - (intOf v14).toNat)
  case atStart => exact ⟨0, rfl, Nat.zero_le _, by rw [HB0.out], 0, rfl⟩
  case round =>
    obtain ⟨j, rfl, hj, rfl, n, rfl⟩ := hrel
    have hin := HIN.out j
    have hst := HBS.out j
    obtain ⟨b, hb⟩ : ∃ b, b = B j := ⟨_, rfl⟩
    rw [← hb] at hin hst ⊢
    by_cases hlt : j < jobs.length
    · have b1 : decide ((j : Int) < (jobs.length : Int)) = true := decide_eq_true (by omega)
      have hr0 := fun n => ready_calls g A c jobs D cd done now j hlt (w.drewN n) (HM.out.drewN n)
      cases hr : rdyB jobs done now j with
      | false =>
        have HN : Hid (B (j + 1) = b) := Lib.hid (by rw [hst, hr]; rfl)
        have HRDY : Hid (∀ n, Calls Try.prog 110 #[.pointer (some ⟨g, 0, none⟩), .int .i64 (j : Int)] (w.drewN n) fun e w' => e = .returned (.bool false) ∧ ∃ m, w' = (w.drewN n).drewN m) := Lib.hid (fun n => by rw [← hr]; exact hr0 n)
        clear hst hr hr0 hin hb
        go_wp2_with ((go_at_call 110; refine (HRDY.out _).mono ?_; rintro e w2 ⟨rfl, mm, rfl⟩; rw [World.drewN_drewN]))
        ((go_roundw; (case rel => exact ⟨j + 1, by go_num, by omega, by rw [HN.out], _, rfl⟩); (case measure => simp [intOf]; omega)))
      | true =>
        have HRDY : Hid (∀ n, Calls Try.prog 110 #[.pointer (some ⟨g, 0, none⟩), .int .i64 (j : Int)] (w.drewN n) fun e w' => e = .returned (.bool true) ∧ ∃ m, w' = (w.drewN n).drewN m) := Lib.hid (fun n => by rw [← hr]; exact hr0 n)
        cases hy : may j with
        | false =>
          have HN : Hid (B (j + 1) = b) := Lib.hid (by rw [hst, hr, hy]; rfl)
          have HMAY : Hid (∀ n, Calls Try.prog fm (m1 ++ #[.int .i64 (j : Int)] ++ m2) (w.drewN n) fun e w' => e = .returned (.bool false) ∧ ∃ m, w' = (w.drewN n).drewN m) := Lib.hid (fun n => by rw [← hy]; exact HCM.out j n hlt)
          clear hst hr hr0 hin hb hy
          go_wp2_with (first | ((go_at_call 110; refine (HRDY.out _).mono ?_; rintro e w2 ⟨rfl, mm, rfl⟩; rw [World.drewN_drewN])) | ((with_reducible refine gate_value (n := 21) rfl ?_; refine gate_guard (by first | rfl | (go_simp; done) | (simp [go_sem]; done)) ?_; dsimp only; go_must (refine goesF_ (some 23) rfl rfl rfl rfl HFM.out hnm hbm (m1 ++ #[.int .i64 (j : Int)] ++ m2) (by simp [Act.eval]) ?_; refine (HMAY.out _).mono ?_; rintro e w2 ⟨rfl, mm, rfl⟩; rw [World.drewN_drewN]; refine ⟨_, rfl, ?_⟩))))
          ((go_roundw; (case rel => exact ⟨j + 1, by go_num, by omega, by rw [HN.out], _, rfl⟩); (case measure => simp [intOf]; omega)))
        | true =>
          have HMAY : Hid (∀ n, Calls Try.prog fm (m1 ++ #[.int .i64 (j : Int)] ++ m2) (w.drewN n) fun e w' => e = .returned (.bool true) ∧ ∃ m, w' = (w.drewN n).drewN m) := Lib.hid (fun n => by rw [← hy]; exact HCM.out j n hlt)
          by_cases hneg : b < 0
          · have hnb : decide (b < 0) = true := decide_eq_true hneg
            have HN : Hid (B (j + 1) = (j : Int)) := Lib.hid (by rw [hst, hr, hy, hnb]; rfl)
            clear hst hr hr0 hin hb hy hneg
            go_wp2_with (first | ((go_at_call 110; refine (HRDY.out _).mono ?_; rintro e w2 ⟨rfl, mm, rfl⟩; rw [World.drewN_drewN])) | ((with_reducible refine gate_value (n := 21) rfl ?_; refine gate_guard (by first | rfl | (go_simp; done) | (simp [go_sem]; done)) ?_; dsimp only; go_must (refine goesF_ (some 23) rfl rfl rfl rfl HFM.out hnm hbm (m1 ++ #[.int .i64 (j : Int)] ++ m2) (by simp [Act.eval]) ?_; refine (HMAY.out _).mono ?_; rintro e w2 ⟨rfl, mm, rfl⟩; rw [World.drewN_drewN]; refine ⟨_, rfl, ?_⟩))))
            ((go_roundw; (case rel => exact ⟨j + 1, by go_num, by omega, by rw [HN.out], _, rfl⟩); (case measure => simp [intOf]; omega)))
          · have hnb : decide (b < 0) = false := decide_eq_false hneg
            have HKA : Hid (∀ n, Calls Try.prog fk (k1 ++ #[.int .i64 (j : Int)] ++ k2) (w.drewN n) fun e w' => e = .returned (.int .i64 (key j)) ∧ ∃ m, w' = (w.drewN n).drewN m) := Lib.hid (fun n => HCK.out j n hlt)
            have HKB : Hid (∀ n, Calls Try.prog fk (k1 ++ #[.int .i64 b] ++ k2) (w.drewN n) fun e w' => e = .returned (.int .i64 (key b.toNat)) ∧ ∃ m, w' = (w.drewN n).drewN m) := Lib.hid (fun n => by
              have hbe : b = ((b.toNat : Nat) : Int) := by omega
              have := HCK.out b.toNat n (by omega)
              rw [← hbe] at this
              exact this)
            by_cases hk : key j < key b.toNat
            · have hkb : decide (key j < key b.toNat) = true := decide_eq_true hk
              have HN : Hid (B (j + 1) = (j : Int)) := Lib.hid (by rw [hst, hr, hy, hkb]; simp)
              clear hst hr hr0 hin hb hy hneg hk
              go_wp2_with (first | ((go_at_call 110; refine (HRDY.out _).mono ?_; rintro e w2 ⟨rfl, mm, rfl⟩; rw [World.drewN_drewN])) | ((with_reducible refine gate_value (n := 21) rfl ?_; refine gate_guard (by first | rfl | (go_simp; done) | (simp [go_sem]; done)) ?_; dsimp only; go_must (refine goesF_ (some 23) rfl rfl rfl rfl HFM.out hnm hbm (m1 ++ #[.int .i64 (j : Int)] ++ m2) (by simp [Act.eval]) ?_; refine (HMAY.out _).mono ?_; rintro e w2 ⟨rfl, mm, rfl⟩; rw [World.drewN_drewN]; refine ⟨_, rfl, ?_⟩))) | ((with_reducible refine gate_value (n := 29) rfl ?_; refine gate_guard (by first | rfl | (go_simp; done) | (simp [go_sem]; done)) ?_; dsimp only; go_must (refine goesF_ (some 31) rfl rfl rfl rfl HFK.out hnk hbk (k1 ++ #[.int .i64 (j : Int)] ++ k2) (by simp [Act.eval]) ?_; refine (HKA.out _).mono ?_; rintro e w2 ⟨rfl, mm, rfl⟩; rw [World.drewN_drewN]; refine ⟨_, rfl, ?_⟩))) | ((with_reducible refine gate_value (n := 32) rfl ?_; refine gate_guard (by first | rfl | (go_simp; done) | (simp [go_sem]; done)) ?_; dsimp only; go_must (refine goesF_ (some 34) rfl rfl rfl rfl HFK.out hnk hbk (k1 ++ #[.int .i64 b] ++ k2) (by simp [Act.eval]) ?_; refine (HKB.out _).mono ?_; rintro e w2 ⟨rfl, mm, rfl⟩; rw [World.drewN_drewN]; refine ⟨_, rfl, ?_⟩))))
              ((go_roundw; (case rel => exact ⟨j + 1, by go_num, by omega, by rw [HN.out], _, rfl⟩); (case measure => simp [intOf]; omega)))
            · have hkb : decide (key j < key b.toNat) = false := decide_eq_false hk
              have HN : Hid (B (j + 1) = b) := Lib.hid (by rw [hst, hr, hy, hnb, hkb]; rfl)
              clear hst hr hr0 hin hb hy hneg hk
              go_wp2_with (first | ((go_at_call 110; refine (HRDY.out _).mono ?_; rintro e w2 ⟨rfl, mm, rfl⟩; rw [World.drewN_drewN])) | ((with_reducible refine gate_value (n := 21) rfl ?_; refine gate_guard (by first | rfl | (go_simp; done) | (simp [go_sem]; done)) ?_; dsimp only; go_must (refine goesF_ (some 23) rfl rfl rfl rfl HFM.out hnm hbm (m1 ++ #[.int .i64 (j : Int)] ++ m2) (by simp [Act.eval]) ?_; refine (HMAY.out _).mono ?_; rintro e w2 ⟨rfl, mm, rfl⟩; rw [World.drewN_drewN]; refine ⟨_, rfl, ?_⟩))) | ((with_reducible refine gate_value (n := 29) rfl ?_; refine gate_guard (by first | rfl | (go_simp; done) | (simp [go_sem]; done)) ?_; dsimp only; go_must (refine goesF_ (some 31) rfl rfl rfl rfl HFK.out hnk hbk (k1 ++ #[.int .i64 (j : Int)] ++ k2) (by simp [Act.eval]) ?_; refine (HKA.out _).mono ?_; rintro e w2 ⟨rfl, mm, rfl⟩; rw [World.drewN_drewN]; refine ⟨_, rfl, ?_⟩))) | ((with_reducible refine gate_value (n := 32) rfl ?_; refine gate_guard (by first | rfl | (go_simp; done) | (simp [go_sem]; done)) ?_; dsimp only; go_must (refine goesF_ (some 34) rfl rfl rfl rfl HFK.out hnk hbk (k1 ++ #[.int .i64 b] ++ k2) (by simp [Act.eval]) ?_; refine (HKB.out _).mono ?_; rintro e w2 ⟨rfl, mm, rfl⟩; rw [World.drewN_drewN]; refine ⟨_, rfl, ?_⟩))))
              ((go_roundw; (case rel => exact ⟨j + 1, by go_num, by omega, by rw [HN.out], _, rfl⟩); (case measure => simp [intOf]; omega)))
    · have b1 : decide ((j : Int) < (jobs.length : Int)) = false := decide_eq_false (by omega)
      have hje : j = jobs.length := by omega
      subst hje
      have HBE := Lib.hid hb
      clear hst hin hb
      go_wp2
      go_ret
      exact ⟨by rw [← HBE.out]; rfl, _, rfl⟩
set_option maxHeartbeats 1000000 in
theorem edf_calls (g : Nat) (A : Option Addr) (c : Nat) (jobs : List (S67)) (D : Option Addr) (cd : Nat) (done : List Int) (now : Int) (w : World) (h : MachR w g A c jobs D cd done now) :
    Calls Try.prog 82 #[.pointer (some ⟨g, 0, none⟩)] w fun e w' => e = .returned (.int .i64 (bestN (rdyB jobs done now) (fun i => (jobs.getD i z67).f2) jobs.length)) ∧ ∃ m, w' = w.drewN m := by
  have hmf : ∀ (fn : Fn) (first cap : Array Value) (w : World), (Instr.makeFunc fn first cap).run Try.prog w = .ok (.func fn first cap) w := fun _ _ _ _ => rfl
  have H := Lib.hid (best_calls g A c jobs D cd done now w h (fun i => (jobs.getD i z67).f2) (fun _ => true) 112 #[.pointer (some ⟨g, 0, none⟩)] #[] Try.func112 (by kernel_rfl) rfl
    (fun i n hi => deadline_calls g A c jobs D cd done now i hi (w.drewN n) (h.drewN n)) 148 #[.pointer (some ⟨g, 0, none⟩)] #[] Try.func148 (by kernel_rfl) rfl (fun i n hi => any_calls _ i (w.drewN n)))
  have he : (fun i => rdyB jobs done now i && true) = rdyB jobs done now := by funext i; simp
  have HE := Lib.hid he
  clear h he
  go_enter Try.func82, Try.ntmps82
  go_wp2_with (go_at_call 111; refine H.out.mono ?_; rw [HE.out]; rintro e w2 ⟨rfl, m, rfl⟩)
  go_ret
  exact ⟨rfl, _, rfl⟩

open Go.Proofs.Ytonifhkplniblaa.Walk
set_option maxHeartbeats 2000000 in
set_option maxRecDepth 100000 in
theorem newMachine_calls (A : Option Addr) (c : Nat) (jobs : List (S67)) (w : World) (hl : jobs.length ≤ 1000000) :
    Calls Try.prog 118 #[.slice A jobs.length c] w fun e w' => ∃ (g : Nat) (dv : Value), e = .returned (.pointer (some ⟨g, 0, none⟩)) ∧ w.heap.size ≤ g ∧ w'.heap[g]? = some (.cells #[.slice A jobs.length c, dv, .int .i64 0] 124 (0, 0)) ∧ Kd.R (Kd.int .i64) 3 w' w.heap.size (fun _ => True) dv (List.replicate jobs.length 0) ∧ Below w.heap.size w w' := by
  have hu := Try.underlying124
  have HB := Aside0.mk (Below.refl w.heap.size w)
  have n0 : (0 : Int) ≤ (jobs.length : Int) := by omega
  go_enter Try.func118, Try.ntmps118
  go_wp2_with (first | ((with_reducible refine gate_dst (N := 6) rfl ?_); refine Kd.R_make (Kd.int .i64) _ 3 rfl (N := 6) rfl 30 _ _ rfl (jobs.length : Int) rfl rfl Try.underlying30 (.int .i64 0) 8 info3 rfl (by decide) (by omega) 0 (ok := fun _ => True) (okp := fun _ => True) rfl (fun _ hk => hk) trivial n0 (by simp only [Int.toNat_natCast]; omega) (Below.refl _ _) (Nat.le_refl _) ?_; intro v103 w11 ho12 hb hg_ hnew_; clear hg_ hnew_; simp only [Int.toNat_natCast] at ho12; have n0_ := Aside0.mk ho12; have n1_ := Aside0.mk (below_step (by repeat (first | (with_reducible first | exact HB.out | apply below_alloc | apply pw_below_drewN | apply below_drew1) | exact HB.out)) hb); clear HB; have HO := n0_; have HB := n1_; clear n0_ n1_; clear hb ho12; obtain ⟨Ad, cd, ed⟩ := Kd.R_slice HO.out; have hln : (List.replicate jobs.length (0 : Int)).length = jobs.length := List.length_replicate; rw [hln] at ed; subst ed; clear hln) | ((with_reducible refine gate_dst (N := 8) rfl ?_); refine box_event ?hg (N := 8) ?hd (cs := #[.slice A jobs.length c, .slice Ad jobs.length cd, .int .i64 0]) (t := 124) ?hr ?_; (case hd => rfl); (case hg => rfl); (case hr => first | (go_simp; done) | (go_simp; rfl)); intro g hg w2 hbox hb2; have HG := Aside0.mk hg; have HBX := Aside0.mk hbox; have HB2 := Aside0.mk hb2; clear hg hbox hb2))
  go_ret
  exact ⟨g, .slice Ad jobs.length cd, rfl, by rw [HG.out]; exact HB.out.size, HBX.out, Kd.R_below HO.out HB2.out, below_step HB.out HB2.out⟩

open Go.Proofs.Ytonifhkplniblaa.Walk
section
variable {w00 w W W2 : World} {S : Nat → Prop} {g go g4 : Nat} {A : Option Addr} {c : Nat} {jobs : List (S67)} {dv rv fv : Value} {done run fin : List Int} {now : Int}
/-- Which blocks are apart. -/
def SimD (w : World) (g go g4 : Nat) (dv rv fv : Value) : Prop :=
  w.heap.size ≤ g ∧ w.heap.size ≤ go ∧ w.heap.size ≤ g4 ∧ go ≠ g4 ∧ (∀ k, dv.ownBlock = some k → rv.ownBlock ≠ some k ∧ fv.ownBlock ≠ some k) ∧ (∀ k, rv.ownBlock = some k → fv.ownBlock ≠ some k)
/-- What a simulation holds in memory. -/
def SimI (w00 w : World) (S : Nat → Prop) (g go g4 : Nat) (A : Option Addr) (c : Nat) (jobs : List (S67)) (dv rv fv : Value) (W : World) (done run fin : List Int) (now : Int) : Prop :=
  W.heap[g]? = some (.cells #[.slice A jobs.length c, dv, .int .i64 now] 124 (0, 0)) ∧ W.heap[go]? = some (.cells #[rv, fv] 32 (0, 0)) ∧ W.heap[g4]? = some (.cells #[.slice none 0 0, .slice none 0 0] 32 (0, 0)) ∧
  Kd.R (Kd.int .i64) 3 W w.heap.size (fun _ => True) dv done ∧ Kd.R (Kd.int .i64) 3 W w.heap.size (fun _ => True) rv run ∧ Kd.R (Kd.int .i64) 3 W w.heap.size (fun _ => True) fv fin ∧ Kept w W S ∧ Below w00.heap.size w00 W
theorem row_step {v : Value} {xs : List Int} {base : Nat} (h : Kd.R (Kd.int .i64) 3 W base (fun _ => True) v xs) (hm : ∀ k, v.ownBlock = some k → k < W.heap.size → W2.heap[k]? = W.heap[k]?) : Kd.R (Kd.int .i64) 3 W2 base (fun _ => True) v xs :=
  Kd.R_mono (Kd.R_step (Kd.R_tight rfl h) (fun k hk hlt => hm k hk.symm hlt)) (fun _ _ => trivial)
theorem SimI.keep (h : SimI w00 w S g go g4 A c jobs dv rv fv W done run fin now) (hD : SimD w g go g4 dv rv fv) (hS : ∀ k, S k → k < w.heap.size) (hk : Kept W W2 S) (hb : Below w00.heap.size W W2) : SimI w00 w S g go g4 A c jobs dv rv fv W2 done run fin now := by
  obtain ⟨h1, h2, h3, h4, h5, h6, h7, h8⟩ := h
  obtain ⟨d1, d2, d3, _⟩ := hD
  have hn : ∀ k, w.heap.size ≤ k → ¬ S k := fun k hk h => by have := hS k h; omega
  refine ⟨blk_kept h1 hk (hn _ d1), blk_kept h2 hk (hn _ d2), blk_kept h3 hk (hn _ d3), ?_, ?_, ?_, h7.then_ hk (fun k h => .inl h), h8.trans hb⟩
  · exact row_step h4 (fun k e hlt => hk.2 k hlt (hn k (Kd.R_base h4 k e)))
  · exact row_step h5 (fun k e hlt => hk.2 k hlt (hn k (Kd.R_base h5 k e)))
  · exact row_step h6 (fun k e hlt => hk.2 k hlt (hn k (Kd.R_base h6 k e)))
theorem SimI.drewN (h : SimI w00 w S g go g4 A c jobs dv rv fv W done run fin now) (n : Nat) : SimI w00 w S g go g4 A c jobs dv rv fv (W.drewN n) done run fin now := by
  obtain ⟨h1, h2, h3, h4, h5, h6, h7, h8⟩ := h
  exact ⟨h1, h2, h3, Kd.R_drewN h4 n, Kd.R_drewN h5 n, Kd.R_drewN h6 n, h7.drewN n, pw_below_drewN h8 n⟩
theorem SimI.drew (h : SimI w00 w S g go g4 A c jobs dv rv fv W done run fin now) : SimI w00 w S g go g4 A c jobs dv rv fv W.drew done run fin now := by
  obtain ⟨h1, h2, h3, h4, h5, h6, h7, h8⟩ := h
  exact ⟨h1, h2, h3, Kd.R_drew h4, Kd.R_drew h5, Kd.R_drew h6, h7.drew, below_drew h8⟩
theorem SimI.setRun {gr n cr : Nat} (h : SimI w00 w S g go g4 A c jobs dv (.slice (some ⟨gr, 0, none⟩) n cr) fv W done run fin now) (hD : SimD w g go g4 dv (.slice (some ⟨gr, 0, none⟩) n cr) fv) (h0 : w00.heap.size ≤ w.heap.size) (i : Int) (x : Int) :
    SimI w00 w S g go g4 A c jobs dv (.slice (some ⟨gr, 0, none⟩) n cr) fv (W.setCell ⟨gr, i.toNat, none⟩ (.int .i64 x)) done (run.set i.toNat x) fin now := by
  obtain ⟨h1, h2, h3, h4, h5, h6, h7, h8⟩ := h
  obtain ⟨d1, d2, d3, d4, d5, d6⟩ := hD
  obtain ⟨p1, p2⟩ := Kd.R_putg h5 i x
  have hgr : w.heap.size ≤ gr := Kd.R_base h5 gr rfl
  have e1 : gr ≠ g := fun e => Kd.R_ne h5 h1 (by decide) (by rw [← e]; rfl)
  have e2 : gr ≠ go := fun e => Kd.R_ne h5 h2 (by decide) (by rw [← e]; rfl)
  have e3 : gr ≠ g4 := fun e => Kd.R_ne h5 h3 (by decide) (by rw [← e]; rfl)
  refine ⟨blk_far h1 e1.symm _, blk_far h2 e2.symm _, blk_far h3 e3.symm _, row_step h4 (fun k e hlt => Below.heap_setCell _ _ _ k (fun e' => (d5 k e).1 (by rw [e']; rfl))), p1, row_step h6 (fun k e hlt => Below.heap_setCell _ _ _ k (fun e' => d6 gr rfl (by rw [e, e']))), h7.setCell (.inr hgr) _, h8.setCell (Nat.le_trans h0 hgr) _⟩
theorem SimI.setDone {gr n cr : Nat} (h : SimI w00 w S g go g4 A c jobs (.slice (some ⟨gr, 0, none⟩) n cr) rv fv W done run fin now) (hD : SimD w g go g4 (.slice (some ⟨gr, 0, none⟩) n cr) rv fv) (h0 : w00.heap.size ≤ w.heap.size) (i : Int) (x : Int) :
    SimI w00 w S g go g4 A c jobs (.slice (some ⟨gr, 0, none⟩) n cr) rv fv (W.setCell ⟨gr, i.toNat, none⟩ (.int .i64 x)) (done.set i.toNat x) run fin now := by
  obtain ⟨h1, h2, h3, h4, h5, h6, h7, h8⟩ := h
  obtain ⟨d1, d2, d3, d4, d5, d6⟩ := hD
  obtain ⟨p1, p2⟩ := Kd.R_putg h4 i x
  have hgr : w.heap.size ≤ gr := Kd.R_base h4 gr rfl
  have e1 : gr ≠ g := fun e => Kd.R_ne h4 h1 (by decide) (by rw [← e]; rfl)
  have e2 : gr ≠ go := fun e => Kd.R_ne h4 h2 (by decide) (by rw [← e]; rfl)
  have e3 : gr ≠ g4 := fun e => Kd.R_ne h4 h3 (by decide) (by rw [← e]; rfl)
  refine ⟨blk_far h1 e1.symm _, blk_far h2 e2.symm _, blk_far h3 e3.symm _, p1, row_step h5 (fun k e hlt => Below.heap_setCell _ _ _ k (fun e' => (d5 gr rfl).1 (by rw [e, e']))), row_step h6 (fun k e hlt => Below.heap_setCell _ _ _ k (fun e' => (d5 gr rfl).2 (by rw [e, e']))), h7.setCell (.inr hgr) _, h8.setCell (Nat.le_trans h0 hgr) _⟩
theorem SimI.setFin {gr n cr : Nat} (h : SimI w00 w S g go g4 A c jobs dv rv (.slice (some ⟨gr, 0, none⟩) n cr) W done run fin now) (hD : SimD w g go g4 dv rv (.slice (some ⟨gr, 0, none⟩) n cr)) (h0 : w00.heap.size ≤ w.heap.size) (i : Int) (x : Int) :
    SimI w00 w S g go g4 A c jobs dv rv (.slice (some ⟨gr, 0, none⟩) n cr) (W.setCell ⟨gr, i.toNat, none⟩ (.int .i64 x)) done run (fin.set i.toNat x) now := by
  obtain ⟨h1, h2, h3, h4, h5, h6, h7, h8⟩ := h
  obtain ⟨d1, d2, d3, d4, d5, d6⟩ := hD
  obtain ⟨p1, p2⟩ := Kd.R_putg h6 i x
  have hgr : w.heap.size ≤ gr := Kd.R_base h6 gr rfl
  have e1 : gr ≠ g := fun e => Kd.R_ne h6 h1 (by decide) (by rw [← e]; rfl)
  have e2 : gr ≠ go := fun e => Kd.R_ne h6 h2 (by decide) (by rw [← e]; rfl)
  have e3 : gr ≠ g4 := fun e => Kd.R_ne h6 h3 (by decide) (by rw [← e]; rfl)
  refine ⟨blk_far h1 e1.symm _, blk_far h2 e2.symm _, blk_far h3 e3.symm _, row_step h4 (fun k e hlt => Below.heap_setCell _ _ _ k (fun e' => (d5 k e).2 (by rw [e']; rfl))), row_step h5 (fun k e hlt => Below.heap_setCell _ _ _ k (fun e' => d6 k e (by rw [e']; rfl))), p1, h7.setCell (.inr hgr) _, h8.setCell (Nat.le_trans h0 hgr) _⟩
theorem SimI.setNow (h : SimI w00 w S g go g4 A c jobs dv rv fv W done run fin now) (hD : SimD w g go g4 dv rv fv) (h0 : w00.heap.size ≤ w.heap.size) (x : Int) :
    SimI w00 w S g go g4 A c jobs dv rv fv (W.setCell ⟨g, 2, none⟩ (.int .i64 x)) done run fin x := by
  obtain ⟨h1, h2, h3, h4, h5, h6, h7, h8⟩ := h
  obtain ⟨d1, d2, d3, d4, d5, d6⟩ := hD
  have e2 : go ≠ g := fun e => by rw [e, h1] at h2; injection h2 with h2; injection h2 with _ h2; cases h2
  have e3 : g4 ≠ g := fun e => by rw [e, h1] at h3; injection h3 with h3; injection h3 with _ h3; cases h3
  refine ⟨blk_put h1 2 _ rfl, blk_far h2 e2 _, blk_far h3 e3 _, row_step h4 (fun k e hlt => Below.heap_setCell _ _ _ k (fun e' => Kd.R_ne h4 h1 (by decide) (by rw [e, e']))), row_step h5 (fun k e hlt => Below.heap_setCell _ _ _ k (fun e' => Kd.R_ne h5 h1 (by decide) (by rw [e, e']))), row_step h6 (fun k e hlt => Below.heap_setCell _ _ _ k (fun e' => Kd.R_ne h6 h1 (by decide) (by rw [e, e']))), h7.setCell (.inr d1) _, h8.setCell (Nat.le_trans h0 d1) _⟩
/-- Behind the two stores into the result. -/
theorem SimI.out (h : SimI w00 w S g go g4 A c jobs dv rv fv W done run fin now) (hD : SimD w g go g4 dv rv fv) (h0 : w00.heap.size ≤ w.heap.size) (a b : Value) :
    Kd.R (Kd.int .i64) 3 ((W.setCell ⟨g4, 0, none⟩ a).setCell ⟨g4, 1, none⟩ b) w.heap.size (fun k_ => some k_ ≠ fv.ownBlock) rv run ∧ Kd.R (Kd.int .i64) 3 ((W.setCell ⟨g4, 0, none⟩ a).setCell ⟨g4, 1, none⟩ b) w.heap.size (fun k_ => some k_ ≠ rv.ownBlock) fv fin ∧
    Below w00.heap.size w00 ((W.setCell ⟨g4, 0, none⟩ a).setCell ⟨g4, 1, none⟩ b) ∧ Kept w ((W.setCell ⟨g4, 0, none⟩ a).setCell ⟨g4, 1, none⟩ b) S := by
  obtain ⟨h1, h2, h3, h4, h5, h6, h7, h8⟩ := h
  obtain ⟨d1, d2, d3, d4, d5, d6⟩ := hD
  have far : ∀ k, k ≠ g4 → ((W.setCell ⟨g4, 0, none⟩ a).setCell ⟨g4, 1, none⟩ b).heap[k]? = W.heap[k]? := fun k hk => (Below.heap_setCell _ _ _ k hk).trans (Below.heap_setCell _ _ _ k hk)
  refine ⟨Kd.R_reok rfl (row_step h5 (fun k e hlt => far k (fun e' => Kd.R_ne h5 h3 (by decide) (by rw [e, e'])))) (fun k hk h => d6 k hk h.symm), Kd.R_reok rfl (row_step h6 (fun k e hlt => far k (fun e' => Kd.R_ne h6 h3 (by decide) (by rw [e, e'])))) (fun k hk h => d6 k h.symm hk), (h8.setCell (Nat.le_trans h0 d3) _).setCell (Nat.le_trans h0 d3) _, (h7.setCell (.inr d3) _).setCell (.inr d3) _⟩
end
section
variable {σ : Type}
/-- One tick of a simulation: what the pick has kept, how long each job has run, the jobs that ran, when they were finished. -/
def simStep (jobs : List (S67)) (pick : σ → List Int → Nat → Int × σ) (t : Nat) (x : σ × List Int × List Int × List Int) : σ × List Int × List Int × List Int :=
  if (pick x.1 x.2.1 t).1 < 0 then ((pick x.1 x.2.1 t).2, x.2.1, x.2.2.1.set t (pick x.1 x.2.1 t).1, x.2.2.2)
  else if x.2.1.getD (pick x.1 x.2.1 t).1.toNat 0 + 1 = (jobs.getD (pick x.1 x.2.1 t).1.toNat z67).f3 then
    ((pick x.1 x.2.1 t).2, x.2.1.set (pick x.1 x.2.1 t).1.toNat (x.2.1.getD (pick x.1 x.2.1 t).1.toNat 0 + 1), x.2.2.1.set t (pick x.1 x.2.1 t).1, x.2.2.2.set (pick x.1 x.2.1 t).1.toNat ((t : Int) + 1))
  else ((pick x.1 x.2.1 t).2, x.2.1.set (pick x.1 x.2.1 t).1.toNat (x.2.1.getD (pick x.1 x.2.1 t).1.toNat 0 + 1), x.2.2.1.set t (pick x.1 x.2.1 t).1, x.2.2.2)
def simN (jobs : List (S67)) (pick : σ → List Int → Nat → Int × σ) (s0 : σ) : Nat → σ × List Int × List Int × List Int
  | 0 => (s0, List.replicate jobs.length 0, List.replicate 120 (-1), List.replicate jobs.length (-1))
  | t + 1 => simStep jobs pick t (simN jobs pick s0 t)
/-- What a pick may answer. -/
def PickOk (jobs : List (S67)) (pick : σ → List Int → Nat → Int × σ) : Prop := ∀ s done t, done.length = jobs.length →
  -1 ≤ (pick s done t).1 ∧ (pick s done t).1 < jobs.length ∧ (0 ≤ (pick s done t).1 → done.getD (pick s done t).1.toNat 0 < (jobs.getD (pick s done t).1.toNat z67).f3)
theorem simN_len {jobs : List (S67)} {pick : σ → List Int → Nat → Int × σ} {s0 : σ} : ∀ t, (simN jobs pick s0 t).2.1.length = jobs.length ∧ (simN jobs pick s0 t).2.2.1.length = 120 ∧ (simN jobs pick s0 t).2.2.2.length = jobs.length
  | 0 => by simp [simN]
  | t + 1 => by
    have := simN_len (jobs := jobs) (pick := pick) (s0 := s0) t
    unfold simN simStep
    split
    · simpa using this
    · split <;> simpa using this
theorem getD_set' (l : List Int) (i j : Nat) (x : Int) : (l.set i x).getD j 0 = if i = j ∧ j < l.length then x else l.getD j 0 := by
  rw [List.getD_eq_getElem?_getD, List.getD_eq_getElem?_getD, List.getElem?_set]
  split
  · rename_i e
    split
    · rename_i h; rw [if_pos ⟨e, by omega⟩]; rfl
    · rename_i h; rw [if_neg (by omega), List.getElem?_eq_none (by omega)]
  · rename_i e; rw [if_neg (by omega)]
theorem simN_done {jobs : List (S67)} {pick : σ → List Int → Nat → Int × σ} {s0 : σ} (hp : PickOk jobs pick) (hex : ∀ i, i < jobs.length → (jobs.getD i z67).f3 ≤ 8) :
    ∀ t i, 0 ≤ (simN jobs pick s0 t).2.1.getD i 0 ∧ (simN jobs pick s0 t).2.1.getD i 0 ≤ 8
  | 0, i => by
    unfold simN
    simp only [List.getD_eq_getElem?_getD, List.getElem?_replicate]
    split <;> simp
  | t + 1, i => by
    have ih := simN_done hp hex (s0 := s0) t
    have hl := simN_len (jobs := jobs) (pick := pick) (s0 := s0) t
    have hr := hp (simN jobs pick s0 t).1 (simN jobs pick s0 t).2.1 t hl.1
    obtain ⟨x, hx⟩ : ∃ x, x = simN jobs pick s0 t := ⟨_, rfl⟩
    rw [← hx] at ih hr
    unfold simN
    rw [← hx]
    unfold simStep
    split
    · exact ih i
    · rename_i hneg
      have h3 := hr.2.2 (by omega)
      have h4 := hex (pick x.1 x.2.1 t).1.toNat (by omega)
      have h5 := ih (pick x.1 x.2.1 t).1.toNat
      have h6 := ih i
      split <;> (simp only [getD_set']; split <;> omega)
end
set_option maxHeartbeats 4000000 in
set_option maxRecDepth 100000 in
theorem simulate_calls {σ : Type} (Inv : World → σ → Prop) (pick : σ → List Int → Nat → Int × σ) (s0 : σ) (S : Nat → Prop) (w00 w : World) (hw : Below w00.heap.size w00 w) (hS : ∀ k, S k → k < w.heap.size)
    (A : Option Addr) (c : Nat) (jobs : List (S67)) (hj : Kd.C k67 w00 A jobs.length jobs) (hc : jobs.length ≤ c) (hlen : jobs.length ≤ 60) (hex : ∀ i, i < jobs.length → (jobs.getD i z67).f3 ≤ 8)
    (fp : FuncId) (p1 p2 : Array Value) {fnp : Func} (hfp : Try.prog.funcs[fp]? = some fnp) (hname : (fnp.name == "runtime.NumGoroutine") = false) (hbody : fnp.body.isSome = true)
    (hinv0 : Inv w s0) (hst : ∀ W W' s, Inv W s → (∀ k, k < w.heap.size → W'.heap[k]? = W.heap[k]?) → W.heap.size ≤ W'.heap.size → Inv W' s) (hok : PickOk jobs pick)
    (hp : ∀ (g : Nat) (D : Option Addr) (cd : Nat) (W : World) (s : σ) (done : List Int) (t : Nat), t < 120 → Inv W s → MachR W g A c jobs D cd done t → w.heap.size ≤ g → Below w00.heap.size w00 W → w.heap.size ≤ W.heap.size →
      Calls Try.prog fp (p1 ++ #[.pointer (some ⟨g, 0, none⟩)] ++ p2) W fun e w' => e = .returned (.int .i64 (pick s done t).1) ∧ Inv w' (pick s done t).2 ∧ Kept W w' S ∧ Below w00.heap.size W w') :
    Calls Try.prog 80 #[.slice A jobs.length c, .func (.func fp) p1 p2] w fun e w' => ∃ v0_ v1_ : Value, e = .returned (.agg #[v0_, v1_]) ∧ Kd.R (Kd.int .i64) 3 w' w.heap.size (fun k_ => some k_ ≠ (v1_ : Value).ownBlock) v0_ (simN jobs pick s0 120).2.2.1 ∧
      Kd.R (Kd.int .i64) 3 w' w.heap.size (fun k_ => some k_ ≠ (v0_ : Value).ownBlock) v1_ (simN jobs pick s0 120).2.2.2 ∧ Below w00.heap.size w00 w' ∧ Kept w w' S ∧ Inv w' (simN jobs pick s0 120).1 := by
  have hu := Try.underlying32
  have huM := Try.underlying124
  have huJ := Try.underlying67
  have h00 := hw.size
  have hB4 := below_alloc (Below.refl w.heap.size w) (.cells #[.slice none 0 0, .slice none 0 0] 32)
  have h4 := blk_new w (.cells #[.slice none 0 0, .slice none 0 0] 32)
  have HF := Aside0.mk hfp
  have HJ := Aside0.mk hj
  have HS := Aside0.mk hS
  have HW := Aside0.mk hw
  have H4 := Aside0.mk h4
  have HB4 := Aside0.mk hB4
  have HP0 := Aside0.mk hp
  have HV0 := Aside0.mk hinv0
  have HST := Aside0.mk hst
  have HOK := Aside0.mk hok
  have HEX := Aside0.mk hex
  have HNM := Lib.hid (fun W => newMachine_calls A c jobs W (by omega))
  have HN1 := Lib.hid (fun W => impl_none.calls 120 (List.replicate 120 (-1)) W rfl)
  have HN2 := Lib.hid (fun W => impl_none.calls jobs.length (List.replicate jobs.length (-1)) W (by unfold impl_none.f; rw [if_pos (by omega)]; simp))
  clear hfp hj hS hw h4 hB4 hp hinv0 hst hok hex
  go_enter Try.func80, Try.ntmps80
  go_wp2_with (first | (go_at_call 118; refine (HNM.out _).mono ?_; rintro e w1 ⟨g, dv, rfl, hg, hbm, hrd, hb1⟩; obtain ⟨Ad, cd, ed⟩ := Kd.R_slice hrd; rw [show (List.replicate jobs.length (0 : Int)).length = jobs.length from List.length_replicate] at ed; subst ed; have HG := Lib.hid hg; have HBM := Lib.hid hbm; have HRD := Lib.hid hrd; have HB1 := Lib.hid hb1; clear hg hbm hrd hb1) | (go_at_call 79; refine (HN1.out _).mono ?_; rintro e w2 ⟨rv, rfl, hrr, hb2⟩; obtain ⟨Ar, cr, er⟩ := Kd.R_slice hrr; rw [show (List.replicate 120 (-1 : Int)).length = 120 from List.length_replicate] at er; subst er; have HRR := Lib.hid hrr; have HB2 := Lib.hid hb2; clear hrr hb2) | (go_at_call 79; refine (HN2.out _).mono ?_; rintro e w3 ⟨fv, rfl, hrf, hb3⟩; obtain ⟨Af, cf, ef⟩ := Kd.R_slice hrf; rw [show (List.replicate jobs.length (-1 : Int)).length = jobs.length from List.length_replicate] at ef; subst ef; have HRF := Lib.hid hrf; have HB3 := Lib.hid hb3; clear hrf hb3))
  have hBA : Below w.heap.size w w3 := below_step (below_step (below_step HB4.out HB1.out) HB2.out) HB3.out
  have hB : Below w.heap.size w (w3.alloc (.cells #[.slice Ar 120 cr, .slice Af jobs.length cf] 32)) := below_alloc hBA _
  have hszA : (w.alloc (.cells #[.slice none 0 0, .slice none 0 0] 32)).heap.size = w.heap.size + 1 := by simp
  have s1 := HB1.out.size
  have s2 := HB2.out.size
  have s3 := HB3.out.size
  have hI : SimI w00 w S g w3.heap.size w.heap.size A c jobs (.slice Ad jobs.length cd) (.slice Ar 120 cr) (.slice Af jobs.length cf) (w3.alloc (.cells #[.slice Ar 120 cr, .slice Af jobs.length cf] 32)) (simN jobs pick s0 0).2.1 (simN jobs pick s0 0).2.2.1 (simN jobs pick s0 0).2.2.2 ((0 : Nat) : Int) := by
    refine ⟨blk_alloc (blk_below (blk_below HBM.out HB2.out) HB3.out) _, blk_new _ _, blk_alloc (blk_below (blk_below (blk_below H4.out HB1.out) HB2.out) HB3.out) _, ?_, ?_, ?_, Kept.of_below hB S, HW.out.trans (hB.mono h00)⟩
    · exact Kd.R_alloc (Kd.R_below (Kd.R_below (Kd.R_lower HRD.out (by omega)) HB2.out) HB3.out) _
    · exact Kd.R_alloc (Kd.R_below (Kd.R_lower HRR.out (by omega)) HB3.out) _
    · exact Kd.R_alloc (Kd.R_lower HRF.out (by omega)) _
  have hD : SimD w g w3.heap.size w.heap.size (.slice Ad jobs.length cd) (.slice Ar 120 cr) (.slice Af jobs.length cf) := by
    have hg := HG.out
    refine ⟨by omega, by omega, Nat.le_refl _, by omega, fun k hk => ⟨fun h => ?_, fun h => ?_⟩, fun k hk h => ?_⟩
    · have := Kd.R_lt HRD.out k hk; have := Kd.R_base HRR.out k h; omega
    · have := Kd.R_lt HRD.out k hk; have := Kd.R_base HRF.out k h; omega
    · have := Kd.R_lt HRR.out k hk; have := Kd.R_base HRF.out k h; omega
  have hV : Inv (w3.alloc (.cells #[.slice Ar 120 cr, .slice Af jobs.length cf] 32)) (simN jobs pick s0 0).1 := HST.out _ _ _ HV0.out hB.block hB.size
  have HI0 := Aside0.mk hI
  have HD := Aside0.mk hD
  have HVI := Aside0.mk hV
  clear hI hD hV hBA hB hszA s1 s2 s3 HG HBM HRD HB1 HRR HB2 HRF HB3 H4 HB4 HV0 HNM HN1 HN2
  generalize w3.heap.size = go at HI0 HD ⊢
  go_loopg [] 120 (fun kq w' => ∃ t : Nat, t + kq = 120 ∧ Aside0 (SimI w00 w S g go w.heap.size A c jobs (.slice Ad jobs.length cd) (.slice Ar 120 cr) (.slice Af jobs.length cf) w' (simN jobs pick s0 t).2.1 (simN jobs pick s0 t).2.2.1 (simN jobs pick s0 t).2.2.2 (t : Int)) ∧ Aside0 (Inv w' (simN jobs pick s0 t).1))
  case atStart => exact ⟨0, rfl, HI0, HVI⟩
  case round =>
    clear HI0 HVI
    obtain ⟨t, ht, HI, HV⟩ := hrel
    have hb := HI.out
    obtain ⟨h1, h2, h3, h4, h5, h6, h7, h8⟩ := hb
    have hm1 : wr.cell? ⟨g, 1, none⟩ = some (.slice Ad jobs.length cd) := (blk_cell h1 1).trans rfl
    have hm2 : wr.cell? ⟨g, 2, none⟩ = some (.int .i64 (t : Int)) := (blk_cell h1 2).trans rfl
    have hfz2 := blk_frozen h1 2
    cases gk with
    | zero =>
      have htt : t = 120 := by omega
      subst htt
      have b1 : decide (((120 : Nat) : Int) < 120) = false := by decide
      have ho0 : wr.cell? ⟨go, 0, none⟩ = some (.slice Ar 120 cr) := (blk_cell h2 0).trans rfl
      have ho1 : wr.cell? ⟨go, 1, none⟩ = some (.slice Af jobs.length cf) := (blk_cell h2 1).trans rfl
      have hq0 : wr.cell? ⟨w.heap.size, 0, none⟩ = some (.slice none 0 0) := (blk_cell h3 0).trans rfl
      have hq1 : wr.cell? ⟨w.heap.size, 1, none⟩ = some (.slice none 0 0) := (blk_cell h3 1).trans rfl
      have hqf0 := blk_frozen h3 0
      have hqf1 := blk_frozen h3 1
      have hgo := HD.out.2.2.2.1
      have H3 := Aside0.mk h3
      have hout := HI.out.out HD.out h00 (.slice Ar 120 cr) (.slice Af jobs.length cf)
      have hfar : ∀ k, k < w.heap.size → ((wr.setCell ⟨w.heap.size, 0, none⟩ (.slice Ar 120 cr)).setCell ⟨w.heap.size, 1, none⟩ (.slice Af jobs.length cf)).heap[k]? = wr.heap[k]? := fun k hk => (Below.heap_setCell _ _ _ k (by simp; omega)).trans (Below.heap_setCell _ _ _ k (by simp; omega))
      have hVo := HST.out wr _ _ HV.out hfar (by simp [World.setCell])
      have HOUT := Aside0.mk hout
      have HVO := Aside0.mk hVo
      clear h1 h2 h3 h4 h5 h6 h7 h8 hout hVo hfar
      go_wp2
      (try simp only [Exit.inBlock, Exit.then])
      refine bodyPost_ret (results_cell_row rfl _ _ w.heap.size 32 #[.slice Ar 120 cr, .slice Af jobs.length cf] (0, 0) _ rfl (blk_put (blk_put H3.out 0 _ rfl) 1 _ rfl) Try.underlying32 rfl (by kernel_rfl)) rfl ?_
      exact ⟨_, _, rfl, HOUT.out.1, HOUT.out.2.1, HOUT.out.2.2.1, HOUT.out.2.2.2, HVO.out⟩
    | succ k1 =>
      have b1 : decide ((t : Int) < 120) = true := decide_eq_true (by omega)
      have hlen' := simN_len (jobs := jobs) (pick := pick) (s0 := s0) t
      have hnx : simN jobs pick s0 (t + 1) = simStep jobs pick t (simN jobs pick s0 t) := rfl
      have hdn := simN_done HOK.out HEX.out (s0 := s0) t
      obtain ⟨X, hX⟩ : ∃ X, X = simN jobs pick s0 t := ⟨_, rfl⟩
      rw [← hX] at hlen' hnx hdn HI HV h4 h5 h6
      clear hX
      obtain ⟨s, done, run, fin⟩ := X
      obtain ⟨hl1, hl2, hl3⟩ := hlen'
      simp only at hl1 hl2 hl3 hdn HI HV h4 h5 h6
      obtain ⟨gr, cr', er, _⟩ := Kd.R_form h5 (by omega)
      injection er with er1 er2 er3
      subst er1 er3
      clear er2
      have hR := HOK.out s done t hl1
      have hpc := HP0.out g Ad cd wr s done t (by omega) HV.out ⟨by rw [hl1]; exact h1, Kd.C_below HJ.out h8, (Kd.R_reads' h4).2.2, hl1⟩ HD.out.1 h8 h7.1
      have hsm : simN jobs pick s0 (t + 1) = simStep jobs pick t (s, done, run, fin) := hnx
      unfold simStep at hsm
      simp only at hsm
      obtain ⟨r, hr⟩ : ∃ r, r = (pick s done t).1 := ⟨_, rfl⟩
      obtain ⟨s', hs'⟩ : ∃ s', s' = (pick s done t).2 := ⟨_, rfl⟩
      rw [← hr] at hR hpc hsm
      rw [← hs'] at hpc hsm
      have HP := Lib.hid hpc
      have HR := Lib.hid hR
      have HSM := Lib.hid hsm
      have HDN := Lib.hid hdn
      clear hr hs' hpc hR hsm hnx hdn h1 h2 h3 h4 h5 h6 h7 h8
      go_wp2_with ((with_reducible refine gate_value (n := 27) rfl ?_; go_must (refine goesF_ (some 29) rfl rfl rfl rfl HF.out hname hbody (p1 ++ #[.pointer (some ⟨g, 0, none⟩)] ++ p2) (by simp [Act.eval]) ?_; refine HP.out.mono ?_; rintro e w2 ⟨rfl, hi2, hk2, hb2⟩; refine ⟨_, rfl, ?_⟩; have HI2 := Aside0.mk (HI.out.keep HD.out HS.out hk2 hb2); have HV2 := Aside0.mk hi2; clear hi2 hk2 hb2)))
      obtain ⟨i1, i2, i3, i4, i5, i6, i7, i8⟩ := HI2.out
      have ho0 : w2.cell? ⟨go, 0, none⟩ = some (.slice (some ⟨gr, 0, none⟩) 120 cr) := (blk_cell i2 0).trans rfl
      have hn2 : w2.cell? ⟨g, 2, none⟩ = some (.int .i64 (t : Int)) := (blk_cell i1 2).trans rfl
      obtain ⟨hx0, hxf0⟩ := Kd.R_celln 0 i5 (t : Int) (by omega) (by omega)
      simp only [Int.toNat_natCast] at hx0 hxf0
      have q0 : 0 ≤ (t : Int) := by omega
      have q1 : (t : Int) < 120 := by omega
      have ne1 : gr ≠ g := fun e => Kd.R_ne i5 i1 (by decide) (by rw [← e]; rfl)
      have ne2 : gr ≠ go := fun e => Kd.R_ne i5 i2 (by decide) (by rw [← e]; rfl)
      clear i1 i2 i3 i4 i5 i6 i7 i8
      go_wp2_with fail
      go_region_held3 (fun w' => w'.cell? ⟨go, 0, none⟩ = some (.slice (some ⟨gr, 0, none⟩) 120 cr) ∧ w'.cell? ⟨g, 2, none⟩ = some (.int .i64 (t : Int))) (go_keep) (fail)
      have hgrw : w.heap.size ≤ gr := Kd.R_base HI2.out.2.2.2.2.1 gr rfl
      have hI3 := (HI2.out.setRun HD.out h00 (t : Int) r).drew
      simp only [Int.toNat_natCast] at hI3
      have hV3 : Inv ((w2.setCell ⟨gr, t, none⟩ (.int .i64 r)).drew) s' := HST.out w2 _ _ HV2.out (fun k hk => (show (w2.setCell ⟨gr, t, none⟩ (.int .i64 r)).heap[k]? = _ from Below.heap_setCell _ _ _ k (by simp; omega))) (by simp [World.setCell, World.drew])
      have HI3 := Aside0.mk hI3
      have HV3 := Aside0.mk hV3
      clear hI3 hV3 HI HV HI2 HV2 HP ho0 hn2 hx0 hxf0 hgrw hm1 hm2 hfz2
      generalize World.drew (World.setCell w2 _ _) = w3 at HI3 HV3 ⊢
      obtain ⟨i1, i2, i3, i4, i5, i6, i7, i8⟩ := HI3.out
      by_cases hneg : r < 0
      · have hnb : decide (r < 0) = true := decide_eq_true hneg
        have hst1 : simN jobs pick s0 (t + 1) = (s', done, run.set t r, fin) := by rw [HSM.out, if_pos hneg]
        have HST1 := Lib.hid hst1
        have hn2 : w3.cell? ⟨g, 2, none⟩ = some (.int .i64 (t : Int)) := (blk_cell i1 2).trans rfl
        have hf2 := blk_frozen i1 2
        have q2 : (t : Int) < 120 := by omega
        clear i1 i2 i3 i4 i5 i6 i7 i8 hst1 hneg
        have HIL := HI3
        have HVL := HV3
        go_wp2_with fail
        ((go_roundg k1; (case measure => omega); (case rel => refine ⟨t + 1, by omega, ⟨?_⟩, ⟨?_⟩⟩; (· rw [HST1.out]; exact HIL.out.setNow HD.out h00 _); (· rw [HST1.out]; exact HST.out _ _ _ HVL.out (fun k hk => Below.heap_setCell _ _ _ k (by have := HD.out.1; simp; omega)) (by simp [World.setCell])))))
      · have hnb : decide (r < 0) = false := decide_eq_false hneg
        have hr3 := HR.out
        have hj0 : 0 < jobs.length := by omega
        obtain ⟨gd, cd', ed, _⟩ := Kd.R_form i4 (by omega)
        injection ed with ed1 ed2 ed3
        subst ed1 ed3
        obtain ⟨gf, cf', ef, _⟩ := Kd.R_form i6 (by omega)
        injection ef with ef1 ef2 ef3
        subst ef1 ef3
        clear ed2 ef2
        obtain ⟨n, rfl⟩ : ∃ n : Nat, r = (n : Int) := ⟨r.toNat, by omega⟩
        simp only [Int.toNat_natCast] at hr3
        have hnl : n < jobs.length := by omega
        have hdone := HDN.out n
        have hexn := HEX.out n hnl
        have hready := hr3.2.2 (by omega)
        obtain ⟨x, hx⟩ : ∃ x, x = done.getD n 0 := ⟨_, rfl⟩
        obtain ⟨hdc, hdf⟩ := Kd.R_celln 0 i4 (n : Int) (by omega) (by omega)
        have hrd : rdOf 0 done (n : Int) = done.getD n 0 := rfl
        rw [hrd] at hdc
        rw [← hx] at hdone hready hdc
        simp only [Int.toNat_natCast] at hdc hdf
        have hm1 : w3.cell? ⟨g, 1, none⟩ = some (.slice (some ⟨gd, 0, none⟩) jobs.length cd) := (blk_cell i1 1).trans rfl
        have q2 : 0 ≤ (n : Int) := by omega
        have q3 : (n : Int) < (jobs.length : Int) := by omega
        have nd1 : gd ≠ g := fun e => Kd.R_ne i4 i1 (by decide) (by rw [← e]; rfl)
        have hgdw : w.heap.size ≤ gd := Kd.R_base i4 gd rfl
        have hgfw : w.heap.size ≤ gf := Kd.R_base i6 gf rfl
        have hI4 := HI3.out.setDone HD.out h00 (n : Int) (x + 1)
        simp only [Int.toNat_natCast] at hI4
        have hV4 : Inv (w3.setCell ⟨gd, n, none⟩ (.int .i64 (x + 1))) s' := HST.out w3 _ _ HV3.out (fun k hk => Below.heap_setCell _ _ _ k (by simp; omega)) (by simp [World.setCell])
        have HI4 := Aside0.mk hI4
        have HV4 := Aside0.mk hV4
        have HX := Lib.hid hx
        obtain ⟨hx0, hx8⟩ := hdone
        clear i1 i2 i3 i4 i5 i6 i7 i8 hI4 hV4 hr3 hneg HR hrd hx
        go_wp2_with fail
        generalize World.setCell w3 _ _ = w4 at HI4 HV4 ⊢
        clear HI3 HV3 hdc hdf hm1
        obtain ⟨i1, i2, i3, i4, i5, i6, i7, i8⟩ := HI4.out
        have hls : (done.set n (x + 1)).length = jobs.length := by rw [List.length_set, hl1]
        obtain ⟨hdc, hdf⟩ := Kd.R_celln 0 i4 (n : Int) (by omega) (by omega)
        have hrd : rdOf 0 (done.set n (x + 1)) (n : Int) = x + 1 := by
          show (done.set n (x + 1)).getD (n : Int).toNat 0 = x + 1
          rw [Int.toNat_natCast, getD_set', if_pos ⟨rfl, by omega⟩]
        rw [hrd] at hdc
        simp only [Int.toNat_natCast] at hdc hdf
        have hm1 : w4.cell? ⟨g, 1, none⟩ = some (.slice (some ⟨gd, 0, none⟩) jobs.length cd) := (blk_cell i1 1).trans rfl
        obtain ⟨adj, ej, hy0, hy1, hy2, hy3⟩ := at_T67 (Kd.C_below HJ.out i8) (n : Int) (by omega) (by omega)
        cases ej
        simp only [Int.toNat_natCast] at hy0 hy1 hy2 hy3
        have hrj : rd_T67 jobs (n : Int) = jobs.getD n z67 := rfl
        rw [hrj] at hy0 hy1 hy2 hy3
        obtain ⟨y, hy⟩ : ∃ y, y = (jobs.getD n z67).f3 := ⟨_, rfl⟩
        rw [← hy] at hy3 hready hexn
        have HY := Lib.hid hy
        have hn2 : w4.cell? ⟨g, 2, none⟩ = some (.int .i64 (t : Int)) := (blk_cell i1 2).trans rfl
        have hf2 := blk_frozen i1 2
        have q4 : (t : Int) < 120 := by omega
        by_cases heq : x + 1 = y
        · have heb : (x + 1 == y) = true := by rw [beq_iff_eq]; exact heq
          have hst1 : simN jobs pick s0 (t + 1) = (s', done.set n (x + 1), run.set t (n : Int), fin.set n ((t : Int) + 1)) := by
            rw [HSM.out, if_neg (by omega)]
            simp only [Int.toNat_natCast]
            rw [← HX.out, ← HY.out, if_pos heq]
          have HST1 := Lib.hid hst1
          have ho1 : w4.cell? ⟨go, 1, none⟩ = some (.slice (some ⟨gf, 0, none⟩) jobs.length cf) := (blk_cell i2 1).trans rfl
          obtain ⟨hfc, hff⟩ := Kd.R_celln 0 i6 (n : Int) (by omega) (by omega)
          simp only [Int.toNat_natCast] at hfc hff
          have nf1 : gf ≠ g := fun e => Kd.R_ne i6 i1 (by decide) (by rw [← e]; rfl)
          have nf2 : gf ≠ go := fun e => Kd.R_ne i6 i2 (by decide) (by rw [← e]; rfl)
          clear i1 i2 i3 i4 i5 i6 i7 i8 hst1 heq hrd hrj hy hls
          go_wp2_with fail
          go_quiet (fail)
          go_wp2_with fail
          go_region_held3 (fun w' => w'.cell? ⟨go, 1, none⟩ = some (.slice (some ⟨gf, 0, none⟩) jobs.length cf) ∧ w'.cell? ⟨g, 2, none⟩ = some (.int .i64 (t : Int))) (go_keep) (fail)
          have hw1 : IntKind.i64.wrap ((t : Int) + 1) = (t : Int) + 1 := by rw [i64_w]; unfold wrap64; omega
          rw [hw1]
          have hIL := (HI4.out.drewN (nq + 1)).setFin HD.out h00 (n : Int) ((t : Int) + 1)
          simp only [Int.toNat_natCast] at hIL
          have hVL : Inv ((w4.drewN (nq + 1)).setCell ⟨gf, n, none⟩ (.int .i64 ((t : Int) + 1))) s' := HST.out w4 _ _ HV4.out (fun k hk => (show ((w4.drewN (nq + 1)).setCell ⟨gf, n, none⟩ (.int .i64 ((t : Int) + 1))).heap[k]? = (w4.drewN (nq + 1)).heap[k]? from Below.heap_setCell _ _ _ k (by simp; omega))) (by simp [World.setCell, World.drewN])
          have HIL := Aside0.mk hIL
          have HVL := Aside0.mk hVL
          clear hIL hVL hw1 hn2 hf2 ho1 hfc hff hdc hdf hm1 hy0 hy1 hy2 hy3
          generalize World.setCell _ _ _ = w5 at HIL HVL ⊢
          obtain ⟨i1, i2, i3, i4, i5, i6, i7, i8⟩ := HIL.out
          have hn2 : w5.cell? ⟨g, 2, none⟩ = some (.int .i64 (t : Int)) := (blk_cell i1 2).trans rfl
          have hf2 := blk_frozen i1 2
          clear i1 i2 i3 i4 i5 i6 i7 i8
          go_wp2_with fail
          ((go_roundg k1; (case measure => omega); (case rel => refine ⟨t + 1, by omega, ⟨?_⟩, ⟨?_⟩⟩; (· rw [HST1.out]; exact HIL.out.setNow HD.out h00 _); (· rw [HST1.out]; exact HST.out _ _ _ HVL.out (fun k hk => Below.heap_setCell _ _ _ k (by have := HD.out.1; simp; omega)) (by simp [World.setCell])))))
        · have heb : (x + 1 == y) = false := by rw [beq_eq_false_iff_ne]; exact heq
          have hst1 : simN jobs pick s0 (t + 1) = (s', done.set n (x + 1), run.set t (n : Int), fin) := by
            rw [HSM.out, if_neg (by omega)]
            simp only [Int.toNat_natCast]
            rw [← HX.out, ← HY.out, if_neg heq]
          have HST1 := Lib.hid hst1
          clear i1 i2 i3 i4 i5 i6 i7 i8 hst1 heq hrd hrj hy hls
          go_wp2_with fail
          go_quiet (fail)
          have HIL := Aside0.mk (HI4.out.drewN nq)
          have HVL : Aside0 (Inv (w4.drewN nq) s') := ⟨HST.out w4 _ _ HV4.out (fun k hk => rfl) (Nat.le_refl _)⟩
          go_wp2_with fail
          ((go_roundg k1; (case measure => omega); (case rel => refine ⟨t + 1, by omega, ⟨?_⟩, ⟨?_⟩⟩; (· rw [HST1.out]; exact HIL.out.setNow HD.out h00 _); (· rw [HST1.out]; exact HST.out _ _ _ HVL.out (fun k hk => Below.heap_setCell _ _ _ k (by have := HD.out.1; simp; omega)) (by simp [World.setCell])))))

open Go.Proofs.Ytonifhkplniblaa.Walk
/-- What a legal pattern says of its jobs. -/
theorem legal_jobs {s : List (S62)} {l : List (S67)} (hs : impl_SetValid.f s = some true) (h : legalB s l = true) : l.length ≤ 60 ∧ ∀ i, i < l.length → (l.getD i z67).f3 ≤ 8 := by
  unfold legalB at h
  rw [Bool.and_eq_true] at h
  obtain ⟨h1, h2⟩ := ordB_in h.1
  refine ⟨h1, fun i hi => ?_⟩
  have := h2 i hi
  unfold jobIn at this
  simp only [Bool.and_eq_true, decide_eq_true_eq] at this
  obtain ⟨⟨a1, a2⟩, _, _, a3⟩ := this
  unfold impl_SetValid.f at hs
  have hs := Option.some.inj hs
  rw [Bool.and_eq_true, List.all_eq_true] at hs
  have hm : rd_T62 s (l.getD i z67).f0 ∈ s := by
    unfold rd_T62
    rw [List.getD_eq_getElem?_getD, List.getElem?_eq_getElem (by omega)]
    exact List.getElem_mem _
  have := hs.2 _ hm
  unfold okTask at this
  have := of_decide_eq_true this
  omega
theorem rdyB_done {jobs : List (S67)} {done : List Int} {now : Int} {i : Nat} (h : rdyB jobs done now i = true) : done.getD i 0 < (jobs.getD i z67).f3 := by
  unfold rdyB at h; rw [Bool.and_eq_true] at h; exact of_decide_eq_true h.2
theorem best_ok (jobs : List (S67)) (may : List Int → Nat → Nat → Bool) (key : List Int → Nat → Nat → Int) : PickOk jobs (fun (_ : Unit) done t => (bestN (fun i => rdyB jobs done t i && may done t i) (key done t) jobs.length, ())) := by
  intro s done t hl
  have h1 := bestN_in (fun i => rdyB jobs done t i && may done t i) (key done t) jobs.length
  refine ⟨h1.1, by simpa using h1.2, fun h => ?_⟩
  have := bestN_ok (fun i => rdyB jobs done t i && may done t i) (key done t) jobs.length h
  rw [Bool.and_eq_true] at this
  exact rdyB_done this.1
/-- A schedule is handed back by its own block. -/
theorem sched_out {w W : World} {b : Nat} {v0 v1 : Value} {r1 r2 : List Int} {g : Nat} {cs : Array Value} (hg : w.heap.size ≤ g) (hb : w.heap.size ≤ b) (h3 : W.heap[g]? = some (.cells cs 32 (0, 0))) (hB : Below w.heap.size w W)
    (h0 : Kd.R (Kd.int .i64) 3 W b (fun k_ => some k_ ≠ v1.ownBlock) v0 r1) (h1 : Kd.R (Kd.int .i64) 3 W b (fun k_ => some k_ ≠ v0.ownBlock) v1 r2) (x y : Value) :
    Kd.R (Kd.int .i64) 3 ((W.setCell ⟨g, 0, none⟩ x).setCell ⟨g, 1, none⟩ y) w.heap.size (fun k_ => some k_ ≠ v1.ownBlock) v0 r1 ∧ Kd.R (Kd.int .i64) 3 ((W.setCell ⟨g, 0, none⟩ x).setCell ⟨g, 1, none⟩ y) w.heap.size (fun k_ => some k_ ≠ v0.ownBlock) v1 r2 ∧
    Below w.heap.size w ((W.setCell ⟨g, 0, none⟩ x).setCell ⟨g, 1, none⟩ y) := by
  have far : ∀ k, k ≠ g → ((W.setCell ⟨g, 0, none⟩ x).setCell ⟨g, 1, none⟩ y).heap[k]? = W.heap[k]? := fun k hk => (Below.heap_setCell _ _ _ k hk).trans (Below.heap_setCell _ _ _ k hk)
  refine ⟨?_, ?_, (hB.setCell hg _).setCell hg _⟩
  · exact Kd.R_lower (Kd.R_reok rfl (row_step (Kd.R_mono h0 (fun _ _ => trivial)) (fun k e hlt => far k (fun e' => Kd.R_ne h0 h3 (by decide) (by rw [e, e'])))) (fun k hk => h0.1 k hk)) hb
  · exact Kd.R_lower (Kd.R_reok rfl (row_step (Kd.R_mono h1 (fun _ _ => trivial)) (fun k e hlt => far k (fun e' => Kd.R_ne h1 h3 (by decide) (by rw [e, e'])))) (fun k hk => h1.1 k hk)) hb

open Go.Proofs.Ytonifhkplniblaa.Walk
set_option maxHeartbeats 2000000 in
set_option maxRecDepth 100000 in
theorem res_11 (gm g : Nat) (A : Option Addr) (c : Nat) (jobs : List (S67)) (D : Option Addr) (cd : Nat) (done : List Int) (now : Int) (i : Nat) (hi : i < jobs.length) (w : World) (hm : w.cell? ⟨gm, 0, none⟩ = some (.pointer (some ⟨g, 0, none⟩))) (h : MachR w g A c jobs D cd done now) :
    Calls Try.prog 113 #[.int .i64 (i : Int), .pointer (some ⟨gm, 0, none⟩)] w fun e w' => e = .returned (.bool (decide (done.getD i 0 > 0))) ∧ ∃ m, w' = w.drewN m := by
  obtain ⟨hb, hj, hd, hl⟩ := h
  have hm1 : w.cell? ⟨g, 1, none⟩ = some (.slice D done.length cd) := (blk_cell hb 1).trans rfl
  obtain ⟨ad1, e1, hx0⟩ := Kd.at_int hd (i : Int) (by omega) (by omega)
  cases e1
  simp only [Int.toNat_natCast] at hx0
  have hrd1 : rd done (i : Int) = done.getD i 0 := rfl
  rw [hrd1] at hx0
  have hu := Try.underlying124
  have q0 : 0 ≤ (i : Int) := by omega
  have q2 : (i : Int) < (done.length : Int) := by omega
  obtain ⟨x, hx⟩ : ∃ x, x = done.getD i 0 := ⟨_, rfl⟩
  rw [← hx] at hx0 ⊢
  clear hrd1 hx hb hj hd hl
  go_enter Try.func113, Try.ntmps113
  go_wp2
  go_ret
  exact ⟨rfl, 0, rfl⟩

theorem mn_lt (a b : Int) : (if b < a then b else a) = mn a b := by unfold mn; (repeat' split) <;> omega
/-- The lowest ceiling of what the first jobs hold. -/
def lowN (jobs : List (S67)) (secs : List (S64)) (top : List Int) (done : List Int) (now : Int) : Nat → Int
  | 0 => 13
  | i + 1 => if (rdyB jobs done now i && decide (done.getD i 0 > (rd_T64 secs (jobs.getD i z67).f0).f0)) && decide (done.getD i 0 < (rd_T64 secs (jobs.getD i z67).f0).f0 + (rd_T64 secs (jobs.getD i z67).f0).f1) then mn (lowN jobs secs top done now i) (rd top (rd_T64 secs (jobs.getD i z67).f0).f2) else lowN jobs secs top done now i
def resPick (set : List (S62)) (jobs : List (S67)) (secs : List (S64)) (top : List Int) (_ : Unit) (done : List Int) (t : Nat) : Int × Unit :=
  (if bestN (rdyB jobs done t) (fun i => (jobs.getD i z67).f2) jobs.length < 0 then bestN (rdyB jobs done t) (fun i => (jobs.getD i z67).f2) jobs.length
  else if done.getD (bestN (rdyB jobs done t) (fun i => (jobs.getD i z67).f2) jobs.length).toNat 0 > 0 then bestN (rdyB jobs done t) (fun i => (jobs.getD i z67).f2) jobs.length
  else if (rd_T62 set (jobs.getD (bestN (rdyB jobs done t) (fun i => (jobs.getD i z67).f2) jobs.length).toNat z67).f0).f1 < lowN jobs secs top done t jobs.length then bestN (rdyB jobs done t) (fun i => (jobs.getD i z67).f2) jobs.length
  else bestN (fun i => rdyB jobs done t i && decide (done.getD i 0 > 0)) (fun i => (jobs.getD i z67).f2) jobs.length, ())
theorem resPick_ok (set : List (S62)) (jobs : List (S67)) (secs : List (S64)) (top : List Int) : PickOk jobs (resPick set jobs secs top) := by
  intro s done t hl
  have h1 := best_ok jobs (fun _ _ _ => true) (fun _ _ i => (jobs.getD i z67).f2) s done t hl
  have h2 := best_ok jobs (fun done _ i => decide (done.getD i 0 > 0)) (fun _ _ i => (jobs.getD i z67).f2) s done t hl
  simp only [Bool.and_true] at h1
  unfold resPick
  simp only
  split
  · exact h1
  · split
    · exact h1
    · split
      · exact h1
      · exact h2
set_option maxHeartbeats 4000000 in
set_option maxRecDepth 100000 in
theorem resPick_calls (gj gs gt ge g : Nat) (A : Option Addr) (c : Nat) (jobs : List (S67)) (D : Option Addr) (cd : Nat) (done : List Int) (t : Nat) (set : List (S62)) (Ae : Option Addr) (ce : Nat) (secs : List (S64)) (As : Option Addr) (cs : Nat) (top : List Int) (At : Option Addr) (ct : Nat) (w : World) (h : MachR w g A c jobs D cd done t)
    (hcj : w.cell? ⟨gj, 0, none⟩ = some (.slice A jobs.length c)) (hcs : w.cell? ⟨gs, 0, none⟩ = some (.slice As secs.length cs)) (hct : w.cell? ⟨gt, 0, none⟩ = some (.slice At top.length ct)) (hce : w.cell? ⟨ge, 0, none⟩ = some (.slice Ae set.length ce))
    (hs : Kd.C k64 w As secs.length secs) (ht : Kd.C (Kd.int .i64) w At top.length top) (he : Kd.C k62 w Ae set.length set)
    (hid : ∀ i, i < jobs.length → 0 ≤ (jobs.getD i z67).f0 ∧ (jobs.getD i z67).f0 < set.length) (hsl : secs.length = set.length)
    (hsec : ∀ i : Int, 0 ≤ i → i < secs.length → (0 ≤ (rd_T64 secs i).f0 ∧ (rd_T64 secs i).f0 ≤ 8) ∧ (0 ≤ (rd_T64 secs i).f1 ∧ (rd_T64 secs i).f1 ≤ 8) ∧ 0 ≤ (rd_T64 secs i).f2 ∧ (rd_T64 secs i).f2 < top.length) :
    Calls Try.prog 109 #[.pointer (some ⟨g, 0, none⟩), .pointer (some ⟨gj, 0, none⟩), .pointer (some ⟨gs, 0, none⟩), .pointer (some ⟨gt, 0, none⟩), .pointer (some ⟨ge, 0, none⟩)] w fun e w' => e = .returned (.int .i64 (resPick set jobs secs top () done t).1) ∧ Below w.heap.size w w' := by
  have hmf : ∀ (fn : Fn) (first cap : Array Value) (w : World), (Instr.makeFunc fn first cap).run Try.prog w = .ok (.func fn first cap) w := fun _ _ _ _ => rfl
  have hu := Try.underlying124
  have huJ := Try.underlying67
  have huS := Try.underlying64
  have huT := Try.underlying62
  -- the box of m, and all that is read, behind it
  obtain ⟨W, hW⟩ : ∃ W, W = w.alloc (.cells #[.pointer (some ⟨g, 0, none⟩)] 120) := ⟨_, rfl⟩
  have hB : Below w.heap.size w W := by rw [hW]; exact below_alloc (Below.refl _ _) _
  have hcell : W.cell? ⟨w.heap.size, 0, none⟩ = some (.pointer (some ⟨g, 0, none⟩)) := by rw [hW, World.cell?_alloc_at _ _ _ _ rfl]; rfl
  have hM := h.below hB
  have kcj := (hB.cell (World.block_lt_of_cell? w _ hcj)).trans hcj
  have kcs := (hB.cell (World.block_lt_of_cell? w _ hcs)).trans hcs
  have kct := (hB.cell (World.block_lt_of_cell? w _ hct)).trans hct
  have kce := (hB.cell (World.block_lt_of_cell? w _ hce)).trans hce
  have HSC := Aside0.mk (Kd.C_below hs hB)
  have HTC := Aside0.mk (Kd.C_below ht hB)
  have HEC := Aside0.mk (Kd.C_below he hB)
  have HM := Aside0.mk hM
  have HBW := Aside0.mk hB
  have HID := Lib.hid hid
  have HSEC := Lib.hid hsec
  have HEDF := Lib.hid (fun n => edf_calls g A c jobs D cd done t (W.drewN n) (hM.drewN n))
  obtain ⟨b, hb⟩ : ∃ b, b = bestN (rdyB jobs done t) (fun i => (jobs.getD i z67).f2) jobs.length := ⟨_, rfl⟩
  have hbin := bestN_in (rdyB jobs done t) (fun i => (jobs.getD i z67).f2) jobs.length
  have hres : (resPick set jobs secs top () done t).1 = (if b < 0 then b else if done.getD b.toNat 0 > 0 then b else if (rd_T62 set (jobs.getD b.toNat z67).f0).f1 < lowN jobs secs top done t jobs.length then b else bestN (fun i => rdyB jobs done t i && decide (done.getD i 0 > 0)) (fun i => (jobs.getD i z67).f2) jobs.length) := by rw [hb]; rfl
  rw [← hb] at hbin HEDF
  have hm0 : W.cell? ⟨g, 0, none⟩ = some (.slice A jobs.length c) := (blk_cell hM.1 0).trans rfl
  have hm1 : W.cell? ⟨g, 1, none⟩ = some (.slice D done.length cd) := (blk_cell hM.1 1).trans rfl
  have hdl := hM.2.2.2
  have hmx : jobs.length ≤ 9223372036854775807 := hM.2.1.2.1
  have HWQ := Lib.hid hW
  have HSL := Lib.hid hsl
  clear h hcj hcs hct hce hs ht he hid hsec hb hM hB hW hsl
  by_cases hneg : b < 0
  · have hnb : decide (b < 0) = true := decide_eq_true hneg
    rw [if_pos hneg] at hres
    have HRES := Lib.hid hres
    clear hres hneg hbin
    go_enter Try.func109, Try.ntmps109
    go_wp2_with fail
    rw [← HWQ.out]
    refine (HEDF.out 0).mono ?_
    rintro e w2 ⟨rfl, m, rfl⟩
    go_wp2
    go_ret
    exact ⟨by rw [HRES.out]; rfl, pw_below_drewN HBW.out m⟩
  · have hnb : decide (b < 0) = false := decide_eq_false hneg
    rw [if_neg hneg] at hres
    obtain ⟨n, rfl⟩ : ∃ n : Nat, b = (n : Int) := ⟨b.toNat, by omega⟩
    simp only [Int.toNat_natCast] at hres
    have hn : n < jobs.length := by omega
    obtain ⟨ad1, e1, hx0⟩ := Kd.at_int HM.out.2.2.1 (n : Int) (by omega) (by omega)
    cases e1
    simp only [Int.toNat_natCast] at hx0
    have hrd1 : rd done (n : Int) = done.getD n 0 := rfl
    rw [hrd1] at hx0
    have q0 : 0 ≤ (n : Int) := by omega
    have q1 : (n : Int) < (jobs.length : Int) := by omega
    have q2 : (n : Int) < (done.length : Int) := by omega
    by_cases hpos : done.getD n 0 > 0
    · rw [if_pos hpos] at hres
      obtain ⟨x, hx⟩ : ∃ x, x = done.getD n 0 := ⟨_, rfl⟩
      rw [← hx] at hx0 hpos
      have hpb : decide (x > 0) = true := decide_eq_true hpos
      have HRES := Lib.hid hres
      clear hres hneg hbin hx hpos hrd1
      go_enter Try.func109, Try.ntmps109
      go_wp2_with fail
      rw [← HWQ.out]
      refine (HEDF.out 0).mono ?_
      rintro e w2 ⟨rfl, m, rfl⟩
      go_wp2
      go_ret
      exact ⟨by rw [HRES.out]; rfl, pw_below_drewN HBW.out m⟩
    · rw [if_neg hpos] at hres
      obtain ⟨x, hx⟩ : ∃ x, x = done.getD n 0 := ⟨_, rfl⟩
      rw [← hx] at hx0 hpos
      have hpb : decide (x > 0) = false := decide_eq_false hpos
      have HRES := Lib.hid hres
      clear hres hneg hbin hx hpos hrd1
      go_enter Try.func109, Try.ntmps109
      go_wp2_with fail
      rw [← HWQ.out]
      refine (HEDF.out 0).mono ?_
      rintro e w2 ⟨rfl, m, rfl⟩
      go_wp2_with fail
      go_loopw [8, 28] (fun v8 v28 w' => ∃ i : Nat, v28 = .int .i64 i ∧ i ≤ jobs.length ∧ v8 = .int .i64 (lowN jobs secs top done t i) ∧ Aside0 (Below W.heap.size W w')) (fun v8 v28 _ => jobs.length - (intOf v28).toNat)
      case atStart => exact ⟨0, rfl, Nat.zero_le _, rfl, ⟨pw_below_drewN (Below.refl _ _) m⟩⟩
      case round =>
        obtain ⟨i, rfl, hi, rfl, HB⟩ := hrel
        have lcj := (HB.out.cell (World.block_lt_of_cell? _ _ kcj)).trans kcj
        have lcs := (HB.out.cell (World.block_lt_of_cell? _ _ kcs)).trans kcs
        have lct := (HB.out.cell (World.block_lt_of_cell? _ _ kct)).trans kct
        have lce := (HB.out.cell (World.block_lt_of_cell? _ _ kce)).trans kce
        have lcm := (HB.out.cell (World.block_lt_of_cell? _ _ hcell)).trans hcell
        have lm0 := (HB.out.cell (World.block_lt_of_cell? _ _ hm0)).trans hm0
        have lm1 := (HB.out.cell (World.block_lt_of_cell? _ _ hm1)).trans hm1
        have hMr := HM.out.below HB.out
        by_cases hlt : i < jobs.length
        · have b1 : decide ((i : Int) < (jobs.length : Int)) = true := decide_eq_true (by omega)
          obtain ⟨ad0, e0, hy0, hy1, hy2, hy3⟩ := at_T67 hMr.2.1 (i : Int) (by omega) (by omega)
          cases e0
          simp only [Int.toNat_natCast] at hy0
          have hrd : rd_T67 jobs (i : Int) = jobs.getD i z67 := rfl
          rw [hrd] at hy0
          have hid := HID.out i hlt
          have hstp : lowN jobs secs top done t (i + 1) = if (rdyB jobs done t i && decide (done.getD i 0 > (rd_T64 secs (jobs.getD i z67).f0).f0)) && decide (done.getD i 0 < (rd_T64 secs (jobs.getD i z67).f0).f0 + (rd_T64 secs (jobs.getD i z67).f0).f1) then mn (lowN jobs secs top done t i) (rd top (rd_T64 secs (jobs.getD i z67).f0).f2) else lowN jobs secs top done t i := rfl
          obtain ⟨ya, hya⟩ : ∃ ya, ya = (jobs.getD i z67).f0 := ⟨_, rfl⟩
          rw [← hya] at hy0 hid hstp
          obtain ⟨ads, es, hz0, hz1, hz2⟩ := at_T64 (Kd.C_below HSC.out HB.out) ya hid.1 (by have := HSL.out; omega)
          cases es
          have hsc := HSEC.out ya hid.1 (by have := HSL.out; omega)
          obtain ⟨z, hz⟩ : ∃ z, z = rd_T64 secs ya := ⟨_, rfl⟩
          rw [← hz] at hz0 hz1 hz2 hsc hstp
          obtain ⟨za, zb, zc⟩ := z
          simp only at hz0 hz1 hz2 hsc hstp
          obtain ⟨⟨s1, s2⟩, ⟨s3, s4⟩, s5, s6⟩ := hsc
          have p0 : 0 ≤ (i : Int) := by omega
          have p1 : (i : Int) < (jobs.length : Int) := by omega
          have p2 : (i : Int) < (done.length : Int) := by omega
          have p3 := hid.1
          have p4 : ya < (secs.length : Int) := by have := HSL.out; omega
          have n1 := World.new_ne wr _ lcj
          have n2 := World.new_ne wr _ lcs
          have n3 := World.new_ne wr _ hy0
          have n4 := World.new_ne wr _ hz0
          have n5 := World.new_ne wr _ hz1
          have n6 := World.new_ne wr _ hz2
          clear hrd hya hz hid hy1 hy2 hy3
          go_wp2_with fail
          go_region_held3 (fun w' => w'.cell? ⟨gs, 0, none⟩ = some (.slice (some ads) secs.length cs) ∧ w'.cell? ⟨gj, 0, none⟩ = some (.slice (some ad0) jobs.length c) ∧ w'.cell? (ad0.add (i * 4)) = some (.int .i64 ya) ∧ w'.cell? (ads.add (ya.toNat * 3)) = some (.int .i64 za) ∧ w'.cell? ⟨(ads.add (ya.toNat * 3)).block, (ads.add (ya.toNat * 3)).off + 1, none⟩ = some (.int .i64 zb) ∧ w'.cell? ⟨(ads.add (ya.toNat * 3)).block, (ads.add (ya.toNat * 3)).off + 2, none⟩ = some (.int .i64 zc)) (go_keep) (fail)
          generalize hw3 : World.drew (World.alloc wr _) = w3
          have hB3 : Below wr.heap.size wr w3 := by rw [← hw3]; exact below_drew (below_alloc (Below.refl _ _) _)
          have BS : w3.heap[wr.heap.size]? = some (.cells #[.int .i64 za, .int .i64 zb, .int .i64 zc] 64 (0, 0)) := by rw [← hw3]; exact blk_drew (blk_new wr _)
          have hb0 : w3.cell? ⟨wr.heap.size, 0, none⟩ = some (.int .i64 za) := (blk_cell BS 0).trans rfl
          have hb1 : w3.cell? ⟨wr.heap.size, 1, none⟩ = some (.int .i64 zb) := (blk_cell BS 1).trans rfl
          have hb2 : w3.cell? ⟨wr.heap.size, 2, none⟩ = some (.int .i64 zc) := (blk_cell BS 2).trans rfl
          have mcm := (hB3.cell (World.block_lt_of_cell? _ _ lcm)).trans lcm
          have mct := (hB3.cell (World.block_lt_of_cell? _ _ lct)).trans lct
          have mm1 := (hB3.cell (World.block_lt_of_cell? _ _ lm1)).trans lm1
          have hM3 := hMr.below hB3
          have hBB := below_step HB.out hB3
          obtain ⟨adx, ex, hdx⟩ := Kd.at_int hM3.2.2.1 (i : Int) (by omega) (by omega)
          cases ex
          simp only [Int.toNat_natCast] at hdx
          have hrdx : rd done (i : Int) = done.getD i 0 := rfl
          rw [hrdx] at hdx
          obtain ⟨dx, hdxx⟩ : ∃ dx, dx = done.getD i 0 := ⟨_, rfl⟩
          rw [← hdxx] at hdx hstp
          obtain ⟨adt, et, htx⟩ := Kd.at_int (Kd.C_below HTC.out hBB) zc s5 s6
          cases et
          obtain ⟨tx, htxx⟩ : ∃ tx, tx = rd top zc := ⟨_, rfl⟩
          rw [← htxx] at htx hstp
          have hrr := fun k => ready_calls g (some ad0) c jobs (some ad1) cd done t i hlt (w3.drewN k) (hM3.drewN k)
          obtain ⟨lo, hlo⟩ : ∃ lo, lo = lowN jobs secs top done t i := ⟨_, rfl⟩
          rw [← hlo] at hstp
          have HLO := Lib.hid hlo
          have HB3 := Aside0.mk hBB
          clear hw3 hB3 BS hBB hrdx hdxx htxx hlo HB lcj lcs lct lce lcm lm0 lm1 hMr hM3 hy0 hz0 hz1 hz2 n1 n2 n3 n4 n5 n6
          try rw [← HLO.out]
          cases hrb : rdyB jobs done t i with
          | false =>
            rw [hrb] at hstp hrr
            have HRDY := Lib.hid hrr
            have HN : Hid (lowN jobs secs top done t (i + 1) = lo) := Lib.hid (by rw [hstp]; rfl)
            clear hstp hrr hrb
            go_wp2_with fail
            ((go_quiet ((go_at_call 110; with_reducible exact Calls.quiet_of (HRDY.out _)))))
            go_wp2_with fail
            ((go_roundw; (case rel => exact ⟨i + 1, by go_num, by omega, by rw [HN.out]; (try (rw [mn_lt])), ⟨pw_below_drewN HB3.out _⟩⟩); (case measure => simp [intOf]; omega)))
          | true =>
            rw [hrb] at hstp hrr
            have HRDY := Lib.hid hrr
            clear hrr hrb
            by_cases c2 : dx > za
            · have c2b : decide (dx > za) = true := decide_eq_true c2
              by_cases c3 : dx < za + zb
              · have c3b : decide (dx < za + zb) = true := decide_eq_true c3
                have HN : Hid (lowN jobs secs top done t (i + 1) = mn lo tx) := Lib.hid (by rw [hstp, c2b, c3b]; rfl)
                clear hstp c2 c3
                go_wp2_with fail
                ((go_quiet ((go_at_call 110; with_reducible exact Calls.quiet_of (HRDY.out _)))))
                go_wp2_with fail
                ((go_roundw; (case rel => exact ⟨i + 1, by go_num, by omega, by rw [HN.out]; (try (rw [mn_lt])), ⟨pw_below_drewN HB3.out _⟩⟩); (case measure => simp [intOf]; omega)))
              · have c3b : decide (dx < za + zb) = false := decide_eq_false c3
                have HN : Hid (lowN jobs secs top done t (i + 1) = lo) := Lib.hid (by rw [hstp, c2b, c3b]; rfl)
                clear hstp c2 c3
                go_wp2_with fail
                ((go_quiet ((go_at_call 110; with_reducible exact Calls.quiet_of (HRDY.out _)))))
                go_wp2_with fail
                ((go_roundw; (case rel => exact ⟨i + 1, by go_num, by omega, by rw [HN.out]; (try (rw [mn_lt])), ⟨pw_below_drewN HB3.out _⟩⟩); (case measure => simp [intOf]; omega)))
            · have c2b : decide (dx > za) = false := decide_eq_false c2
              have HN : Hid (lowN jobs secs top done t (i + 1) = lo) := Lib.hid (by rw [hstp, c2b]; rfl)
              clear hstp c2
              go_wp2_with fail
              ((go_quiet ((go_at_call 110; with_reducible exact Calls.quiet_of (HRDY.out _)))))
              go_wp2_with fail
              ((go_roundw; (case rel => exact ⟨i + 1, by go_num, by omega, by rw [HN.out]; (try (rw [mn_lt])), ⟨pw_below_drewN HB3.out _⟩⟩); (case measure => simp [intOf]; omega)))
        · have b1 : decide ((i : Int) < (jobs.length : Int)) = false := decide_eq_false (by omega)
          have hie : i = jobs.length := by omega
          subst hie
          have hidn := HID.out n hn
          obtain ⟨ad0, e0, hy0, hy1, hy2, hy3⟩ := at_T67 hMr.2.1 (n : Int) (by omega) (by omega)
          cases e0
          simp only [Int.toNat_natCast] at hy0
          have hrd : rd_T67 jobs (n : Int) = jobs.getD n z67 := rfl
          rw [hrd] at hy0
          obtain ⟨yn, hyn⟩ : ∃ yn, yn = (jobs.getD n z67).f0 := ⟨_, rfl⟩
          have hrs : (resPick set jobs secs top () done t).1 = if (rd_T62 set yn).f1 < lowN jobs secs top done t jobs.length then (n : Int) else bestN (fun i => rdyB jobs done t i && decide (done.getD i 0 > 0)) (fun i => (jobs.getD i z67).f2) jobs.length := by rw [HRES.out, hyn]
          rw [← hyn] at hy0 hidn
          obtain ⟨ade, ee, hw0, hw1, hw2⟩ := at_T62 (Kd.C_below HEC.out HB.out) yn hidn.1 hidn.2
          cases ee
          have p3 := hidn.1
          have p4 := hidn.2
          obtain ⟨lo, hlo⟩ : ∃ lo, lo = lowN jobs secs top done t jobs.length := ⟨_, rfl⟩
          try rw [← hlo]
          rw [← hlo] at hrs
          have hbest := fun k => best_calls g (some ad0) c jobs (some ad1) cd done t (wr.drewN k) (hMr.drewN k) (fun i => (jobs.getD i z67).f2) (fun i => decide (done.getD i 0 > 0)) 112 #[.pointer (some ⟨g, 0, none⟩)] #[] Try.func112 (by kernel_rfl) rfl
            (fun i m hi => deadline_calls g (some ad0) c jobs (some ad1) cd done t i hi _ ((hMr.drewN k).drewN m)) 113 #[] #[.pointer (some ⟨w.heap.size, 0, none⟩)] Try.func113 (by kernel_rfl) rfl (fun i m hi => res_11 w.heap.size g (some ad0) c jobs (some ad1) cd done t i hi _ lcm ((hMr.drewN k).drewN m))
          have HBEST := Lib.hid hbest
          obtain ⟨dd, hdd⟩ : ∃ dd, dd = (rd_T62 set yn).f1 := ⟨_, rfl⟩
          rw [← hdd] at hw1
          have HBF := Aside0.mk (below_step HBW.out HB.out)
          by_cases c5 : dd < lo
          · have c5b : decide (dd < lo) = true := decide_eq_true c5
            have hrs2 : (resPick set jobs secs top () done t).1 = (n : Int) := by rw [hrs, ← hdd, if_pos c5]
            have HRS := Lib.hid hrs2
            clear hrs hrs2 c5 hlo hdd hyn hrd hbest hMr HRES
            go_wp2_with fail
            go_quiet (fail)
            go_wp2
            go_ret
            exact ⟨by rw [HRS.out]; rfl, pw_below_drewN HBF.out _⟩
          · have c5b : decide (dd < lo) = false := decide_eq_false c5
            have hrs2 : (resPick set jobs secs top () done t).1 = bestN (fun i => rdyB jobs done t i && decide (done.getD i 0 > 0)) (fun i => (jobs.getD i z67).f2) jobs.length := by rw [hrs, ← hdd, if_neg c5]
            have HRS := Lib.hid hrs2
            clear hrs hrs2 c5 hlo hdd hyn hrd hbest hMr HRES
            go_wp2_with fail
            go_quiet (fail)
            go_wp2_with (go_at_call 111; refine (HBEST.out _).mono ?_; rintro e w5 ⟨rfl, m5, rfl⟩)
            go_ret
            exact ⟨by rw [HRS.out]; rfl, pw_below_drewN HBF.out _⟩

open Go.Proofs.Ytonifhkplniblaa.Walk
def secsIn (l0 : List (S62)) (l1 : List (S64)) (top : List Int) : Bool := decide (top.length = 3) && (decide (l1.length = l0.length) && l1.all (fun x => decide ((0 ≤ x.f0 ∧ x.f0 ≤ 8) ∧ (0 ≤ x.f1 ∧ x.f1 ≤ 8) ∧ 0 ≤ x.f2 ∧ x.f2 ≤ 2)))
/-- The boxes of RunResources. -/
def ResB (W : World) (n : Nat) (A0 : Option Addr) (m0 c0 : Nat) (A1 : Option Addr) (m1 c1 : Nat) (A2 : Option Addr) (m2 c2 : Nat) : Prop :=
  W.cell? ⟨n, 0, none⟩ = some (.slice A0 m0 c0) ∧ W.cell? ⟨n + 1, 0, none⟩ = some (.slice A1 m1 c1) ∧ W.cell? ⟨n + 1 + 1, 0, none⟩ = some (.slice A2 m2 c2) ∧ W.heap[n + 1 + 1 + 1]? = some (.cells #[.slice none 0 0, .slice none 0 0] 32 (0, 0))
theorem ResB.below {W W2 : World} {n : Nat} {A0 : Option Addr} {m0 c0 : Nat} {A1 : Option Addr} {m1 c1 : Nat} {A2 : Option Addr} {m2 c2 : Nat} (h : ResB W n A0 m0 c0 A1 m1 c1 A2 m2 c2) (hb : Below W.heap.size W W2) : ResB W2 n A0 m0 c0 A1 m1 c1 A2 m2 c2 := by
  obtain ⟨h1, h2, h3, h4⟩ := h
  exact ⟨(hb.cell (World.block_lt_of_cell? _ _ h1)).trans h1, (hb.cell (World.block_lt_of_cell? _ _ h2)).trans h2, (hb.cell (World.block_lt_of_cell? _ _ h3)).trans h3, blk_below h4 hb⟩
theorem ResB.made (w : World) (A0 : Option Addr) (m0 c0 : Nat) (A1 : Option Addr) (m1 c1 : Nat) (A2 : Option Addr) (m2 c2 : Nat) :
    ResB ((((w.alloc (.cells #[.slice A0 m0 c0] 37)).alloc (.cells #[.slice A1 m1 c1] 65)).alloc (.cells #[.slice A2 m2 c2] 39)).alloc (.cells #[.slice none 0 0, .slice none 0 0] 32)) w.heap.size A0 m0 c0 A1 m1 c1 A2 m2 c2 := by
  have s1 : (w.alloc (.cells #[.slice A0 m0 c0] 37)).heap.size = w.heap.size + 1 := by simp
  have s2 : ((w.alloc (.cells #[.slice A0 m0 c0] 37)).alloc (.cells #[.slice A1 m1 c1] 65)).heap.size = w.heap.size + 2 := by simp
  have s3 : (((w.alloc (.cells #[.slice A0 m0 c0] 37)).alloc (.cells #[.slice A1 m1 c1] 65)).alloc (.cells #[.slice A2 m2 c2] 39)).heap.size = w.heap.size + 3 := by simp
  have b1 := blk_new w (.cells #[.slice A0 m0 c0] 37)
  have b2 := blk_new (w.alloc (.cells #[.slice A0 m0 c0] 37)) (.cells #[.slice A1 m1 c1] 65)
  have b3 := blk_new ((w.alloc (.cells #[.slice A0 m0 c0] 37)).alloc (.cells #[.slice A1 m1 c1] 65)) (.cells #[.slice A2 m2 c2] 39)
  have b4 := blk_new (((w.alloc (.cells #[.slice A0 m0 c0] 37)).alloc (.cells #[.slice A1 m1 c1] 65)).alloc (.cells #[.slice A2 m2 c2] 39)) (.cells #[.slice none 0 0, .slice none 0 0] 32)
  rw [s1] at b2
  rw [s2] at b3
  rw [s3] at b4
  exact ⟨(blk_cell (blk_alloc (blk_alloc (blk_alloc b1 _) _) _) 0).trans rfl, (blk_cell (blk_alloc (blk_alloc b2 _) _) 0).trans rfl, (blk_cell (blk_alloc b3 _) 0).trans rfl, b4⟩
def impl_RunResources.f (k : Nat) (l0 : List (S62)) (l1 : List (S64)) (l2 : List (S67)) : Option (List Int × List Int) := (impl_SectionsValid.f k l0 l1).bind fun a => if a = true then (impl_JobsLegal.f l0 l2).bind (fun b => if b = true then (impl_ceilings.f k l0 l1).bind (fun top => if secsIn l0 l1 top = true then some ((simN l2 (resPick l0 l2 l1 top) () 120).2.2.1, (simN l2 (resPick l0 l2 l1 top) () 120).2.2.2) else none) else some ([], [])) else some ([], [])
theorem impl_RunResources.mono : ∀ a0 a1 a2 k, LeO (impl_RunResources.f k a0 a1 a2) (impl_RunResources.f (k + 1) a0 a1 a2) := by
  intro a0 a1 a2 k
  unfold impl_RunResources.f
  refine LeO.bind (impl_SectionsValid.mono a0 a1 k) (fun _ => LeO.ite (LeO.bind (LeO.refl _) (fun _ => LeO.ite (LeO.bind (impl_ceilings.mono a0 a1 k) (fun _ => LeO.refl _)) (LeO.refl _))) (LeO.refl _))
set_option maxHeartbeats 2000000 in
set_option maxRecDepth 100000 in
theorem impl_RunResources.calls (k : Nat) (A0 : Option Addr) (c0 : Nat) (l0 : List (S62)) (A1 : Option Addr) (c1 : Nat) (l1 : List (S64)) (A2 : Option Addr) (c2 : Nat) (l2 : List (S67)) (r1 : List Int) (r2 : List Int) (w : World) (hr0 : Kd.C k62 w A0 l0.length l0) (hc0 : l0.length ≤ c0) (hr1 : Kd.C k64 w A1 l1.length l1) (hc1 : l1.length ≤ c1) (hr2 : Kd.C k67 w A2 l2.length l2) (hc2 : l2.length ≤ c2) (h : impl_RunResources.f k l0 l1 l2 = some (r1, r2)) :
    Calls Try.prog 39 #[.slice A0 l0.length c0, .slice A1 l1.length c1, .slice A2 l2.length c2] w fun e w' => ∃ v0_ v1_ : Value, e = .returned (.agg #[v0_, v1_]) ∧ Kd.R (Kd.int .i64) 3 w' w.heap.size (fun k_ => some k_ ≠ (v1_ : Value).ownBlock) v0_ r1 ∧ Kd.R (Kd.int .i64) 3 w' w.heap.size (fun k_ => some k_ ≠ (v0_ : Value).ownBlock) v1_ r2 ∧ Below w.heap.size w w' := by
  have hu := Try.underlying32
  have hmf : ∀ (fn : Fn) (first cap : Array Value) (w : World), (Instr.makeFunc fn first cap).run Try.prog w = .ok (.func fn first cap) w := fun _ _ _ _ => rfl
  unfold impl_RunResources.f at h
  obtain ⟨a, ha⟩ : ∃ a, impl_SectionsValid.f k l0 l1 = some a := by
    cases hs : impl_SectionsValid.f k l0 l1 with
    | none => rw [hs] at h; cases h
    | some b => exact ⟨b, rfl⟩
  rw [ha, Option.bind_some] at h
  obtain ⟨W, hW⟩ : ∃ W, W = ((((w.alloc (.cells #[.slice A0 l0.length c0] 37)).alloc (.cells #[.slice A1 l1.length c1] 65)).alloc (.cells #[.slice A2 l2.length c2] 39)).alloc (.cells #[.slice none 0 0, .slice none 0 0] 32)) := ⟨_, rfl⟩
  have hB : Below w.heap.size w W := by rw [hW]; exact below_alloc (below_alloc (below_alloc (below_alloc (Below.refl _ _) _) _) _) _
  have hRB : ResB W w.heap.size A0 l0.length c0 A1 l1.length c1 A2 l2.length c2 := by rw [hW]; exact ResB.made w A0 l0.length c0 A1 l1.length c1 A2 l2.length c2
  have hRBe := hRB
  rw [hW] at hRBe
  obtain ⟨e1, e2, e3, _⟩ := hRBe
  have HS := Lib.hid (impl_SectionsValid.calls k A0 c0 l0 A1 c1 l1 a W (Kd.C_below hr0 hB) hc0 (Kd.C_below hr1 hB) hc1 ha)
  have HB := Aside0.mk hB
  have HRB := Aside0.mk hRB
  have HWQ := Lib.hid hW
  clear hB hRB hW
  cases a with
  | false =>
    rw [if_neg (by simp)] at h
    injection h with h
    injection h with h1 h2
    subst h1 h2
    clear hr0 hc0 hr1 hc1 hr2 hc2 ha
    go_enter Try.func39, Try.ntmps39
    go_wp2_with fail
    rw [← HWQ.out]
    clear e1 e2 e3
    refine HS.out.mono ?_
    rintro e w2 ⟨rfl, hbx⟩
    ((have n0_ := Aside0.mk (below_step HB.out hbx); have n1_ := Aside0.mk (HRB.out.below hbx); clear HB HRB hbx; (try clear kset ksec kjob); have HB := n0_; have HRB := n1_; clear n0_ n1_; ((have kset := HRB.out.1; have ksec := HRB.out.2.1; have kjob := HRB.out.2.2.1))))
    ((have hq0 := (blk_cell HRB.out.2.2.2 0).trans rfl; have hq1 := (blk_cell HRB.out.2.2.2 1).trans rfl; have hqf0 := blk_frozen HRB.out.2.2.2 0; have hqf1 := blk_frozen HRB.out.2.2.2 1))
    go_wp2_with fail
    (((try simp only [Exit.inBlock, Exit.then]); have ho := sched_out (b := w.heap.size) (g := w.heap.size + 1 + 1 + 1) (by omega) (Nat.le_refl _) HRB.out.2.2.2 HB.out (Kd.R_nil (Kd.int .i64) 3 _ _ _) (Kd.R_nil (Kd.int .i64) 3 _ _ _) (.slice none 0 0) (.slice none 0 0); refine bodyPost_ret (results_cell_row rfl _ _ (w.heap.size + 1 + 1 + 1) 32 #[.slice none 0 0, .slice none 0 0] (0, 0) _ rfl (blk_put (blk_put HRB.out.2.2.2 0 _ rfl) 1 _ rfl) Try.underlying32 rfl (by kernel_rfl)) rfl ?_; exact ⟨_, _, rfl, ho.1, ho.2.1, ho.2.2⟩))
  | true =>
    rw [if_pos rfl] at h
    obtain ⟨b, hb⟩ : ∃ b, impl_JobsLegal.f l0 l2 = some b := by
      cases hs : impl_JobsLegal.f l0 l2 with
      | none => rw [hs] at h; cases h
      | some b => exact ⟨b, rfl⟩
    rw [hb, Option.bind_some] at h
    have HL := Lib.hid (fun (V : World) (hV : Below w.heap.size w V) => impl_JobsLegal.calls A0 c0 l0 A2 c2 l2 b V (Kd.C_below hr0 hV) hc0 (Kd.C_below hr2 hV) hc2 hb)
    cases b with
    | false =>
      rw [if_neg (by simp)] at h
      injection h with h
      injection h with h1 h2
      subst h1 h2
      clear hr0 hc0 hr1 hc1 hr2 hc2 ha hb
      go_enter Try.func39, Try.ntmps39
      go_wp2_with fail
      rw [← HWQ.out]
      clear e1 e2 e3
      refine HS.out.mono ?_
      rintro e w2 ⟨rfl, hbx⟩
      ((have n0_ := Aside0.mk (below_step HB.out hbx); have n1_ := Aside0.mk (HRB.out.below hbx); clear HB HRB hbx; (try clear kset ksec kjob); have HB := n0_; have HRB := n1_; clear n0_ n1_; ((have kset := HRB.out.1; have ksec := HRB.out.2.1; have kjob := HRB.out.2.2.1))))
      go_wp2_with (go_at_call 35; refine (HL.out _ HB.out).mono ?_; rintro e w3 ⟨rfl, hbx⟩; ((have n0_ := Aside0.mk (below_step HB.out hbx); have n1_ := Aside0.mk (HRB.out.below hbx); clear HB HRB hbx; (try clear kset ksec kjob); have HB := n0_; have HRB := n1_; clear n0_ n1_; ((have kset := HRB.out.1; have ksec := HRB.out.2.1; have kjob := HRB.out.2.2.1)))); ((have hq0 := (blk_cell HRB.out.2.2.2 0).trans rfl; have hq1 := (blk_cell HRB.out.2.2.2 1).trans rfl; have hqf0 := blk_frozen HRB.out.2.2.2 0; have hqf1 := blk_frozen HRB.out.2.2.2 1)))
      (((try simp only [Exit.inBlock, Exit.then]); have ho := sched_out (b := w.heap.size) (g := w.heap.size + 1 + 1 + 1) (by omega) (Nat.le_refl _) HRB.out.2.2.2 HB.out (Kd.R_nil (Kd.int .i64) 3 _ _ _) (Kd.R_nil (Kd.int .i64) 3 _ _ _) (.slice none 0 0) (.slice none 0 0); refine bodyPost_ret (results_cell_row rfl _ _ (w.heap.size + 1 + 1 + 1) 32 #[.slice none 0 0, .slice none 0 0] (0, 0) _ rfl (blk_put (blk_put HRB.out.2.2.2 0 _ rfl) 1 _ rfl) Try.underlying32 rfl (by kernel_rfl)) rfl ?_; exact ⟨_, _, rfl, ho.1, ho.2.1, ho.2.2⟩))
    | true =>
      rw [if_pos rfl] at h
      obtain ⟨top, htop⟩ : ∃ top, impl_ceilings.f k l0 l1 = some top := by
        cases hs : impl_ceilings.f k l0 l1 with
        | none => rw [hs] at h; cases h
        | some b => exact ⟨b, rfl⟩
      rw [htop, Option.bind_some] at h
      cases hsi : secsIn l0 l1 top with
      | false => rw [hsi, if_neg (by simp)] at h; cases h
      | true =>
        rw [hsi, if_pos rfl] at h
        injection h with h
        injection h with h1 h2
        subst h1 h2
        have hsv : impl_SetValid.f l0 = some true ∧ legalB l0 l2 = true := by
          unfold impl_JobsLegal.f at hb
          cases hs : impl_SetValid.f l0 with
          | none => rw [hs] at hb; cases hb
          | some b => rw [hs, Option.bind_some] at hb; have := Option.some.inj hb; rw [Bool.and_eq_true] at this; rw [this.1]; exact ⟨rfl, this.2⟩
        obtain ⟨hl1, hl2⟩ := legal_jobs hsv.1 hsv.2
        have hlg := hsv.2
        unfold legalB at hlg
        rw [Bool.and_eq_true] at hlg
        have hin := ordB_in hlg.1
        unfold secsIn at hsi
        rw [Bool.and_eq_true, Bool.and_eq_true, List.all_eq_true] at hsi
        obtain ⟨ht3, hsl, hsx⟩ := hsi
        have ht3 := of_decide_eq_true ht3
        have hsl := of_decide_eq_true hsl
        have hsec : ∀ i : Int, 0 ≤ i → i < l1.length → (0 ≤ (rd_T64 l1 i).f0 ∧ (rd_T64 l1 i).f0 ≤ 8) ∧ (0 ≤ (rd_T64 l1 i).f1 ∧ (rd_T64 l1 i).f1 ≤ 8) ∧ 0 ≤ (rd_T64 l1 i).f2 ∧ (rd_T64 l1 i).f2 < top.length := by
          intro i h0 h1
          have hm : rd_T64 l1 i ∈ l1 := by
            unfold rd_T64
            rw [List.getD_eq_getElem?_getD, List.getElem?_eq_getElem (by omega)]
            exact List.getElem_mem _
          have := of_decide_eq_true (hsx _ hm)
          omega
        have HC := Lib.hid (fun (V : World) (hV : Below w.heap.size w V) => impl_ceilings.calls k A0 c0 l0 A1 c1 l1 top V (Kd.C_below hr0 hV) hc0 (Kd.C_below hr1 hV) hc1 htop)
        have HSIM := Lib.hid (fun (V : World) (gt : Nat) (At : Option Addr) (ct : Nat) (hV : Below w.heap.size w V) (hbx : ResB V w.heap.size A0 l0.length c0 A1 l1.length c1 A2 l2.length c2) (hct : V.cell? ⟨gt, 0, none⟩ = some (.slice At top.length ct)) (htr : Kd.R (Kd.int .i64) 3 V w.heap.size (fun _ => True) (.slice At top.length ct) top) =>
          simulate_calls (fun U (_ : Unit) => ResB U w.heap.size A0 l0.length c0 A1 l1.length c1 A2 l2.length c2 ∧ U.cell? ⟨gt, 0, none⟩ = some (.slice At top.length ct) ∧ Kd.R (Kd.int .i64) 3 U w.heap.size (fun _ => True) (.slice At top.length ct) top) (resPick l0 l2 l1 top) () (fun _ => False) w V hV (fun k hk => hk.elim) A2 c2 l2 hr2 hc2 hl1 hl2 109 #[] #[.pointer (some ⟨w.heap.size + 1 + 1, 0, none⟩), .pointer (some ⟨w.heap.size + 1, 0, none⟩), .pointer (some ⟨gt, 0, none⟩), .pointer (some ⟨w.heap.size, 0, none⟩)] Try.func109 (by kernel_rfl) rfl ⟨hbx, hct, htr⟩
            (fun U U' _ hU hk hz => by
              obtain ⟨⟨u1, u2, u3, u4⟩, u5, u6⟩ := hU
              have b1 := World.block_lt_of_cell? _ _ hbx.1
              have b2 := World.block_lt_of_cell? _ _ hbx.2.1
              have b3 := World.block_lt_of_cell? _ _ hbx.2.2.1
              have b4 := blk_lt hbx.2.2.2
              have b5 := World.block_lt_of_cell? _ _ hct
              exact ⟨⟨(World.cell?_of_block (hk _ b1)).trans u1, (World.cell?_of_block (hk _ b2)).trans u2, (World.cell?_of_block (hk _ b3)).trans u3, (hk _ b4).trans u4⟩, (World.cell?_of_block (hk _ b5)).trans u5, row_step u6 (fun k e _ => hk k (Kd.R_lt htr k e))⟩) (resPick_ok l0 l2 l1 top)
            (fun g D cd U s done t ht hU hM hg hB hz => (resPick_calls (w.heap.size + 1 + 1) (w.heap.size + 1) gt w.heap.size g A2 c2 l2 D cd done t l0 A0 c0 l1 A1 c1 top At ct U hM hU.1.2.2.1 hU.1.2.1 hU.2.1 hU.1.1 (Kd.C_below hr1 hB) (Kd.R_reads' hU.2.2).2.2 (Kd.C_below hr0 hB) (fun i hi => jobIn_f0 (hin.2 i hi)) hsl hsec).mono (by
              rintro e w' ⟨rfl, hb⟩
              exact ⟨rfl, ⟨hU.1.below hb, (hb.cell (World.block_lt_of_cell? _ _ hU.2.1)).trans hU.2.1, Kd.R_below hU.2.2 hb⟩, Kept.of_below hb _, hb.mono hB.size⟩)))
        clear hr0 hc0 hr1 hc1 hr2 hc2 ha hb hsv hl1 hl2 hlg hin hsl hsx hsec htop ht3
        go_enter Try.func39, Try.ntmps39
        go_wp2_with fail
        rw [← HWQ.out]
        clear e1 e2 e3
        refine HS.out.mono ?_
        rintro e w2 ⟨rfl, hbx⟩
        ((have n0_ := Aside0.mk (below_step HB.out hbx); have n1_ := Aside0.mk (HRB.out.below hbx); clear HB HRB hbx; (try clear kset ksec kjob); have HB := n0_; have HRB := n1_; clear n0_ n1_; ((have kset := HRB.out.1; have ksec := HRB.out.2.1; have kjob := HRB.out.2.2.1))))
        go_wp2_with (first | (go_at_call 35; refine (HL.out _ HB.out).mono ?_; rintro e w3 ⟨rfl, hbx⟩; ((have n0_ := Aside0.mk (below_step HB.out hbx); have n1_ := Aside0.mk (HRB.out.below hbx); clear HB HRB hbx; (try clear kset ksec kjob); have HB := n0_; have HRB := n1_; clear n0_ n1_; ((have kset := HRB.out.1; have ksec := HRB.out.2.1; have kjob := HRB.out.2.2.1))))) | (go_at_call 108; refine (HC.out _ HB.out).mono ?_; rintro e w4 ⟨tv, rfl, htr, hbx⟩; have HTR := Aside0.mk (Kd.R_lower htr HB.out.size); clear htr; obtain ⟨At, ct, et⟩ := Kd.R_slice HTR.out; subst et; ((have n0_ := Aside0.mk (below_step HB.out hbx); have n1_ := Aside0.mk (HRB.out.below hbx); clear HB HRB hbx; (try clear kset ksec kjob); have HB := n0_; have HRB := n1_; clear n0_ n1_; ((have kset := HRB.out.1; have ksec := HRB.out.2.1; have kjob := HRB.out.2.2.1)))); have kA := fun (a : Addr) (v : Value) (hv : w4.cell? a = some v) => ((below_alloc (Below.refl w4.heap.size w4) (.cells #[.slice At top.length ct] 30)).cell (World.block_lt_of_cell? _ _ hv)).trans hv; have ksetA := kA _ _ kset; have ksecA := kA _ _ ksec; have kjobA := kA _ _ kjob; clear kA) | (go_at_call 80; have HB5 := Aside0.mk (below_alloc HB.out (.cells #[.slice At top.length ct] 30)); have HRB5 := Aside0.mk (HRB.out.below (below_alloc (Below.refl _ _) (.cells #[.slice At top.length ct] 30))); have hct5 : (w4.alloc (.cells #[.slice At top.length ct] 30)).cell? ⟨w4.heap.size, 0, none⟩ = some (.slice At top.length ct) := (by rw [World.cell?_alloc_at _ _ _ _ rfl]; rfl); refine (HSIM.out _ _ _ _ HB5.out HRB5.out hct5 (Kd.R_alloc HTR.out _)).mono ?_; rintro e w6 ⟨v0, v1, rfl, hr0, hr1, hb6, hk6, _⟩; obtain ⟨Aa, ca, ea⟩ := Kd.R_slice hr0; obtain ⟨Ab, cb, eb⟩ := Kd.R_slice hr1; subst ea eb; have H46 := Aside0.mk (blk_kept HRB5.out.2.2.2 hk6 (fun h => h)); have HR0 := Aside0.mk hr0; have HR1 := Aside0.mk hr1; have HB6 := Aside0.mk hb6; have hq0 := (blk_cell H46.out 0).trans rfl; have hq1 := (blk_cell H46.out 1).trans rfl; have hqf0 := blk_frozen H46.out 0; have hqf1 := blk_frozen H46.out 1; clear hr0 hr1 hb6 hk6))
        (try simp only [Exit.inBlock, Exit.then])
        refine bodyPost_ret (results_cell_row rfl _ _ (w.heap.size + 1 + 1 + 1) 32 #[.slice Aa _ ca, .slice Ab _ cb] (0, 0) _ rfl (blk_put (blk_put H46.out 0 _ rfl) 1 _ rfl) Try.underlying32 rfl (by kernel_rfl)) rfl ?_
        have ho := sched_out (g := w.heap.size + 1 + 1 + 1) (by omega) HB5.out.size H46.out HB6.out HR0.out HR1.out
        exact ⟨_, _, rfl, (ho _ _).1, (ho _ _).2.1, (ho _ _).2.2⟩

end Go.Proofs.Ytonifhkplniblaa.Print

namespace Go.Proofs.Ytonifhkplniblaa.Print
open Go.RowKit Go.Proofs.YtonifhkplniblaaW.PrintWords Go.Proofs.YtonifhkplniblaaW.PrintLast Go.Proofs.YtonifhkplniblaaW.PrintMore
attribute [local go_sem] max2_int min2_int max_two min_two max_three min_three max_four min_four   -- for this text's walks alone
set_option linter.unusedVariables false
set_option linter.unusedSimpArgs false

/-! ### laws_eqJob: function 88 -/
def laws_eqJob.f (a0_0 : Int) (a0_1 : Int) (a0_2 : Int) (a0_3 : Int) (a1_0 : Int) (a1_1 : Int) (a1_2 : Int) (a1_3 : Int) : Option (Bool) := if a0_0 = a1_0 then (if a0_1 = a1_1 then (if a0_2 = a1_2 then (if a0_3 = a1_3 then (some true) else (some false)) else (some false)) else (some false)) else (some false)
set_option maxHeartbeats 8000000 in
set_option maxRecDepth 100000 in
theorem laws_eqJob.calls (a0_0 : Int) (a0_1 : Int) (a0_2 : Int) (a0_3 : Int) (a1_0 : Int) (a1_1 : Int) (a1_2 : Int) (a1_3 : Int) (r : Bool) (w : World) (h : laws_eqJob.f a0_0 a0_1 a0_2 a0_3 a1_0 a1_1 a1_2 a1_3 = some r) :
    Calls Try.prog 88 #[.agg #[.int .i64 a0_0, .int .i64 a0_1, .int .i64 a0_2, .int .i64 a0_3], .agg #[.int .i64 a1_0, .int .i64 a1_1, .int .i64 a1_2, .int .i64 a1_3]] w fun e w' => e = .returned (.bool r) ∧ Below w.heap.size w w' := by
  have hu67 := Try.underlying67
  have HB := Aside0.mk (Below.refl w.heap.size w)
  have H : (if a0_0 = a1_0 then (if a0_1 = a1_1 then (if a0_2 = a1_2 then (if a0_3 = a1_3 then (some true) else (some false)) else (some false)) else (some false)) else (some false)) = some r := h
  clear h
  by_cases c3 : a0_0 = a1_0
  · rw [if_pos c3] at H
    have c3b0 : (a0_0 == a1_0) = true := beq_iff_eq.mpr c3
    have c3b1 : (a0_0 != a1_0) = false := bne_eq_false_iff_eq.mpr c3
    clear c3
    by_cases c4 : a0_1 = a1_1
    · rw [if_pos c4] at H
      have c4b0 : (a0_1 == a1_1) = true := beq_iff_eq.mpr c4
      have c4b1 : (a0_1 != a1_1) = false := bne_eq_false_iff_eq.mpr c4
      clear c4
      by_cases c5 : a0_2 = a1_2
      · rw [if_pos c5] at H
        have c5b0 : (a0_2 == a1_2) = true := beq_iff_eq.mpr c5
        have c5b1 : (a0_2 != a1_2) = false := bne_eq_false_iff_eq.mpr c5
        clear c5
        by_cases c6 : a0_3 = a1_3
        · rw [if_pos c6] at H
          have c6b0 : (a0_3 == a1_3) = true := beq_iff_eq.mpr c6
          have c6b1 : (a0_3 != a1_3) = false := bne_eq_false_iff_eq.mpr c6
          clear c6
          obtain rfl := Option.some.inj H
          go_enter Try.func88, Try.ntmps88
          go_wp2_with (first | ((with_reducible refine gate_dst (N := 2) rfl ?_); refine box_event ?hg (N := 2) ?hd (cs := #[.int .i64 a0_0, .int .i64 a0_1, .int .i64 a0_2, .int .i64 a0_3]) (t := 67) ?hr ?_; (case hd => rfl); (case hg => rfl); (case hr => first | (go_simp; done) | (go_simp; rfl)); intro gb101 hg w7 hbox hb; have n0_ := Aside0.mk (below_step (by repeat (first | (with_reducible first | exact HB.out | apply below_alloc | apply pw_below_drewN | apply below_drew1) | exact HB.out)) hb); have n1_ := Aside0.mk (hbox); have n2_ := Aside0.mk ((by rw [hg]; exact (below_size (by repeat (first | (with_reducible first | exact HB.out | apply below_alloc | apply pw_below_drewN | apply below_drew1) | exact HB.out))) : w.heap.size ≤ gb101)); have n3_ := Aside0.mk ((by rw [hg]; exact (below_size (by repeat (first | (with_reducible first | exact HB.out | apply below_alloc | apply pw_below_drewN | apply below_drew1) | exact HB.out))) : w.heap.size ≤ gb101)); clear HB; have HB := n0_; have BK101 := n1_; have GW101 := n2_; have GE101 := n3_; clear n0_ n1_ n2_ n3_; clear hb hbox hg) | ((with_reducible refine gate_dst (N := 3) rfl ?_); refine box_event ?hg (N := 3) ?hd (cs := #[.int .i64 a1_0, .int .i64 a1_1, .int .i64 a1_2, .int .i64 a1_3]) (t := 67) ?hr ?_; (case hd => rfl); (case hg => rfl); (case hr => first | (go_simp; done) | (go_simp; rfl)); intro gb102 hg w8 hbox hb; have n0_ := Aside0.mk (blk_below (g := gb101) (o := .cells #[.int .i64 a0_0, .int .i64 a0_1, .int .i64 a0_2, .int .i64 a0_3] 67 (0, 0)) (by (with_reducible repeat (first | refine blk_drewN ?_ _ | refine blk_drew ?_ | refine blk_alloc ?_ _)); exact BK101.out) hb); have n1_ := Aside0.mk (below_step (by repeat (first | (with_reducible first | exact HB.out | apply below_alloc | apply pw_below_drewN | apply below_drew1 | refine below_set ?_ GE101.out) | exact HB.out)) hb); have n2_ := Aside0.mk (hbox); have n3_ := Aside0.mk ((by rw [hg]; exact (below_size (by repeat (first | (with_reducible first | exact HB.out | apply below_alloc | apply pw_below_drewN | apply below_drew1 | refine below_set ?_ GE101.out) | exact HB.out))) : w.heap.size ≤ gb102)); have n4_ := Aside0.mk ((by rw [hg]; exact (below_size (by repeat (first | (with_reducible first | exact HB.out | apply below_alloc | apply pw_below_drewN | apply below_drew1 | refine below_set ?_ GE101.out) | exact HB.out))) : w.heap.size ≤ gb102)); have n5_ := Aside0.mk ((by rw [hg]; exact Nat.ne_of_lt (blk_lt (g := gb101) (o := .cells #[.int .i64 a0_0, .int .i64 a0_1, .int .i64 a0_2, .int .i64 a0_3] 67 (0, 0)) (by (with_reducible repeat (first | refine blk_drewN ?_ _ | refine blk_drew ?_ | refine blk_alloc ?_ _)); exact BK101.out)) : gb101 ≠ gb102)); have n6_ := Aside0.mk ((by rw [hg]; exact Nat.ne_of_gt (blk_lt (g := gb101) (o := .cells #[.int .i64 a0_0, .int .i64 a0_1, .int .i64 a0_2, .int .i64 a0_3] 67 (0, 0)) (by (with_reducible repeat (first | refine blk_drewN ?_ _ | refine blk_drew ?_ | refine blk_alloc ?_ _)); exact BK101.out)) : gb102 ≠ gb101)); clear BK101; clear HB; have BK101 := n0_; have HB := n1_; have BK102 := n2_; have GW102 := n3_; have GE102 := n4_; have NB101_102 := n5_; have NB102_101 := n6_; clear n0_ n1_ n2_ n3_ n4_ n5_ n6_; clear hb hbox hg; have hnb9 := NB101_102.out; have hnc9 := NB102_101.out; have hcz10_0 : w8.cell? ⟨gb101, 0, none⟩ = some (.int .i64 a0_0) := (blk_cell BK101.out 0).trans rfl; have hcz10_1 : w8.cell? ⟨gb101, 1, none⟩ = some (.int .i64 a0_1) := (blk_cell BK101.out 1).trans rfl; have hcz10_2 : w8.cell? ⟨gb101, 2, none⟩ = some (.int .i64 a0_2) := (blk_cell BK101.out 2).trans rfl; have hcz10_3 : w8.cell? ⟨gb101, 3, none⟩ = some (.int .i64 a0_3) := (blk_cell BK101.out 3).trans rfl; have hfz10_0 := blk_frozen BK101.out 0; have hfz10_1 := blk_frozen BK101.out 1; have hfz10_2 := blk_frozen BK101.out 2; have hfz10_3 := blk_frozen BK101.out 3; have hcz11_0 : w8.cell? ⟨gb102, 0, none⟩ = some (.int .i64 a1_0) := (blk_cell BK102.out 0).trans rfl; have hcz11_1 : w8.cell? ⟨gb102, 1, none⟩ = some (.int .i64 a1_1) := (blk_cell BK102.out 1).trans rfl; have hcz11_2 : w8.cell? ⟨gb102, 2, none⟩ = some (.int .i64 a1_2) := (blk_cell BK102.out 2).trans rfl; have hcz11_3 : w8.cell? ⟨gb102, 3, none⟩ = some (.int .i64 a1_3) := (blk_cell BK102.out 3).trans rfl; have hfz11_0 := blk_frozen BK102.out 0; have hfz11_1 := blk_frozen BK102.out 1; have hfz11_2 := blk_frozen BK102.out 2; have hfz11_3 := blk_frozen BK102.out 3))
          go_ret
          exact ⟨by first | rfl | (simp [errW_none, errW_some] <;> rfl) | (simp [*, errW_none, errW_some] <;> rfl), by repeat (first | (with_reducible first | exact HB.out | apply below_alloc | apply pw_below_drewN | apply below_drew1 | refine below_set ?_ GE101.out | refine below_set ?_ GE102.out) | exact HB.out)⟩
        · rw [if_neg c6] at H
          have c6b0 : (a0_3 == a1_3) = false := beq_eq_false_iff_ne.mpr c6
          have c6b1 : (a0_3 != a1_3) = true := bne_iff_ne.mpr c6
          obtain rfl := Option.some.inj H
          go_enter Try.func88, Try.ntmps88
          go_wp2_with (first | ((with_reducible refine gate_dst (N := 2) rfl ?_); refine box_event ?hg (N := 2) ?hd (cs := #[.int .i64 a0_0, .int .i64 a0_1, .int .i64 a0_2, .int .i64 a0_3]) (t := 67) ?hr ?_; (case hd => rfl); (case hg => rfl); (case hr => first | (go_simp; done) | (go_simp; rfl)); intro gb101 hg w12 hbox hb; have n0_ := Aside0.mk (below_step (by repeat (first | (with_reducible first | exact HB.out | apply below_alloc | apply pw_below_drewN | apply below_drew1) | exact HB.out)) hb); have n1_ := Aside0.mk (hbox); have n2_ := Aside0.mk ((by rw [hg]; exact (below_size (by repeat (first | (with_reducible first | exact HB.out | apply below_alloc | apply pw_below_drewN | apply below_drew1) | exact HB.out))) : w.heap.size ≤ gb101)); have n3_ := Aside0.mk ((by rw [hg]; exact (below_size (by repeat (first | (with_reducible first | exact HB.out | apply below_alloc | apply pw_below_drewN | apply below_drew1) | exact HB.out))) : w.heap.size ≤ gb101)); clear HB; have HB := n0_; have BK101 := n1_; have GW101 := n2_; have GE101 := n3_; clear n0_ n1_ n2_ n3_; clear hb hbox hg) | ((with_reducible refine gate_dst (N := 3) rfl ?_); refine box_event ?hg (N := 3) ?hd (cs := #[.int .i64 a1_0, .int .i64 a1_1, .int .i64 a1_2, .int .i64 a1_3]) (t := 67) ?hr ?_; (case hd => rfl); (case hg => rfl); (case hr => first | (go_simp; done) | (go_simp; rfl)); intro gb102 hg w13 hbox hb; have n0_ := Aside0.mk (blk_below (g := gb101) (o := .cells #[.int .i64 a0_0, .int .i64 a0_1, .int .i64 a0_2, .int .i64 a0_3] 67 (0, 0)) (by (with_reducible repeat (first | refine blk_drewN ?_ _ | refine blk_drew ?_ | refine blk_alloc ?_ _)); exact BK101.out) hb); have n1_ := Aside0.mk (below_step (by repeat (first | (with_reducible first | exact HB.out | apply below_alloc | apply pw_below_drewN | apply below_drew1 | refine below_set ?_ GE101.out) | exact HB.out)) hb); have n2_ := Aside0.mk (hbox); have n3_ := Aside0.mk ((by rw [hg]; exact (below_size (by repeat (first | (with_reducible first | exact HB.out | apply below_alloc | apply pw_below_drewN | apply below_drew1 | refine below_set ?_ GE101.out) | exact HB.out))) : w.heap.size ≤ gb102)); have n4_ := Aside0.mk ((by rw [hg]; exact (below_size (by repeat (first | (with_reducible first | exact HB.out | apply below_alloc | apply pw_below_drewN | apply below_drew1 | refine below_set ?_ GE101.out) | exact HB.out))) : w.heap.size ≤ gb102)); have n5_ := Aside0.mk ((by rw [hg]; exact Nat.ne_of_lt (blk_lt (g := gb101) (o := .cells #[.int .i64 a0_0, .int .i64 a0_1, .int .i64 a0_2, .int .i64 a0_3] 67 (0, 0)) (by (with_reducible repeat (first | refine blk_drewN ?_ _ | refine blk_drew ?_ | refine blk_alloc ?_ _)); exact BK101.out)) : gb101 ≠ gb102)); have n6_ := Aside0.mk ((by rw [hg]; exact Nat.ne_of_gt (blk_lt (g := gb101) (o := .cells #[.int .i64 a0_0, .int .i64 a0_1, .int .i64 a0_2, .int .i64 a0_3] 67 (0, 0)) (by (with_reducible repeat (first | refine blk_drewN ?_ _ | refine blk_drew ?_ | refine blk_alloc ?_ _)); exact BK101.out)) : gb102 ≠ gb101)); clear BK101; clear HB; have BK101 := n0_; have HB := n1_; have BK102 := n2_; have GW102 := n3_; have GE102 := n4_; have NB101_102 := n5_; have NB102_101 := n6_; clear n0_ n1_ n2_ n3_ n4_ n5_ n6_; clear hb hbox hg; have hnb14 := NB101_102.out; have hnc14 := NB102_101.out; have hcz15_0 : w13.cell? ⟨gb101, 0, none⟩ = some (.int .i64 a0_0) := (blk_cell BK101.out 0).trans rfl; have hcz15_1 : w13.cell? ⟨gb101, 1, none⟩ = some (.int .i64 a0_1) := (blk_cell BK101.out 1).trans rfl; have hcz15_2 : w13.cell? ⟨gb101, 2, none⟩ = some (.int .i64 a0_2) := (blk_cell BK101.out 2).trans rfl; have hcz15_3 : w13.cell? ⟨gb101, 3, none⟩ = some (.int .i64 a0_3) := (blk_cell BK101.out 3).trans rfl; have hfz15_0 := blk_frozen BK101.out 0; have hfz15_1 := blk_frozen BK101.out 1; have hfz15_2 := blk_frozen BK101.out 2; have hfz15_3 := blk_frozen BK101.out 3; have hcz16_0 : w13.cell? ⟨gb102, 0, none⟩ = some (.int .i64 a1_0) := (blk_cell BK102.out 0).trans rfl; have hcz16_1 : w13.cell? ⟨gb102, 1, none⟩ = some (.int .i64 a1_1) := (blk_cell BK102.out 1).trans rfl; have hcz16_2 : w13.cell? ⟨gb102, 2, none⟩ = some (.int .i64 a1_2) := (blk_cell BK102.out 2).trans rfl; have hcz16_3 : w13.cell? ⟨gb102, 3, none⟩ = some (.int .i64 a1_3) := (blk_cell BK102.out 3).trans rfl; have hfz16_0 := blk_frozen BK102.out 0; have hfz16_1 := blk_frozen BK102.out 1; have hfz16_2 := blk_frozen BK102.out 2; have hfz16_3 := blk_frozen BK102.out 3))
          go_ret
          exact ⟨by first | rfl | (simp [errW_none, errW_some] <;> rfl) | (simp [*, errW_none, errW_some] <;> rfl), by repeat (first | (with_reducible first | exact HB.out | apply below_alloc | apply pw_below_drewN | apply below_drew1 | refine below_set ?_ GE101.out | refine below_set ?_ GE102.out) | exact HB.out)⟩
      · rw [if_neg c5] at H
        have c5b0 : (a0_2 == a1_2) = false := beq_eq_false_iff_ne.mpr c5
        have c5b1 : (a0_2 != a1_2) = true := bne_iff_ne.mpr c5
        obtain rfl := Option.some.inj H
        go_enter Try.func88, Try.ntmps88
        go_wp2_with (first | ((with_reducible refine gate_dst (N := 2) rfl ?_); refine box_event ?hg (N := 2) ?hd (cs := #[.int .i64 a0_0, .int .i64 a0_1, .int .i64 a0_2, .int .i64 a0_3]) (t := 67) ?hr ?_; (case hd => rfl); (case hg => rfl); (case hr => first | (go_simp; done) | (go_simp; rfl)); intro gb101 hg w17 hbox hb; have n0_ := Aside0.mk (below_step (by repeat (first | (with_reducible first | exact HB.out | apply below_alloc | apply pw_below_drewN | apply below_drew1) | exact HB.out)) hb); have n1_ := Aside0.mk (hbox); have n2_ := Aside0.mk ((by rw [hg]; exact (below_size (by repeat (first | (with_reducible first | exact HB.out | apply below_alloc | apply pw_below_drewN | apply below_drew1) | exact HB.out))) : w.heap.size ≤ gb101)); have n3_ := Aside0.mk ((by rw [hg]; exact (below_size (by repeat (first | (with_reducible first | exact HB.out | apply below_alloc | apply pw_below_drewN | apply below_drew1) | exact HB.out))) : w.heap.size ≤ gb101)); clear HB; have HB := n0_; have BK101 := n1_; have GW101 := n2_; have GE101 := n3_; clear n0_ n1_ n2_ n3_; clear hb hbox hg) | ((with_reducible refine gate_dst (N := 3) rfl ?_); refine box_event ?hg (N := 3) ?hd (cs := #[.int .i64 a1_0, .int .i64 a1_1, .int .i64 a1_2, .int .i64 a1_3]) (t := 67) ?hr ?_; (case hd => rfl); (case hg => rfl); (case hr => first | (go_simp; done) | (go_simp; rfl)); intro gb102 hg w18 hbox hb; have n0_ := Aside0.mk (blk_below (g := gb101) (o := .cells #[.int .i64 a0_0, .int .i64 a0_1, .int .i64 a0_2, .int .i64 a0_3] 67 (0, 0)) (by (with_reducible repeat (first | refine blk_drewN ?_ _ | refine blk_drew ?_ | refine blk_alloc ?_ _)); exact BK101.out) hb); have n1_ := Aside0.mk (below_step (by repeat (first | (with_reducible first | exact HB.out | apply below_alloc | apply pw_below_drewN | apply below_drew1 | refine below_set ?_ GE101.out) | exact HB.out)) hb); have n2_ := Aside0.mk (hbox); have n3_ := Aside0.mk ((by rw [hg]; exact (below_size (by repeat (first | (with_reducible first | exact HB.out | apply below_alloc | apply pw_below_drewN | apply below_drew1 | refine below_set ?_ GE101.out) | exact HB.out))) : w.heap.size ≤ gb102)); have n4_ := Aside0.mk ((by rw [hg]; exact (below_size (by repeat (first | (with_reducible first | exact HB.out | apply below_alloc | apply pw_below_drewN | apply below_drew1 | refine below_set ?_ GE101.out) | exact HB.out))) : w.heap.size ≤ gb102)); have n5_ := Aside0.mk ((by rw [hg]; exact Nat.ne_of_lt (blk_lt (g := gb101) (o := .cells #[.int .i64 a0_0, .int .i64 a0_1, .int .i64 a0_2, .int .i64 a0_3] 67 (0, 0)) (by (with_reducible repeat (first | refine blk_drewN ?_ _ | refine blk_drew ?_ | refine blk_alloc ?_ _)); exact BK101.out)) : gb101 ≠ gb102)); have n6_ := Aside0.mk ((by rw [hg]; exact Nat.ne_of_gt (blk_lt (g := gb101) (o := .cells #[.int .i64 a0_0, .int .i64 a0_1, .int .i64 a0_2, .int .i64 a0_3] 67 (0, 0)) (by (with_reducible repeat (first | refine blk_drewN ?_ _ | refine blk_drew ?_ | refine blk_alloc ?_ _)); exact BK101.out)) : gb102 ≠ gb101)); clear BK101; clear HB; have BK101 := n0_; have HB := n1_; have BK102 := n2_; have GW102 := n3_; have GE102 := n4_; have NB101_102 := n5_; have NB102_101 := n6_; clear n0_ n1_ n2_ n3_ n4_ n5_ n6_; clear hb hbox hg; have hnb19 := NB101_102.out; have hnc19 := NB102_101.out; have hcz20_0 : w18.cell? ⟨gb101, 0, none⟩ = some (.int .i64 a0_0) := (blk_cell BK101.out 0).trans rfl; have hcz20_1 : w18.cell? ⟨gb101, 1, none⟩ = some (.int .i64 a0_1) := (blk_cell BK101.out 1).trans rfl; have hcz20_2 : w18.cell? ⟨gb101, 2, none⟩ = some (.int .i64 a0_2) := (blk_cell BK101.out 2).trans rfl; have hcz20_3 : w18.cell? ⟨gb101, 3, none⟩ = some (.int .i64 a0_3) := (blk_cell BK101.out 3).trans rfl; have hfz20_0 := blk_frozen BK101.out 0; have hfz20_1 := blk_frozen BK101.out 1; have hfz20_2 := blk_frozen BK101.out 2; have hfz20_3 := blk_frozen BK101.out 3; have hcz21_0 : w18.cell? ⟨gb102, 0, none⟩ = some (.int .i64 a1_0) := (blk_cell BK102.out 0).trans rfl; have hcz21_1 : w18.cell? ⟨gb102, 1, none⟩ = some (.int .i64 a1_1) := (blk_cell BK102.out 1).trans rfl; have hcz21_2 : w18.cell? ⟨gb102, 2, none⟩ = some (.int .i64 a1_2) := (blk_cell BK102.out 2).trans rfl; have hcz21_3 : w18.cell? ⟨gb102, 3, none⟩ = some (.int .i64 a1_3) := (blk_cell BK102.out 3).trans rfl; have hfz21_0 := blk_frozen BK102.out 0; have hfz21_1 := blk_frozen BK102.out 1; have hfz21_2 := blk_frozen BK102.out 2; have hfz21_3 := blk_frozen BK102.out 3))
        go_ret
        exact ⟨by first | rfl | (simp [errW_none, errW_some] <;> rfl) | (simp [*, errW_none, errW_some] <;> rfl), by repeat (first | (with_reducible first | exact HB.out | apply below_alloc | apply pw_below_drewN | apply below_drew1 | refine below_set ?_ GE101.out | refine below_set ?_ GE102.out) | exact HB.out)⟩
    · rw [if_neg c4] at H
      have c4b0 : (a0_1 == a1_1) = false := beq_eq_false_iff_ne.mpr c4
      have c4b1 : (a0_1 != a1_1) = true := bne_iff_ne.mpr c4
      obtain rfl := Option.some.inj H
      go_enter Try.func88, Try.ntmps88
      go_wp2_with (first | ((with_reducible refine gate_dst (N := 2) rfl ?_); refine box_event ?hg (N := 2) ?hd (cs := #[.int .i64 a0_0, .int .i64 a0_1, .int .i64 a0_2, .int .i64 a0_3]) (t := 67) ?hr ?_; (case hd => rfl); (case hg => rfl); (case hr => first | (go_simp; done) | (go_simp; rfl)); intro gb101 hg w22 hbox hb; have n0_ := Aside0.mk (below_step (by repeat (first | (with_reducible first | exact HB.out | apply below_alloc | apply pw_below_drewN | apply below_drew1) | exact HB.out)) hb); have n1_ := Aside0.mk (hbox); have n2_ := Aside0.mk ((by rw [hg]; exact (below_size (by repeat (first | (with_reducible first | exact HB.out | apply below_alloc | apply pw_below_drewN | apply below_drew1) | exact HB.out))) : w.heap.size ≤ gb101)); have n3_ := Aside0.mk ((by rw [hg]; exact (below_size (by repeat (first | (with_reducible first | exact HB.out | apply below_alloc | apply pw_below_drewN | apply below_drew1) | exact HB.out))) : w.heap.size ≤ gb101)); clear HB; have HB := n0_; have BK101 := n1_; have GW101 := n2_; have GE101 := n3_; clear n0_ n1_ n2_ n3_; clear hb hbox hg) | ((with_reducible refine gate_dst (N := 3) rfl ?_); refine box_event ?hg (N := 3) ?hd (cs := #[.int .i64 a1_0, .int .i64 a1_1, .int .i64 a1_2, .int .i64 a1_3]) (t := 67) ?hr ?_; (case hd => rfl); (case hg => rfl); (case hr => first | (go_simp; done) | (go_simp; rfl)); intro gb102 hg w23 hbox hb; have n0_ := Aside0.mk (blk_below (g := gb101) (o := .cells #[.int .i64 a0_0, .int .i64 a0_1, .int .i64 a0_2, .int .i64 a0_3] 67 (0, 0)) (by (with_reducible repeat (first | refine blk_drewN ?_ _ | refine blk_drew ?_ | refine blk_alloc ?_ _)); exact BK101.out) hb); have n1_ := Aside0.mk (below_step (by repeat (first | (with_reducible first | exact HB.out | apply below_alloc | apply pw_below_drewN | apply below_drew1 | refine below_set ?_ GE101.out) | exact HB.out)) hb); have n2_ := Aside0.mk (hbox); have n3_ := Aside0.mk ((by rw [hg]; exact (below_size (by repeat (first | (with_reducible first | exact HB.out | apply below_alloc | apply pw_below_drewN | apply below_drew1 | refine below_set ?_ GE101.out) | exact HB.out))) : w.heap.size ≤ gb102)); have n4_ := Aside0.mk ((by rw [hg]; exact (below_size (by repeat (first | (with_reducible first | exact HB.out | apply below_alloc | apply pw_below_drewN | apply below_drew1 | refine below_set ?_ GE101.out) | exact HB.out))) : w.heap.size ≤ gb102)); have n5_ := Aside0.mk ((by rw [hg]; exact Nat.ne_of_lt (blk_lt (g := gb101) (o := .cells #[.int .i64 a0_0, .int .i64 a0_1, .int .i64 a0_2, .int .i64 a0_3] 67 (0, 0)) (by (with_reducible repeat (first | refine blk_drewN ?_ _ | refine blk_drew ?_ | refine blk_alloc ?_ _)); exact BK101.out)) : gb101 ≠ gb102)); have n6_ := Aside0.mk ((by rw [hg]; exact Nat.ne_of_gt (blk_lt (g := gb101) (o := .cells #[.int .i64 a0_0, .int .i64 a0_1, .int .i64 a0_2, .int .i64 a0_3] 67 (0, 0)) (by (with_reducible repeat (first | refine blk_drewN ?_ _ | refine blk_drew ?_ | refine blk_alloc ?_ _)); exact BK101.out)) : gb102 ≠ gb101)); clear BK101; clear HB; have BK101 := n0_; have HB := n1_; have BK102 := n2_; have GW102 := n3_; have GE102 := n4_; have NB101_102 := n5_; have NB102_101 := n6_; clear n0_ n1_ n2_ n3_ n4_ n5_ n6_; clear hb hbox hg; have hnb24 := NB101_102.out; have hnc24 := NB102_101.out; have hcz25_0 : w23.cell? ⟨gb101, 0, none⟩ = some (.int .i64 a0_0) := (blk_cell BK101.out 0).trans rfl; have hcz25_1 : w23.cell? ⟨gb101, 1, none⟩ = some (.int .i64 a0_1) := (blk_cell BK101.out 1).trans rfl; have hcz25_2 : w23.cell? ⟨gb101, 2, none⟩ = some (.int .i64 a0_2) := (blk_cell BK101.out 2).trans rfl; have hcz25_3 : w23.cell? ⟨gb101, 3, none⟩ = some (.int .i64 a0_3) := (blk_cell BK101.out 3).trans rfl; have hfz25_0 := blk_frozen BK101.out 0; have hfz25_1 := blk_frozen BK101.out 1; have hfz25_2 := blk_frozen BK101.out 2; have hfz25_3 := blk_frozen BK101.out 3; have hcz26_0 : w23.cell? ⟨gb102, 0, none⟩ = some (.int .i64 a1_0) := (blk_cell BK102.out 0).trans rfl; have hcz26_1 : w23.cell? ⟨gb102, 1, none⟩ = some (.int .i64 a1_1) := (blk_cell BK102.out 1).trans rfl; have hcz26_2 : w23.cell? ⟨gb102, 2, none⟩ = some (.int .i64 a1_2) := (blk_cell BK102.out 2).trans rfl; have hcz26_3 : w23.cell? ⟨gb102, 3, none⟩ = some (.int .i64 a1_3) := (blk_cell BK102.out 3).trans rfl; have hfz26_0 := blk_frozen BK102.out 0; have hfz26_1 := blk_frozen BK102.out 1; have hfz26_2 := blk_frozen BK102.out 2; have hfz26_3 := blk_frozen BK102.out 3))
      go_ret
      exact ⟨by first | rfl | (simp [errW_none, errW_some] <;> rfl) | (simp [*, errW_none, errW_some] <;> rfl), by repeat (first | (with_reducible first | exact HB.out | apply below_alloc | apply pw_below_drewN | apply below_drew1 | refine below_set ?_ GE101.out | refine below_set ?_ GE102.out) | exact HB.out)⟩
  · rw [if_neg c3] at H
    have c3b0 : (a0_0 == a1_0) = false := beq_eq_false_iff_ne.mpr c3
    have c3b1 : (a0_0 != a1_0) = true := bne_iff_ne.mpr c3
    obtain rfl := Option.some.inj H
    go_enter Try.func88, Try.ntmps88
    go_wp2_with (first | ((with_reducible refine gate_dst (N := 2) rfl ?_); refine box_event ?hg (N := 2) ?hd (cs := #[.int .i64 a0_0, .int .i64 a0_1, .int .i64 a0_2, .int .i64 a0_3]) (t := 67) ?hr ?_; (case hd => rfl); (case hg => rfl); (case hr => first | (go_simp; done) | (go_simp; rfl)); intro gb101 hg w27 hbox hb; have n0_ := Aside0.mk (below_step (by repeat (first | (with_reducible first | exact HB.out | apply below_alloc | apply pw_below_drewN | apply below_drew1) | exact HB.out)) hb); have n1_ := Aside0.mk (hbox); have n2_ := Aside0.mk ((by rw [hg]; exact (below_size (by repeat (first | (with_reducible first | exact HB.out | apply below_alloc | apply pw_below_drewN | apply below_drew1) | exact HB.out))) : w.heap.size ≤ gb101)); have n3_ := Aside0.mk ((by rw [hg]; exact (below_size (by repeat (first | (with_reducible first | exact HB.out | apply below_alloc | apply pw_below_drewN | apply below_drew1) | exact HB.out))) : w.heap.size ≤ gb101)); clear HB; have HB := n0_; have BK101 := n1_; have GW101 := n2_; have GE101 := n3_; clear n0_ n1_ n2_ n3_; clear hb hbox hg) | ((with_reducible refine gate_dst (N := 3) rfl ?_); refine box_event ?hg (N := 3) ?hd (cs := #[.int .i64 a1_0, .int .i64 a1_1, .int .i64 a1_2, .int .i64 a1_3]) (t := 67) ?hr ?_; (case hd => rfl); (case hg => rfl); (case hr => first | (go_simp; done) | (go_simp; rfl)); intro gb102 hg w28 hbox hb; have n0_ := Aside0.mk (blk_below (g := gb101) (o := .cells #[.int .i64 a0_0, .int .i64 a0_1, .int .i64 a0_2, .int .i64 a0_3] 67 (0, 0)) (by (with_reducible repeat (first | refine blk_drewN ?_ _ | refine blk_drew ?_ | refine blk_alloc ?_ _)); exact BK101.out) hb); have n1_ := Aside0.mk (below_step (by repeat (first | (with_reducible first | exact HB.out | apply below_alloc | apply pw_below_drewN | apply below_drew1 | refine below_set ?_ GE101.out) | exact HB.out)) hb); have n2_ := Aside0.mk (hbox); have n3_ := Aside0.mk ((by rw [hg]; exact (below_size (by repeat (first | (with_reducible first | exact HB.out | apply below_alloc | apply pw_below_drewN | apply below_drew1 | refine below_set ?_ GE101.out) | exact HB.out))) : w.heap.size ≤ gb102)); have n4_ := Aside0.mk ((by rw [hg]; exact (below_size (by repeat (first | (with_reducible first | exact HB.out | apply below_alloc | apply pw_below_drewN | apply below_drew1 | refine below_set ?_ GE101.out) | exact HB.out))) : w.heap.size ≤ gb102)); have n5_ := Aside0.mk ((by rw [hg]; exact Nat.ne_of_lt (blk_lt (g := gb101) (o := .cells #[.int .i64 a0_0, .int .i64 a0_1, .int .i64 a0_2, .int .i64 a0_3] 67 (0, 0)) (by (with_reducible repeat (first | refine blk_drewN ?_ _ | refine blk_drew ?_ | refine blk_alloc ?_ _)); exact BK101.out)) : gb101 ≠ gb102)); have n6_ := Aside0.mk ((by rw [hg]; exact Nat.ne_of_gt (blk_lt (g := gb101) (o := .cells #[.int .i64 a0_0, .int .i64 a0_1, .int .i64 a0_2, .int .i64 a0_3] 67 (0, 0)) (by (with_reducible repeat (first | refine blk_drewN ?_ _ | refine blk_drew ?_ | refine blk_alloc ?_ _)); exact BK101.out)) : gb102 ≠ gb101)); clear BK101; clear HB; have BK101 := n0_; have HB := n1_; have BK102 := n2_; have GW102 := n3_; have GE102 := n4_; have NB101_102 := n5_; have NB102_101 := n6_; clear n0_ n1_ n2_ n3_ n4_ n5_ n6_; clear hb hbox hg; have hnb29 := NB101_102.out; have hnc29 := NB102_101.out; have hcz30_0 : w28.cell? ⟨gb101, 0, none⟩ = some (.int .i64 a0_0) := (blk_cell BK101.out 0).trans rfl; have hcz30_1 : w28.cell? ⟨gb101, 1, none⟩ = some (.int .i64 a0_1) := (blk_cell BK101.out 1).trans rfl; have hcz30_2 : w28.cell? ⟨gb101, 2, none⟩ = some (.int .i64 a0_2) := (blk_cell BK101.out 2).trans rfl; have hcz30_3 : w28.cell? ⟨gb101, 3, none⟩ = some (.int .i64 a0_3) := (blk_cell BK101.out 3).trans rfl; have hfz30_0 := blk_frozen BK101.out 0; have hfz30_1 := blk_frozen BK101.out 1; have hfz30_2 := blk_frozen BK101.out 2; have hfz30_3 := blk_frozen BK101.out 3; have hcz31_0 : w28.cell? ⟨gb102, 0, none⟩ = some (.int .i64 a1_0) := (blk_cell BK102.out 0).trans rfl; have hcz31_1 : w28.cell? ⟨gb102, 1, none⟩ = some (.int .i64 a1_1) := (blk_cell BK102.out 1).trans rfl; have hcz31_2 : w28.cell? ⟨gb102, 2, none⟩ = some (.int .i64 a1_2) := (blk_cell BK102.out 2).trans rfl; have hcz31_3 : w28.cell? ⟨gb102, 3, none⟩ = some (.int .i64 a1_3) := (blk_cell BK102.out 3).trans rfl; have hfz31_0 := blk_frozen BK102.out 0; have hfz31_1 := blk_frozen BK102.out 1; have hfz31_2 := blk_frozen BK102.out 2; have hfz31_3 := blk_frozen BK102.out 3))
    go_ret
    exact ⟨by first | rfl | (simp [errW_none, errW_some] <;> rfl) | (simp [*, errW_none, errW_some] <;> rfl), by repeat (first | (with_reducible first | exact HB.out | apply below_alloc | apply pw_below_drewN | apply below_drew1 | refine below_set ?_ GE101.out | refine below_set ?_ GE102.out) | exact HB.out)⟩



/-! ### laws_eqJobS: function 25 -/
def laws_eqJobS.l0 : Nat → List (S67) → List (S67) → Int → Option (Bool)
  | 0, _, _, _ => none
  | k + 1, x0, x1, x5 => if x5 < (x0.length : Int) then (if 0 ≤ x5 then (if x5 < (x1.length : Int) then ((laws_eqJob.f ((rd_T67 x0 x5).f0) ((rd_T67 x0 x5).f1) ((rd_T67 x0 x5).f2) ((rd_T67 x0 x5).f3) ((rd_T67 x1 x5).f0) ((rd_T67 x1 x5).f1) ((rd_T67 x1 x5).f2) ((rd_T67 x1 x5).f3)).bind fun t103 => (if t103 = true then (laws_eqJobS.l0 k x0 x1 (wrap64 (x5 + 1))) else (some false))) else (none)) else (none)) else (some true)
def laws_eqJobS.f (k : Nat) (l0 : List (S67)) (l1 : List (S67)) : Option (Bool) := if (l0.length : Int) = (l1.length : Int) then (laws_eqJobS.l0 k l0 l1 0) else (some false)
theorem laws_eqJobS.mono_l : ∀ k, (∀ y0 y1 y2, LeO (laws_eqJobS.l0 k y0 y1 y2) (laws_eqJobS.l0 (k + 1) y0 y1 y2))
  | 0 => fun _ _ _ r h => by simp [laws_eqJobS.l0] at h
  | k + 1 => by
    have ih0 := laws_eqJobS.mono_l k
    · intro y0 y1 y2
      unfold laws_eqJobS.l0
      repeat' first
      | (with_reducible exact ih0 _ _ _)
      | (with_reducible exact LeO.refl _)
      | (with_reducible exact LeO.none _)
      | (with_reducible refine LeO.ite ?_ ?_)
      | (with_reducible refine LeO.bind ?_ (fun _ => ?_))
      | exact ih0 _ _ _
      | exact LeO.none _
      | refine LeO.ite ?_ ?_
      | refine LeO.bind ?_ (fun _ => ?_)
theorem laws_eqJobS.mono : ∀ a0 a1 k, LeO (laws_eqJobS.f k a0 a1) (laws_eqJobS.f (k + 1) a0 a1) := by
  intro a0 a1 k
  have ih0 := laws_eqJobS.mono_l k
  unfold laws_eqJobS.f
  repeat' first
      | (with_reducible exact ih0 _ _ _)
      | (with_reducible exact LeO.refl _)
      | (with_reducible exact LeO.none _)
      | (with_reducible refine LeO.ite ?_ ?_)
      | (with_reducible refine LeO.bind ?_ (fun _ => ?_))
      | exact ih0 _ _ _
      | exact LeO.none _
      | refine LeO.ite ?_ ?_
      | refine LeO.bind ?_ (fun _ => ?_)
def laws_eqJobS.T6 : Bool × List (List Nat × List Nat) := (true, [([], []), ([], []), ([0, 1], [0, 1]), ([2], [2]), ([], []), ([], []), ([4, 5], [4, 5]), ([6], [6]), ([3, 7], [3, 7]), ([8], [8])])
def laws_eqJobS.B6 : List Nat := [0, 0, 3, 7, 0, 0, 48, 112, 255, 511]
theorem laws_eqJobS.tab6 : rtab .any (opsOf Try.f25 6) = laws_eqJobS.T6 := by kernel_rfl
theorem laws_eqJobS.bits6 : waitsOk laws_eqJobS.T6.2 laws_eqJobS.B6 = true := by kernel_rfl
set_option maxHeartbeats 8000000 in
set_option maxRecDepth 100000 in
theorem laws_eqJobS.calls (k : Nat) (A0 : Option Addr) (c0 : Nat) (l0 : List (S67)) (A1 : Option Addr) (c1 : Nat) (l1 : List (S67)) (r : Bool) (w : World) (hr0 : Kd.C k67 w A0 l0.length l0) (hc0 : l0.length ≤ c0) (hr1 : Kd.C k67 w A1 l1.length l1) (hc1 : l1.length ≤ c1) (h : laws_eqJobS.f k l0 l1 = some r) :
    Calls Try.prog 25 #[.slice A0 l0.length c0, .slice A1 l1.length c1] w fun e w' => e = .returned (.bool r) ∧ Below w.heap.size w w' := by
  have hu67 := Try.underlying67
  have HR0 := Aside0.mk hr0
  have HC0 := Aside0.mk hc0
  clear hr0 hc0
  have HR1 := Aside0.mk hr1
  have HC1 := Aside0.mk hc1
  clear hr1 hc1
  have HB := Aside0.mk (Below.refl w.heap.size w)
  have H : (if (l0.length : Int) = (l1.length : Int) then (laws_eqJobS.l0 k l0 l1 0) else (some false)) = some r := h
  clear h
  by_cases c3 : (l0.length : Int) = (l1.length : Int)
  · rw [if_pos c3] at H
    have c3b0 : ((l0.length : Int) == (l1.length : Int)) = true := beq_iff_eq.mpr c3
    have c3b1 : ((l0.length : Int) != (l1.length : Int)) = false := bne_eq_false_iff_eq.mpr c3
    have c3b2 : (l0.length == l1.length) = true := by first | simpa using c3 | (simp at c3 ⊢; omega)
    clear c3
    have H' := Aside0.mk H
    clear H
    go_enter Try.func25, Try.ntmps25
    go_wp2
    go_loopg [5] k (fun kq v5 w' => ∃ (x5_1 : Int), v5 = .int .i64 x5_1 ∧ Aside0 (laws_eqJobS.l0 kq l0 l1 x5_1 = some r) ∧ Aside0 (kq ≤ k) ∧ Aside0 (Below w.heap.size w w'))
    case atStart => exact ⟨(0), (by first | rfl | (simp; done) | (simp [*]; done) | (simp only [i64_w, i32_w]; done) | (simp [*, i64_w, i32_w]; done)), H', ⟨Nat.le_refl _⟩, ⟨by repeat (first | (with_reducible first | exact HB.out | apply below_alloc | apply pw_below_drewN | apply below_drew1) | exact HB.out)⟩⟩
    case round =>
      clear H'
      try clear c1
      try clear c2
      try clear p2
      try clear c3
      try clear c3b0
      try clear c3b1
      try clear c3b2
      obtain ⟨x5_1, rfl, HA, HK1, HB⟩ := hrel
      cases gk with
      | zero => exact absurd HA.out (by simp [laws_eqJobS.l0])
      | succ k1 =>
        have H := HA.out
        clear HA
        simp only [laws_eqJobS.l0] at H
        by_cases c4 : x5_1 < (l0.length : Int)
        · rw [if_pos c4] at H
          have c4b0 : decide (x5_1 < (l0.length : Int)) = true := decide_eq_true c4
          clear c4
          by_cases c5 : 0 ≤ x5_1
          · rw [if_pos c5] at H
            have c5b0 : decide (0 ≤ x5_1) = true := decide_eq_true c5
            clear c5
            by_cases c6 : x5_1 < (l1.length : Int)
            · rw [if_pos c6] at H
              have c6b0 : decide (x5_1 < (l1.length : Int)) = true := decide_eq_true c6
              clear c6
              replace H := Option.bind_eq_some_iff.mp H
              obtain ⟨t103, A70, H⟩ := H
              replace H : (if t103 = true then (laws_eqJobS.l0 k1 l0 l1 (wrap64 (x5_1 + 1))) else (some false)) = some r := H
              have A7 := Aside0.mk A70
              clear A70
              by_cases c8 : t103 = true
              · subst c8
                have H1 : (laws_eqJobS.l0 k1 l0 l1 (wrap64 (x5_1 + 1))) = some r := by rw [if_pos rfl] at H; exact H
                clear H
                have H := H1
                clear H1
                have H' := Aside0.mk H
                clear H
                try go_wp2
                have n0_ := Aside0.mk (below_drew1 HB.out)
                clear HB
                have HB := n0_
                clear n0_
                have p101 : 0 ≤ (x5_1 : Int) := of_decide_eq_true (by first | (with_reducible assumption) | assumption)
                have q101 : x5_1 < (l0.length : Int) := of_decide_eq_true (by first | (with_reducible assumption) | assumption)
                obtain ⟨ad101, e101, hx101_0, hx101_1, hx101_2, hx101_3⟩ := at_T67 HR0.out x5_1 p101 q101
                have hw101_3 := hx101_3
                have hw101_2 := hx101_2
                have hw101_1 := hx101_1
                have hw101_0 := hx101_0
                cases e101
                replace hx101_0 := (HB.out.cell (World.block_lt_of_cell? w _ hx101_0)).trans hx101_0
                replace hx101_1 := (HB.out.cell (World.block_lt_of_cell? w _ hx101_1)).trans hx101_1
                replace hx101_2 := (HB.out.cell (World.block_lt_of_cell? w _ hx101_2)).trans hx101_2
                replace hx101_3 := (HB.out.cell (World.block_lt_of_cell? w _ hx101_3)).trans hx101_3
                replace p101 := eq_true p101
                replace q101 := eq_true q101
                have p102 : 0 ≤ (x5_1 : Int) := of_decide_eq_true (by first | (with_reducible assumption) | assumption)
                have q102 : x5_1 < (l1.length : Int) := of_decide_eq_true (by first | (with_reducible assumption) | assumption)
                obtain ⟨ad102, e102, hx102_0, hx102_1, hx102_2, hx102_3⟩ := at_T67 HR1.out x5_1 p102 q102
                have hw102_3 := hx102_3
                have hw102_2 := hx102_2
                have hw102_1 := hx102_1
                have hw102_0 := hx102_0
                cases e102
                replace hx102_0 := (HB.out.cell (World.block_lt_of_cell? w _ hx102_0)).trans hx102_0
                replace hx102_1 := (HB.out.cell (World.block_lt_of_cell? w _ hx102_1)).trans hx102_1
                replace hx102_2 := (HB.out.cell (World.block_lt_of_cell? w _ hx102_2)).trans hx102_2
                replace hx102_3 := (HB.out.cell (World.block_lt_of_cell? w _ hx102_3)).trans hx102_3
                replace p102 := eq_true p102
                replace q102 := eq_true q102
                refine start_ (n := 10) (S := fun w' => w'.cell? (ad101.add ((x5_1).toNat * 4)) = some (.int .i64 ((rd_T67 l0 x5_1).f0)) ∧ w'.cell? ⟨(ad101.add ((x5_1).toNat * 4)).block, (ad101.add ((x5_1).toNat * 4)).off + 1, none⟩ = some (.int .i64 ((rd_T67 l0 x5_1).f1)) ∧ w'.cell? ⟨(ad101.add ((x5_1).toNat * 4)).block, (ad101.add ((x5_1).toNat * 4)).off + 2, none⟩ = some (.int .i64 ((rd_T67 l0 x5_1).f2)) ∧ w'.cell? ⟨(ad101.add ((x5_1).toNat * 4)).block, (ad101.add ((x5_1).toNat * 4)).off + 3, none⟩ = some (.int .i64 ((rd_T67 l0 x5_1).f3)) ∧ w'.cell? (ad102.add ((x5_1).toNat * 4)) = some (.int .i64 ((rd_T67 l1 x5_1).f0)) ∧ w'.cell? ⟨(ad102.add ((x5_1).toNat * 4)).block, (ad102.add ((x5_1).toNat * 4)).off + 1, none⟩ = some (.int .i64 ((rd_T67 l1 x5_1).f1)) ∧ w'.cell? ⟨(ad102.add ((x5_1).toNat * 4)).block, (ad102.add ((x5_1).toNat * 4)).off + 2, none⟩ = some (.int .i64 ((rd_T67 l1 x5_1).f2)) ∧ w'.cell? ⟨(ad102.add ((x5_1).toNat * 4)).block, (ad102.add ((x5_1).toNat * 4)).off + 3, none⟩ = some (.int .i64 ((rd_T67 l1 x5_1).f3))) (ds := []) #[false, false, false, false, false, false, false, false, false, false] (by kernel_rfl) rfl rfl ⟨((HB.out.cell (World.block_lt_of_cell? w _ hw101_0)).trans hw101_0), ((HB.out.cell (World.block_lt_of_cell? w _ hw101_1)).trans hw101_1), ((HB.out.cell (World.block_lt_of_cell? w _ hw101_2)).trans hw101_2), ((HB.out.cell (World.block_lt_of_cell? w _ hw101_3)).trans hw101_3), ((HB.out.cell (World.block_lt_of_cell? w _ hw102_0)).trans hw102_0), ((HB.out.cell (World.block_lt_of_cell? w _ hw102_1)).trans hw102_1), ((HB.out.cell (World.block_lt_of_cell? w _ hw102_2)).trans hw102_2), ((HB.out.cell (World.block_lt_of_cell? w _ hw102_3)).trans hw102_3)⟩ (fun hHeld => ?_); refine with_tabW laws_eqJobS.tab6 laws_eqJobS.bits6 (fun HT_ HW_ => ?_)
                generalize wr.drew = w9 at HB hx101_0 hx101_1 hx101_2 hx101_3 hx102_0 hx102_1 hx102_2 hx102_3 hHeld ⊢
                refine pure_ (i := 0) (N := some 17) (v := ?_) (a' := ?_) #[true, false, false, false, false, false, false, false, false, false] rfl rfl (any_of HT_.out (by kernel_rfl)) (fun _ _ _ h => h) (Or.inl ⟨by rfl, ?_⟩) ?_ ?_
                rotate_left
                · intro w'
                  go_simp
                  with_reducible rfl
                rotate_left
                · simp only [Act.put, List.setIfInBounds_toArray, List.set_cons_zero, List.set_cons_succ, i64_w, i32_w]
                  rfl
                refine pure_ (i := 1) (N := some 18) (v := ?_) (a' := ?_) #[true, true, false, false, false, false, false, false, false, false] rfl rfl (any_of HT_.out (by kernel_rfl)) (fun _ _ _ h => h) (Or.inl ⟨by rfl, ?_⟩) ?_ ?_
                rotate_left
                · intro w'
                  go_simp
                  with_reducible rfl
                rotate_left
                · simp only [Act.put, List.setIfInBounds_toArray, List.set_cons_zero, List.set_cons_succ, i64_w, i32_w]
                  rfl
                refine pure_ (i := 2) (N := some 19) (v := ?_) (a' := ?_) #[true, true, true, false, false, false, false, false, false, false] rfl rfl (any_of HT_.out (by kernel_rfl)) (fun _ _ _ h => h) (Or.inl ⟨by rfl, ?_⟩) ?_ ?_
                rotate_left
                · intro w'
                  go_simp
                  with_reducible rfl
                rotate_left
                · simp only [Act.put, List.setIfInBounds_toArray, List.set_cons_zero, List.set_cons_succ, i64_w, i32_w]
                  rfl
                refine pure_ (i := 4) (N := some 21) (v := ?_) (a' := ?_) #[true, true, true, false, true, false, false, false, false, false] rfl rfl (any_of HT_.out (by kernel_rfl)) (fun _ _ _ h => h) (Or.inl ⟨by rfl, ?_⟩) ?_ ?_
                rotate_left
                · intro w'
                  go_simp
                  with_reducible rfl
                rotate_left
                · simp only [Act.put, List.setIfInBounds_toArray, List.set_cons_zero, List.set_cons_succ, i64_w, i32_w]
                  rfl
                refine pure_ (i := 5) (N := some 22) (v := ?_) (a' := ?_) #[true, true, true, false, true, true, false, false, false, false] rfl rfl (any_of HT_.out (by kernel_rfl)) (fun _ _ _ h => h) (Or.inl ⟨by rfl, ?_⟩) ?_ ?_
                rotate_left
                · intro w'
                  go_simp
                  with_reducible rfl
                rotate_left
                · simp only [Act.put, List.setIfInBounds_toArray, List.set_cons_zero, List.set_cons_succ, i64_w, i32_w]
                  rfl
                refine pure_ (i := 6) (N := some 23) (v := ?_) (a' := ?_) #[true, true, true, false, true, true, true, false, false, false] rfl rfl (any_of HT_.out (by kernel_rfl)) (fun _ _ _ h => h) (Or.inl ⟨by rfl, ?_⟩) ?_ ?_
                rotate_left
                · intro w'
                  go_simp
                  with_reducible rfl
                rotate_left
                · simp only [Act.put, List.setIfInBounds_toArray, List.set_cons_zero, List.set_cons_succ, i64_w, i32_w]
                  rfl
                refine take_ (i := 3) (N := some 20) (v := ?_) (a' := ?_) #[true, true, true, true, true, true, true, false, false, false] rfl rfl (take_ofW HT_.out HW_.out (by kernel_rfl)) (fun _ _ _ h => h) (Or.inl ⟨by rfl, ?_⟩) hHeld ?_ ?_
                rotate_left
                · rintro w' ⟨s0, s1, s2, s3, s4, s5, s6, s7⟩
                  go_simp
                  with_reducible rfl
                rotate_left
                · simp only [Act.put, List.setIfInBounds_toArray, List.set_cons_zero, List.set_cons_succ, i64_w, i32_w]
                  rfl
                refine take_ (i := 7) (N := some 24) (v := ?_) (a' := ?_) #[true, true, true, true, true, true, true, true, false, false] rfl rfl (take_ofW HT_.out HW_.out (by kernel_rfl)) (fun _ _ _ h => h) (Or.inl ⟨by rfl, ?_⟩) hHeld ?_ ?_
                rotate_left
                · rintro w' ⟨s0, s1, s2, s3, s4, s5, s6, s7⟩
                  go_simp
                  with_reducible rfl
                rotate_left
                · simp only [Act.put, List.setIfInBounds_toArray, List.set_cons_zero, List.set_cons_succ, i64_w, i32_w]
                  rfl
                refine one_ (i := 8) (N := some 25) #[true, true, true, true, true, true, true, true, true, false] rfl rfl (one_of HT_.out (by kernel_rfl)) (by decide) (fun K hK => ?_)
                refine goes_ Try.func88 (by kernel_rfl) rfl #[.agg #[.int .i64 ((rd_T67 l0 x5_1).f0), .int .i64 ((rd_T67 l0 x5_1).f1), .int .i64 ((rd_T67 l0 x5_1).f2), .int .i64 ((rd_T67 l0 x5_1).f3)], .agg #[.int .i64 ((rd_T67 l1 x5_1).f0), .int .i64 ((rd_T67 l1 x5_1).f1), .int .i64 ((rd_T67 l1 x5_1).f2), .int .i64 ((rd_T67 l1 x5_1).f3)]] (by rfl) rfl rfl (by (try simp only [List.map_toArray, List.map_cons, List.map_nil]); first | done | rfl | (simp only [List.length_drop, List.length_take]; rfl)) ?_
                with_reducible refine (laws_eqJob.calls ((rd_T67 l0 x5_1).f0) ((rd_T67 l0 x5_1).f1) ((rd_T67 l0 x5_1).f2) ((rd_T67 l0 x5_1).f3) ((rd_T67 l1 x5_1).f0) ((rd_T67 l1 x5_1).f1) ((rd_T67 l1 x5_1).f2) ((rd_T67 l1 x5_1).f3) true _ A7.out).mono ?_
                rintro e w10 ⟨rfl, hb⟩
                refine ⟨_, rfl, ?_⟩
                have n0_ := Aside0.mk (below_step (by repeat (first | (with_reducible first | exact HB.out | apply below_alloc | apply pw_below_drewN | apply below_drew1) | exact HB.out)) hb)
                clear HB
                have HB := n0_
                clear n0_
                (try clear hb)
                (try clear hb2)
                (try clear hk)
                (try clear hi)
                refine hK.out _ _ ⟨((HB.out.cell (World.block_lt_of_cell? w _ hw101_0)).trans hw101_0), ((HB.out.cell (World.block_lt_of_cell? w _ hw101_1)).trans hw101_1), ((HB.out.cell (World.block_lt_of_cell? w _ hw101_2)).trans hw101_2), ((HB.out.cell (World.block_lt_of_cell? w _ hw101_3)).trans hw101_3), ((HB.out.cell (World.block_lt_of_cell? w _ hw102_0)).trans hw102_0), ((HB.out.cell (World.block_lt_of_cell? w _ hw102_1)).trans hw102_1), ((HB.out.cell (World.block_lt_of_cell? w _ hw102_2)).trans hw102_2), ((HB.out.cell (World.block_lt_of_cell? w _ hw102_3)).trans hw102_3)⟩ (fun hHeld => ?_)
                clear hK K
                refine norm_ (a' := ?_) ?_ ?_
                rotate_left
                · show Act.put _ (some 25) _ = _
                  simp only [Act.put, List.setIfInBounds_toArray, List.set_cons_zero, List.set_cons_succ, i64_w, i32_w]
                  rfl
                refine pure_ (i := 9) (N := some 26) (v := ?_) (a' := ?_) #[true, true, true, true, true, true, true, true, true, true] rfl rfl (any_of HT_.out (by kernel_rfl)) (fun _ _ _ h => h) (Or.inl ⟨by rfl, ?_⟩) ?_ ?_
                rotate_left
                · intro w'
                  go_simp
                  with_reducible rfl
                rotate_left
                · simp only [Act.put, List.setIfInBounds_toArray, List.set_cons_zero, List.set_cons_succ, i64_w, i32_w]
                  rfl
                refine done_ (done_of HT_.out (by kernel_rfl)) ?_
                try go_wp2
                go_roundg k1
                case measure => have := HK1.out; omega
                case rel => exact ⟨(wrap64 (x5_1 + 1)), (by first | rfl | (simp; done) | (simp [*]; done) | (simp only [i64_w, i32_w]; done) | (simp [*, i64_w, i32_w]; done)), H', ⟨by have := HK1.out; omega⟩, ⟨by repeat (first | (with_reducible first | exact HB.out | apply below_alloc | apply pw_below_drewN | apply below_drew1) | exact HB.out)⟩⟩
              · replace c8 := Bool.eq_false_iff.mpr c8
                subst c8
                have H1 : (some false) = some r := by rw [if_neg (show ¬ (false = true) by decide)] at H; exact H
                clear H
                have H := H1
                clear H1
                obtain rfl := Option.some.inj H
                try go_wp2
                have n0_ := Aside0.mk (below_drew1 HB.out)
                clear HB
                have HB := n0_
                clear n0_
                have p101 : 0 ≤ (x5_1 : Int) := of_decide_eq_true (by first | (with_reducible assumption) | assumption)
                have q101 : x5_1 < (l0.length : Int) := of_decide_eq_true (by first | (with_reducible assumption) | assumption)
                obtain ⟨ad101, e101, hx101_0, hx101_1, hx101_2, hx101_3⟩ := at_T67 HR0.out x5_1 p101 q101
                have hw101_3 := hx101_3
                have hw101_2 := hx101_2
                have hw101_1 := hx101_1
                have hw101_0 := hx101_0
                cases e101
                replace hx101_0 := (HB.out.cell (World.block_lt_of_cell? w _ hx101_0)).trans hx101_0
                replace hx101_1 := (HB.out.cell (World.block_lt_of_cell? w _ hx101_1)).trans hx101_1
                replace hx101_2 := (HB.out.cell (World.block_lt_of_cell? w _ hx101_2)).trans hx101_2
                replace hx101_3 := (HB.out.cell (World.block_lt_of_cell? w _ hx101_3)).trans hx101_3
                replace p101 := eq_true p101
                replace q101 := eq_true q101
                have p102 : 0 ≤ (x5_1 : Int) := of_decide_eq_true (by first | (with_reducible assumption) | assumption)
                have q102 : x5_1 < (l1.length : Int) := of_decide_eq_true (by first | (with_reducible assumption) | assumption)
                obtain ⟨ad102, e102, hx102_0, hx102_1, hx102_2, hx102_3⟩ := at_T67 HR1.out x5_1 p102 q102
                have hw102_3 := hx102_3
                have hw102_2 := hx102_2
                have hw102_1 := hx102_1
                have hw102_0 := hx102_0
                cases e102
                replace hx102_0 := (HB.out.cell (World.block_lt_of_cell? w _ hx102_0)).trans hx102_0
                replace hx102_1 := (HB.out.cell (World.block_lt_of_cell? w _ hx102_1)).trans hx102_1
                replace hx102_2 := (HB.out.cell (World.block_lt_of_cell? w _ hx102_2)).trans hx102_2
                replace hx102_3 := (HB.out.cell (World.block_lt_of_cell? w _ hx102_3)).trans hx102_3
                replace p102 := eq_true p102
                replace q102 := eq_true q102
                refine start_ (n := 10) (S := fun w' => w'.cell? (ad101.add ((x5_1).toNat * 4)) = some (.int .i64 ((rd_T67 l0 x5_1).f0)) ∧ w'.cell? ⟨(ad101.add ((x5_1).toNat * 4)).block, (ad101.add ((x5_1).toNat * 4)).off + 1, none⟩ = some (.int .i64 ((rd_T67 l0 x5_1).f1)) ∧ w'.cell? ⟨(ad101.add ((x5_1).toNat * 4)).block, (ad101.add ((x5_1).toNat * 4)).off + 2, none⟩ = some (.int .i64 ((rd_T67 l0 x5_1).f2)) ∧ w'.cell? ⟨(ad101.add ((x5_1).toNat * 4)).block, (ad101.add ((x5_1).toNat * 4)).off + 3, none⟩ = some (.int .i64 ((rd_T67 l0 x5_1).f3)) ∧ w'.cell? (ad102.add ((x5_1).toNat * 4)) = some (.int .i64 ((rd_T67 l1 x5_1).f0)) ∧ w'.cell? ⟨(ad102.add ((x5_1).toNat * 4)).block, (ad102.add ((x5_1).toNat * 4)).off + 1, none⟩ = some (.int .i64 ((rd_T67 l1 x5_1).f1)) ∧ w'.cell? ⟨(ad102.add ((x5_1).toNat * 4)).block, (ad102.add ((x5_1).toNat * 4)).off + 2, none⟩ = some (.int .i64 ((rd_T67 l1 x5_1).f2)) ∧ w'.cell? ⟨(ad102.add ((x5_1).toNat * 4)).block, (ad102.add ((x5_1).toNat * 4)).off + 3, none⟩ = some (.int .i64 ((rd_T67 l1 x5_1).f3))) (ds := []) #[false, false, false, false, false, false, false, false, false, false] (by kernel_rfl) rfl rfl ⟨((HB.out.cell (World.block_lt_of_cell? w _ hw101_0)).trans hw101_0), ((HB.out.cell (World.block_lt_of_cell? w _ hw101_1)).trans hw101_1), ((HB.out.cell (World.block_lt_of_cell? w _ hw101_2)).trans hw101_2), ((HB.out.cell (World.block_lt_of_cell? w _ hw101_3)).trans hw101_3), ((HB.out.cell (World.block_lt_of_cell? w _ hw102_0)).trans hw102_0), ((HB.out.cell (World.block_lt_of_cell? w _ hw102_1)).trans hw102_1), ((HB.out.cell (World.block_lt_of_cell? w _ hw102_2)).trans hw102_2), ((HB.out.cell (World.block_lt_of_cell? w _ hw102_3)).trans hw102_3)⟩ (fun hHeld => ?_); refine with_tabW laws_eqJobS.tab6 laws_eqJobS.bits6 (fun HT_ HW_ => ?_)
                generalize wr.drew = w11 at HB hx101_0 hx101_1 hx101_2 hx101_3 hx102_0 hx102_1 hx102_2 hx102_3 hHeld ⊢
                refine pure_ (i := 0) (N := some 17) (v := ?_) (a' := ?_) #[true, false, false, false, false, false, false, false, false, false] rfl rfl (any_of HT_.out (by kernel_rfl)) (fun _ _ _ h => h) (Or.inl ⟨by rfl, ?_⟩) ?_ ?_
                rotate_left
                · intro w'
                  go_simp
                  with_reducible rfl
                rotate_left
                · simp only [Act.put, List.setIfInBounds_toArray, List.set_cons_zero, List.set_cons_succ, i64_w, i32_w]
                  rfl
                refine pure_ (i := 1) (N := some 18) (v := ?_) (a' := ?_) #[true, true, false, false, false, false, false, false, false, false] rfl rfl (any_of HT_.out (by kernel_rfl)) (fun _ _ _ h => h) (Or.inl ⟨by rfl, ?_⟩) ?_ ?_
                rotate_left
                · intro w'
                  go_simp
                  with_reducible rfl
                rotate_left
                · simp only [Act.put, List.setIfInBounds_toArray, List.set_cons_zero, List.set_cons_succ, i64_w, i32_w]
                  rfl
                refine pure_ (i := 2) (N := some 19) (v := ?_) (a' := ?_) #[true, true, true, false, false, false, false, false, false, false] rfl rfl (any_of HT_.out (by kernel_rfl)) (fun _ _ _ h => h) (Or.inl ⟨by rfl, ?_⟩) ?_ ?_
                rotate_left
                · intro w'
                  go_simp
                  with_reducible rfl
                rotate_left
                · simp only [Act.put, List.setIfInBounds_toArray, List.set_cons_zero, List.set_cons_succ, i64_w, i32_w]
                  rfl
                refine pure_ (i := 4) (N := some 21) (v := ?_) (a' := ?_) #[true, true, true, false, true, false, false, false, false, false] rfl rfl (any_of HT_.out (by kernel_rfl)) (fun _ _ _ h => h) (Or.inl ⟨by rfl, ?_⟩) ?_ ?_
                rotate_left
                · intro w'
                  go_simp
                  with_reducible rfl
                rotate_left
                · simp only [Act.put, List.setIfInBounds_toArray, List.set_cons_zero, List.set_cons_succ, i64_w, i32_w]
                  rfl
                refine pure_ (i := 5) (N := some 22) (v := ?_) (a' := ?_) #[true, true, true, false, true, true, false, false, false, false] rfl rfl (any_of HT_.out (by kernel_rfl)) (fun _ _ _ h => h) (Or.inl ⟨by rfl, ?_⟩) ?_ ?_
                rotate_left
                · intro w'
                  go_simp
                  with_reducible rfl
                rotate_left
                · simp only [Act.put, List.setIfInBounds_toArray, List.set_cons_zero, List.set_cons_succ, i64_w, i32_w]
                  rfl
                refine pure_ (i := 6) (N := some 23) (v := ?_) (a' := ?_) #[true, true, true, false, true, true, true, false, false, false] rfl rfl (any_of HT_.out (by kernel_rfl)) (fun _ _ _ h => h) (Or.inl ⟨by rfl, ?_⟩) ?_ ?_
                rotate_left
                · intro w'
                  go_simp
                  with_reducible rfl
                rotate_left
                · simp only [Act.put, List.setIfInBounds_toArray, List.set_cons_zero, List.set_cons_succ, i64_w, i32_w]
                  rfl
                refine take_ (i := 3) (N := some 20) (v := ?_) (a' := ?_) #[true, true, true, true, true, true, true, false, false, false] rfl rfl (take_ofW HT_.out HW_.out (by kernel_rfl)) (fun _ _ _ h => h) (Or.inl ⟨by rfl, ?_⟩) hHeld ?_ ?_
                rotate_left
                · rintro w' ⟨s0, s1, s2, s3, s4, s5, s6, s7⟩
                  go_simp
                  with_reducible rfl
                rotate_left
                · simp only [Act.put, List.setIfInBounds_toArray, List.set_cons_zero, List.set_cons_succ, i64_w, i32_w]
                  rfl
                refine take_ (i := 7) (N := some 24) (v := ?_) (a' := ?_) #[true, true, true, true, true, true, true, true, false, false] rfl rfl (take_ofW HT_.out HW_.out (by kernel_rfl)) (fun _ _ _ h => h) (Or.inl ⟨by rfl, ?_⟩) hHeld ?_ ?_
                rotate_left
                · rintro w' ⟨s0, s1, s2, s3, s4, s5, s6, s7⟩
                  go_simp
                  with_reducible rfl
                rotate_left
                · simp only [Act.put, List.setIfInBounds_toArray, List.set_cons_zero, List.set_cons_succ, i64_w, i32_w]
                  rfl
                refine one_ (i := 8) (N := some 25) #[true, true, true, true, true, true, true, true, true, false] rfl rfl (one_of HT_.out (by kernel_rfl)) (by decide) (fun K hK => ?_)
                refine goes_ Try.func88 (by kernel_rfl) rfl #[.agg #[.int .i64 ((rd_T67 l0 x5_1).f0), .int .i64 ((rd_T67 l0 x5_1).f1), .int .i64 ((rd_T67 l0 x5_1).f2), .int .i64 ((rd_T67 l0 x5_1).f3)], .agg #[.int .i64 ((rd_T67 l1 x5_1).f0), .int .i64 ((rd_T67 l1 x5_1).f1), .int .i64 ((rd_T67 l1 x5_1).f2), .int .i64 ((rd_T67 l1 x5_1).f3)]] (by rfl) rfl rfl (by (try simp only [List.map_toArray, List.map_cons, List.map_nil]); first | done | rfl | (simp only [List.length_drop, List.length_take]; rfl)) ?_
                with_reducible refine (laws_eqJob.calls ((rd_T67 l0 x5_1).f0) ((rd_T67 l0 x5_1).f1) ((rd_T67 l0 x5_1).f2) ((rd_T67 l0 x5_1).f3) ((rd_T67 l1 x5_1).f0) ((rd_T67 l1 x5_1).f1) ((rd_T67 l1 x5_1).f2) ((rd_T67 l1 x5_1).f3) false _ A7.out).mono ?_
                rintro e w12 ⟨rfl, hb⟩
                refine ⟨_, rfl, ?_⟩
                have n0_ := Aside0.mk (below_step (by repeat (first | (with_reducible first | exact HB.out | apply below_alloc | apply pw_below_drewN | apply below_drew1) | exact HB.out)) hb)
                clear HB
                have HB := n0_
                clear n0_
                (try clear hb)
                (try clear hb2)
                (try clear hk)
                (try clear hi)
                refine hK.out _ _ ⟨((HB.out.cell (World.block_lt_of_cell? w _ hw101_0)).trans hw101_0), ((HB.out.cell (World.block_lt_of_cell? w _ hw101_1)).trans hw101_1), ((HB.out.cell (World.block_lt_of_cell? w _ hw101_2)).trans hw101_2), ((HB.out.cell (World.block_lt_of_cell? w _ hw101_3)).trans hw101_3), ((HB.out.cell (World.block_lt_of_cell? w _ hw102_0)).trans hw102_0), ((HB.out.cell (World.block_lt_of_cell? w _ hw102_1)).trans hw102_1), ((HB.out.cell (World.block_lt_of_cell? w _ hw102_2)).trans hw102_2), ((HB.out.cell (World.block_lt_of_cell? w _ hw102_3)).trans hw102_3)⟩ (fun hHeld => ?_)
                clear hK K
                refine norm_ (a' := ?_) ?_ ?_
                rotate_left
                · show Act.put _ (some 25) _ = _
                  simp only [Act.put, List.setIfInBounds_toArray, List.set_cons_zero, List.set_cons_succ, i64_w, i32_w]
                  rfl
                refine pure_ (i := 9) (N := some 26) (v := ?_) (a' := ?_) #[true, true, true, true, true, true, true, true, true, true] rfl rfl (any_of HT_.out (by kernel_rfl)) (fun _ _ _ h => h) (Or.inl ⟨by rfl, ?_⟩) ?_ ?_
                rotate_left
                · intro w'
                  go_simp
                  with_reducible rfl
                rotate_left
                · simp only [Act.put, List.setIfInBounds_toArray, List.set_cons_zero, List.set_cons_succ, i64_w, i32_w]
                  rfl
                refine done_ (done_of HT_.out (by kernel_rfl)) ?_
                try go_wp2
                go_ret
                exact ⟨by first | rfl | (simp [errW_none, errW_some] <;> rfl) | (simp [*, errW_none, errW_some] <;> rfl), by repeat (first | (with_reducible first | exact HB.out | apply below_alloc | apply pw_below_drewN | apply below_drew1) | exact HB.out)⟩
            · rw [if_neg c6] at H
              exact absurd H (by simp)
          · rw [if_neg c5] at H
            exact absurd H (by simp)
        · rw [if_neg c4] at H
          have c4b0 : decide (x5_1 < (l0.length : Int)) = false := decide_eq_false c4
          clear c4
          obtain rfl := Option.some.inj H
          go_wp2
          go_ret
          exact ⟨by first | rfl | (simp [errW_none, errW_some] <;> rfl) | (simp [*, errW_none, errW_some] <;> rfl), by repeat (first | (with_reducible first | exact HB.out | apply below_alloc | apply pw_below_drewN | apply below_drew1) | exact HB.out)⟩
  · rw [if_neg c3] at H
    have c3b0 : ((l0.length : Int) == (l1.length : Int)) = false := beq_eq_false_iff_ne.mpr c3
    have c3b1 : ((l0.length : Int) != (l1.length : Int)) = true := bne_iff_ne.mpr c3
    have c3b2 : (l0.length == l1.length) = false := by first | simpa using c3 | (simp at c3 ⊢; omega)
    obtain rfl := Option.some.inj H
    go_enter Try.func25, Try.ntmps25
    go_wp2
    go_ret
    exact ⟨by first | rfl | (simp [errW_none, errW_some] <;> rfl) | (simp [*, errW_none, errW_some] <;> rfl), by repeat (first | (with_reducible first | exact HB.out | apply below_alloc | apply pw_below_drewN | apply below_drew1) | exact HB.out)⟩



/-! ### laws_eqIntS: function 45 -/
def laws_eqIntS.l0 : Nat → List Int → List Int → Int → Option (Bool)
  | 0, _, _, _ => none
  | k + 1, x0, x1, x5 => if x5 < (x0.length : Int) then (if 0 ≤ x5 then (if x5 < (x1.length : Int) then (if (rd x0 x5) = (rd x1 x5) then (laws_eqIntS.l0 k x0 x1 (wrap64 (x5 + 1))) else (some false)) else (none)) else (none)) else (some true)
def laws_eqIntS.f (k : Nat) (l0 : List Int) (l1 : List Int) : Option (Bool) := if (l0.length : Int) = (l1.length : Int) then (laws_eqIntS.l0 k l0 l1 0) else (some false)
theorem laws_eqIntS.mono_l : ∀ k, (∀ y0 y1 y2, LeO (laws_eqIntS.l0 k y0 y1 y2) (laws_eqIntS.l0 (k + 1) y0 y1 y2))
  | 0 => fun _ _ _ r h => by simp [laws_eqIntS.l0] at h
  | k + 1 => by
    have ih0 := laws_eqIntS.mono_l k
    · intro y0 y1 y2
      unfold laws_eqIntS.l0
      repeat' first
      | (with_reducible exact ih0 _ _ _)
      | (with_reducible exact LeO.refl _)
      | (with_reducible exact LeO.none _)
      | (with_reducible refine LeO.ite ?_ ?_)
      | (with_reducible refine LeO.bind ?_ (fun _ => ?_))
      | exact ih0 _ _ _
      | exact LeO.none _
      | refine LeO.ite ?_ ?_
      | refine LeO.bind ?_ (fun _ => ?_)
theorem laws_eqIntS.mono : ∀ a0 a1 k, LeO (laws_eqIntS.f k a0 a1) (laws_eqIntS.f (k + 1) a0 a1) := by
  intro a0 a1 k
  have ih0 := laws_eqIntS.mono_l k
  unfold laws_eqIntS.f
  repeat' first
      | (with_reducible exact ih0 _ _ _)
      | (with_reducible exact LeO.refl _)
      | (with_reducible exact LeO.none _)
      | (with_reducible refine LeO.ite ?_ ?_)
      | (with_reducible refine LeO.bind ?_ (fun _ => ?_))
      | exact ih0 _ _ _
      | exact LeO.none _
      | refine LeO.ite ?_ ?_
      | refine LeO.bind ?_ (fun _ => ?_)
set_option maxHeartbeats 8000000 in
set_option maxRecDepth 100000 in
theorem laws_eqIntS.calls (k : Nat) (A0 : Option Addr) (c0 : Nat) (l0 : List Int) (A1 : Option Addr) (c1 : Nat) (l1 : List Int) (r : Bool) (w : World) (hr0 : Kd.C (Kd.int .i64) w A0 l0.length l0) (hc0 : l0.length ≤ c0) (hr1 : Kd.C (Kd.int .i64) w A1 l1.length l1) (hc1 : l1.length ≤ c1) (h : laws_eqIntS.f k l0 l1 = some r) :
    Calls Try.prog 45 #[.slice A0 l0.length c0, .slice A1 l1.length c1] w fun e w' => e = .returned (.bool r) ∧ Drawn0 w w' := by
  have HR0 := Aside0.mk hr0
  have HC0 := Aside0.mk hc0
  clear hr0 hc0
  have HR1 := Aside0.mk hr1
  have HC1 := Aside0.mk hc1
  clear hr1 hc1
  have H : (if (l0.length : Int) = (l1.length : Int) then (laws_eqIntS.l0 k l0 l1 0) else (some false)) = some r := h
  clear h
  by_cases c3 : (l0.length : Int) = (l1.length : Int)
  · rw [if_pos c3] at H
    have c3b0 : ((l0.length : Int) == (l1.length : Int)) = true := beq_iff_eq.mpr c3
    have c3b1 : ((l0.length : Int) != (l1.length : Int)) = false := bne_eq_false_iff_eq.mpr c3
    have c3b2 : (l0.length == l1.length) = true := by first | simpa using c3 | (simp at c3 ⊢; omega)
    clear c3
    have H' := Aside0.mk H
    clear H
    go_enter Try.func45, Try.ntmps45
    go_wp2
    repeat (go_quiet (fail); try go_wp2)
    go_loopg [5] k (fun kq v5 w' => ∃ (x5_1 : Int), v5 = .int .i64 x5_1 ∧ Aside0 (laws_eqIntS.l0 kq l0 l1 x5_1 = some r) ∧ Aside0 (kq ≤ k) ∧ Drawn0 w w')
    case atStart => exact ⟨(0), (by first | rfl | (simp; done) | (simp [*]; done) | (simp only [i64_w, i32_w]; done) | (simp [*, i64_w, i32_w]; done)), H', ⟨Nat.le_refl _⟩, by repeat (first | exact Drawn0.refl _ | apply Drawn0.step)⟩
    case round =>
      clear H'
      try clear c1
      try clear p2
      try clear c3
      try clear c3b0
      try clear c3b1
      try clear c3b2
      obtain ⟨x5_1, rfl, HA, HK1, ⟨m1, rfl⟩⟩ := hrel
      cases gk with
      | zero => exact absurd HA.out (by simp [laws_eqIntS.l0])
      | succ k1 =>
        have H := HA.out
        clear HA
        simp only [laws_eqIntS.l0] at H
        by_cases c4 : x5_1 < (l0.length : Int)
        · rw [if_pos c4] at H
          have c4b0 : decide (x5_1 < (l0.length : Int)) = true := decide_eq_true c4
          clear c4
          by_cases c5 : 0 ≤ x5_1
          · rw [if_pos c5] at H
            have c5b0 : decide (0 ≤ x5_1) = true := decide_eq_true c5
            clear c5
            by_cases c6 : x5_1 < (l1.length : Int)
            · rw [if_pos c6] at H
              have c6b0 : decide (x5_1 < (l1.length : Int)) = true := decide_eq_true c6
              clear c6
              by_cases c7 : (rd l0 x5_1) = (rd l1 x5_1)
              · rw [if_pos c7] at H
                have c7b0 : ((rd l0 x5_1) == (rd l1 x5_1)) = true := beq_iff_eq.mpr c7
                have c7b1 : ((rd l0 x5_1) != (rd l1 x5_1)) = false := bne_eq_false_iff_eq.mpr c7
                clear c7
                have H' := Aside0.mk H
                clear H
                have p101 : 0 ≤ (x5_1 : Int) := of_decide_eq_true (by first | (with_reducible assumption) | assumption)
                have q101 : x5_1 < (l0.length : Int) := of_decide_eq_true (by first | (with_reducible assumption) | assumption)
                obtain ⟨ad101, e101, hx101_0⟩ := Kd.at_int HR0.out x5_1 p101 q101
                cases e101
                replace p101 := eq_true p101
                replace q101 := eq_true q101
                have p102 : 0 ≤ (x5_1 : Int) := of_decide_eq_true (by first | (with_reducible assumption) | assumption)
                have q102 : x5_1 < (l1.length : Int) := of_decide_eq_true (by first | (with_reducible assumption) | assumption)
                obtain ⟨ad102, e102, hx102_0⟩ := Kd.at_int HR1.out x5_1 p102 q102
                cases e102
                replace p102 := eq_true p102
                replace q102 := eq_true q102
                go_wp2
                repeat (go_quiet (fail); try go_wp2)
                go_roundg k1
                case measure => have := HK1.out; omega
                case rel => exact ⟨(wrap64 (x5_1 + 1)), (by first | rfl | (simp; done) | (simp [*]; done) | (simp only [i64_w, i32_w]; done) | (simp [*, i64_w, i32_w]; done)), H', ⟨by have := HK1.out; omega⟩, by repeat (first | exact Drawn0.refl _ | apply Drawn0.step)⟩
              · rw [if_neg c7] at H
                have c7b0 : ((rd l0 x5_1) == (rd l1 x5_1)) = false := beq_eq_false_iff_ne.mpr c7
                have c7b1 : ((rd l0 x5_1) != (rd l1 x5_1)) = true := bne_iff_ne.mpr c7
                obtain rfl := Option.some.inj H
                have p101 : 0 ≤ (x5_1 : Int) := of_decide_eq_true (by first | (with_reducible assumption) | assumption)
                have q101 : x5_1 < (l0.length : Int) := of_decide_eq_true (by first | (with_reducible assumption) | assumption)
                obtain ⟨ad101, e101, hx101_0⟩ := Kd.at_int HR0.out x5_1 p101 q101
                cases e101
                replace p101 := eq_true p101
                replace q101 := eq_true q101
                have p102 : 0 ≤ (x5_1 : Int) := of_decide_eq_true (by first | (with_reducible assumption) | assumption)
                have q102 : x5_1 < (l1.length : Int) := of_decide_eq_true (by first | (with_reducible assumption) | assumption)
                obtain ⟨ad102, e102, hx102_0⟩ := Kd.at_int HR1.out x5_1 p102 q102
                cases e102
                replace p102 := eq_true p102
                replace q102 := eq_true q102
                go_wp2
                repeat (go_quiet (fail); try go_wp2)
                go_ret
                exact ⟨by first | rfl | (simp; done) | (simp [*]; done) | (simp only [i64_w, i32_w]; done) | (simp [*, i64_w, i32_w]; done), by repeat (first | exact Drawn0.refl _ | apply Drawn0.step)⟩
            · rw [if_neg c6] at H
              exact absurd H (by simp)
          · rw [if_neg c5] at H
            exact absurd H (by simp)
        · rw [if_neg c4] at H
          have c4b0 : decide (x5_1 < (l0.length : Int)) = false := decide_eq_false c4
          clear c4
          obtain rfl := Option.some.inj H
          go_wp2
          repeat (go_quiet (fail); try go_wp2)
          go_ret
          exact ⟨by first | rfl | (simp; done) | (simp [*]; done) | (simp only [i64_w, i32_w]; done) | (simp [*, i64_w, i32_w]; done), by repeat (first | exact Drawn0.refl _ | apply Drawn0.step)⟩
  · rw [if_neg c3] at H
    have c3b0 : ((l0.length : Int) == (l1.length : Int)) = false := beq_eq_false_iff_ne.mpr c3
    have c3b1 : ((l0.length : Int) != (l1.length : Int)) = true := bne_iff_ne.mpr c3
    have c3b2 : (l0.length == l1.length) = false := by first | simpa using c3 | (simp at c3 ⊢; omega)
    obtain rfl := Option.some.inj H
    go_enter Try.func45, Try.ntmps45
    go_wp2
    repeat (go_quiet (fail); try go_wp2)
    go_ret
    exact ⟨by first | rfl | (simp; done) | (simp [*]; done) | (simp only [i64_w, i32_w]; done) | (simp [*, i64_w, i32_w]; done), by repeat (first | exact Drawn0.refl _ | apply Drawn0.step)⟩



/-! ### laws_eqSchedule: function 48 -/
def laws_eqSchedule.f (k : Nat) (l0_0 : List Int) (l0_1 : List Int) (l1_0 : List Int) (l1_1 : List Int) : Option (Bool) := (laws_eqIntS.f k l0_0 l1_0).bind fun t103 => (if t103 = true then ((laws_eqIntS.f k l0_1 l1_1).bind fun t104 => (if t104 = true then (some true) else (some false))) else (some false))
theorem laws_eqSchedule.mono : ∀ a0 a1 a2 a3 k, LeO (laws_eqSchedule.f k a0 a1 a2 a3) (laws_eqSchedule.f (k + 1) a0 a1 a2 a3) := by
  intro a0 a1 a2 a3 k
  unfold laws_eqSchedule.f
  repeat' first
      | (with_reducible exact laws_eqIntS.mono _ _ _)
      | (with_reducible exact LeO.refl _)
      | (with_reducible exact LeO.none _)
      | (with_reducible refine LeO.ite ?_ ?_)
      | (with_reducible refine LeO.bind ?_ (fun _ => ?_))
      | exact laws_eqIntS.mono _ _ _
      | exact LeO.none _
      | refine LeO.ite ?_ ?_
      | refine LeO.bind ?_ (fun _ => ?_)
set_option maxHeartbeats 8000000 in
set_option maxRecDepth 100000 in
theorem laws_eqSchedule.calls (k : Nat) (A0_0 : Option Addr) (c0_0 : Nat) (l0_0 : List Int) (A0_1 : Option Addr) (c0_1 : Nat) (l0_1 : List Int) (A1_0 : Option Addr) (c1_0 : Nat) (l1_0 : List Int) (A1_1 : Option Addr) (c1_1 : Nat) (l1_1 : List Int) (r : Bool) (w : World) (hr0_0 : Kd.C (Kd.int .i64) w A0_0 l0_0.length l0_0) (hc0_0 : l0_0.length ≤ c0_0) (hr0_1 : Kd.C (Kd.int .i64) w A0_1 l0_1.length l0_1) (hc0_1 : l0_1.length ≤ c0_1) (hr1_0 : Kd.C (Kd.int .i64) w A1_0 l1_0.length l1_0) (hc1_0 : l1_0.length ≤ c1_0) (hr1_1 : Kd.C (Kd.int .i64) w A1_1 l1_1.length l1_1) (hc1_1 : l1_1.length ≤ c1_1) (h : laws_eqSchedule.f k l0_0 l0_1 l1_0 l1_1 = some r) :
    Calls Try.prog 48 #[.agg #[.slice A0_0 l0_0.length c0_0, .slice A0_1 l0_1.length c0_1], .agg #[.slice A1_0 l1_0.length c1_0, .slice A1_1 l1_1.length c1_1]] w fun e w' => e = .returned (.bool r) ∧ Below w.heap.size w w' := by
  have hu32 := Try.underlying32
  have HR0_0 := Aside0.mk hr0_0
  have HC0_0 := Aside0.mk hc0_0
  clear hr0_0 hc0_0
  have HR0_1 := Aside0.mk hr0_1
  have HC0_1 := Aside0.mk hc0_1
  clear hr0_1 hc0_1
  have HR1_0 := Aside0.mk hr1_0
  have HC1_0 := Aside0.mk hc1_0
  clear hr1_0 hc1_0
  have HR1_1 := Aside0.mk hr1_1
  have HC1_1 := Aside0.mk hc1_1
  clear hr1_1 hc1_1
  have HB := Aside0.mk (Below.refl w.heap.size w)
  have H : ((laws_eqIntS.f k l0_0 l1_0).bind fun t103 => (if t103 = true then ((laws_eqIntS.f k l0_1 l1_1).bind fun t104 => (if t104 = true then (some true) else (some false))) else (some false))) = some r := h
  clear h
  replace H := Option.bind_eq_some_iff.mp H
  obtain ⟨t103, A30, H⟩ := H
  replace H : (if t103 = true then ((laws_eqIntS.f k l0_1 l1_1).bind fun t104 => (if t104 = true then (some true) else (some false))) else (some false)) = some r := H
  have A3 := Aside0.mk A30
  clear A30
  by_cases c4 : t103 = true
  · subst c4
    have H1 : ((laws_eqIntS.f k l0_1 l1_1).bind fun t104 => (if t104 = true then (some true) else (some false))) = some r := by rw [if_pos rfl] at H; exact H
    clear H
    have H := H1
    clear H1
    replace H := Option.bind_eq_some_iff.mp H
    obtain ⟨t104, A50, H⟩ := H
    replace H : (if t104 = true then (some true) else (some false)) = some r := H
    have A5 := Aside0.mk A50
    clear A50
    by_cases c6 : t104 = true
    · subst c6
      have H1 : (some true) = some r := by rw [if_pos rfl] at H; exact H
      clear H
      have H := H1
      clear H1
      obtain rfl := Option.some.inj H
      go_enter Try.func48, Try.ntmps48
      go_wp2_with (first | ((with_reducible refine gate_dst (N := 2) rfl ?_); refine box_event ?hg (N := 2) ?hd (cs := #[.slice A0_0 l0_0.length c0_0, .slice A0_1 l0_1.length c0_1]) (t := 32) ?hr ?_; (case hd => rfl); (case hg => rfl); (case hr => first | (go_simp; done) | (go_simp; rfl)); intro gb101 hg w7 hbox hb; have n0_ := Aside0.mk (below_step (by repeat (first | (with_reducible first | exact HB.out | apply below_alloc | apply pw_below_drewN | apply below_drew1) | exact HB.out)) hb); have n1_ := Aside0.mk (hbox); have n2_ := Aside0.mk ((by rw [hg]; exact (below_size (by repeat (first | (with_reducible first | exact HB.out | apply below_alloc | apply pw_below_drewN | apply below_drew1) | exact HB.out))) : w.heap.size ≤ gb101)); have n3_ := Aside0.mk ((by rw [hg]; exact (below_size (by repeat (first | (with_reducible first | exact HB.out | apply below_alloc | apply pw_below_drewN | apply below_drew1) | exact HB.out))) : w.heap.size ≤ gb101)); clear HB; have HB := n0_; have BK101 := n1_; have GW101 := n2_; have GE101 := n3_; clear n0_ n1_ n2_ n3_; clear hb hbox hg) | ((with_reducible refine gate_dst (N := 3) rfl ?_); refine box_event ?hg (N := 3) ?hd (cs := #[.slice A1_0 l1_0.length c1_0, .slice A1_1 l1_1.length c1_1]) (t := 32) ?hr ?_; (case hd => rfl); (case hg => rfl); (case hr => first | (go_simp; done) | (go_simp; rfl)); intro gb102 hg w8 hbox hb; have n0_ := Aside0.mk (blk_below (g := gb101) (o := .cells #[.slice A0_0 l0_0.length c0_0, .slice A0_1 l0_1.length c0_1] 32 (0, 0)) (by (with_reducible repeat (first | refine blk_drewN ?_ _ | refine blk_drew ?_ | refine blk_alloc ?_ _)); exact BK101.out) hb); have n1_ := Aside0.mk (below_step (by repeat (first | (with_reducible first | exact HB.out | apply below_alloc | apply pw_below_drewN | apply below_drew1 | refine below_set ?_ GE101.out) | exact HB.out)) hb); have n2_ := Aside0.mk (hbox); have n3_ := Aside0.mk ((by rw [hg]; exact (below_size (by repeat (first | (with_reducible first | exact HB.out | apply below_alloc | apply pw_below_drewN | apply below_drew1 | refine below_set ?_ GE101.out) | exact HB.out))) : w.heap.size ≤ gb102)); have n4_ := Aside0.mk ((by rw [hg]; exact (below_size (by repeat (first | (with_reducible first | exact HB.out | apply below_alloc | apply pw_below_drewN | apply below_drew1 | refine below_set ?_ GE101.out) | exact HB.out))) : w.heap.size ≤ gb102)); have n5_ := Aside0.mk ((by rw [hg]; exact Nat.ne_of_lt (blk_lt (g := gb101) (o := .cells #[.slice A0_0 l0_0.length c0_0, .slice A0_1 l0_1.length c0_1] 32 (0, 0)) (by (with_reducible repeat (first | refine blk_drewN ?_ _ | refine blk_drew ?_ | refine blk_alloc ?_ _)); exact BK101.out)) : gb101 ≠ gb102)); have n6_ := Aside0.mk ((by rw [hg]; exact Nat.ne_of_gt (blk_lt (g := gb101) (o := .cells #[.slice A0_0 l0_0.length c0_0, .slice A0_1 l0_1.length c0_1] 32 (0, 0)) (by (with_reducible repeat (first | refine blk_drewN ?_ _ | refine blk_drew ?_ | refine blk_alloc ?_ _)); exact BK101.out)) : gb102 ≠ gb101)); clear BK101; clear HB; have BK101 := n0_; have HB := n1_; have BK102 := n2_; have GW102 := n3_; have GE102 := n4_; have NB101_102 := n5_; have NB102_101 := n6_; clear n0_ n1_ n2_ n3_ n4_ n5_ n6_; clear hb hbox hg; have hnb9 := NB101_102.out; have hnc9 := NB102_101.out; have hcz10_0 : w8.cell? ⟨gb101, 0, none⟩ = some (.slice A0_0 l0_0.length c0_0) := (blk_cell BK101.out 0).trans rfl; have hcz10_1 : w8.cell? ⟨gb101, 1, none⟩ = some (.slice A0_1 l0_1.length c0_1) := (blk_cell BK101.out 1).trans rfl; have hfz10_0 := blk_frozen BK101.out 0; have hfz10_1 := blk_frozen BK101.out 1; have hcz11_0 : w8.cell? ⟨gb102, 0, none⟩ = some (.slice A1_0 l1_0.length c1_0) := (blk_cell BK102.out 0).trans rfl; have hcz11_1 : w8.cell? ⟨gb102, 1, none⟩ = some (.slice A1_1 l1_1.length c1_1) := (blk_cell BK102.out 1).trans rfl; have hfz11_0 := blk_frozen BK102.out 0; have hfz11_1 := blk_frozen BK102.out 1) | ((with_reducible refine gate_callee (f := 45) rfl ?_); refine goesL_ (some 9) rfl rfl Try.func45 (by kernel_rfl) rfl #[.slice A0_0 l0_0.length c0_0, .slice A1_0 l1_0.length c1_0] rfl (by (try simp only [List.map_toArray, List.map_cons, List.map_nil]); first | done | rfl | (simp only [List.length_drop, List.length_take]; rfl)) ?_; (with_reducible refine (laws_eqIntS.calls k _ _ l0_0 _ _ l1_0 true _ ?side1 ?side2 ?side3 ?side4 A3.out).mono ?_); (case side1 => repeat (first | exact (Kd.C_below HR0_0.out HB.out) | (with_reducible refine Kd.C_alloc ?_ _) | (with_reducible refine Kd.C_drewN ?_ _) | (with_reducible refine Kd.C_drew ?_))); (case side2 => exact HC0_0.out); (case side3 => repeat (first | exact (Kd.C_below HR1_0.out HB.out) | (with_reducible refine Kd.C_alloc ?_ _) | (with_reducible refine Kd.C_drewN ?_ _) | (with_reducible refine Kd.C_drew ?_))); (case side4 => exact HC1_0.out); rintro e w' ⟨rfl, ⟨nd, rfl⟩⟩; refine ⟨_, rfl, ?_⟩) | ((with_reducible refine gate_callee (f := 45) rfl ?_); refine goesL_ (some 15) rfl rfl Try.func45 (by kernel_rfl) rfl #[.slice A0_1 l0_1.length c0_1, .slice A1_1 l1_1.length c1_1] rfl (by (try simp only [List.map_toArray, List.map_cons, List.map_nil]); first | done | rfl | (simp only [List.length_drop, List.length_take]; rfl)) ?_; (with_reducible refine (laws_eqIntS.calls k _ _ l0_1 _ _ l1_1 true _ ?side1 ?side2 ?side3 ?side4 A5.out).mono ?_); (case side1 => repeat (first | exact (Kd.C_below HR0_1.out (by repeat (first | (with_reducible first | exact HB.out | apply below_alloc | apply pw_below_drewN | apply below_drew1 | refine below_set ?_ GE101.out | refine below_set ?_ GE102.out) | exact HB.out))) | (with_reducible refine Kd.C_alloc ?_ _) | (with_reducible refine Kd.C_drewN ?_ _) | (with_reducible refine Kd.C_drew ?_))); (case side2 => exact HC0_1.out); (case side3 => repeat (first | exact (Kd.C_below HR1_1.out (by repeat (first | (with_reducible first | exact HB.out | apply below_alloc | apply pw_below_drewN | apply below_drew1 | refine below_set ?_ GE101.out | refine below_set ?_ GE102.out) | exact HB.out))) | (with_reducible refine Kd.C_alloc ?_ _) | (with_reducible refine Kd.C_drewN ?_ _) | (with_reducible refine Kd.C_drew ?_))); (case side4 => exact HC1_1.out); rintro e w' ⟨rfl, ⟨nd, rfl⟩⟩; refine ⟨_, rfl, ?_⟩))
      go_ret
      exact ⟨by first | rfl | (simp [errW_none, errW_some] <;> rfl) | (simp [*, errW_none, errW_some] <;> rfl), by repeat (first | (with_reducible first | exact HB.out | apply below_alloc | apply pw_below_drewN | apply below_drew1 | refine below_set ?_ GE101.out | refine below_set ?_ GE102.out) | exact HB.out)⟩
    · replace c6 := Bool.eq_false_iff.mpr c6
      subst c6
      have H1 : (some false) = some r := by rw [if_neg (show ¬ (false = true) by decide)] at H; exact H
      clear H
      have H := H1
      clear H1
      obtain rfl := Option.some.inj H
      go_enter Try.func48, Try.ntmps48
      go_wp2_with (first | ((with_reducible refine gate_dst (N := 2) rfl ?_); refine box_event ?hg (N := 2) ?hd (cs := #[.slice A0_0 l0_0.length c0_0, .slice A0_1 l0_1.length c0_1]) (t := 32) ?hr ?_; (case hd => rfl); (case hg => rfl); (case hr => first | (go_simp; done) | (go_simp; rfl)); intro gb101 hg w12 hbox hb; have n0_ := Aside0.mk (below_step (by repeat (first | (with_reducible first | exact HB.out | apply below_alloc | apply pw_below_drewN | apply below_drew1) | exact HB.out)) hb); have n1_ := Aside0.mk (hbox); have n2_ := Aside0.mk ((by rw [hg]; exact (below_size (by repeat (first | (with_reducible first | exact HB.out | apply below_alloc | apply pw_below_drewN | apply below_drew1) | exact HB.out))) : w.heap.size ≤ gb101)); have n3_ := Aside0.mk ((by rw [hg]; exact (below_size (by repeat (first | (with_reducible first | exact HB.out | apply below_alloc | apply pw_below_drewN | apply below_drew1) | exact HB.out))) : w.heap.size ≤ gb101)); clear HB; have HB := n0_; have BK101 := n1_; have GW101 := n2_; have GE101 := n3_; clear n0_ n1_ n2_ n3_; clear hb hbox hg) | ((with_reducible refine gate_dst (N := 3) rfl ?_); refine box_event ?hg (N := 3) ?hd (cs := #[.slice A1_0 l1_0.length c1_0, .slice A1_1 l1_1.length c1_1]) (t := 32) ?hr ?_; (case hd => rfl); (case hg => rfl); (case hr => first | (go_simp; done) | (go_simp; rfl)); intro gb102 hg w13 hbox hb; have n0_ := Aside0.mk (blk_below (g := gb101) (o := .cells #[.slice A0_0 l0_0.length c0_0, .slice A0_1 l0_1.length c0_1] 32 (0, 0)) (by (with_reducible repeat (first | refine blk_drewN ?_ _ | refine blk_drew ?_ | refine blk_alloc ?_ _)); exact BK101.out) hb); have n1_ := Aside0.mk (below_step (by repeat (first | (with_reducible first | exact HB.out | apply below_alloc | apply pw_below_drewN | apply below_drew1 | refine below_set ?_ GE101.out) | exact HB.out)) hb); have n2_ := Aside0.mk (hbox); have n3_ := Aside0.mk ((by rw [hg]; exact (below_size (by repeat (first | (with_reducible first | exact HB.out | apply below_alloc | apply pw_below_drewN | apply below_drew1 | refine below_set ?_ GE101.out) | exact HB.out))) : w.heap.size ≤ gb102)); have n4_ := Aside0.mk ((by rw [hg]; exact (below_size (by repeat (first | (with_reducible first | exact HB.out | apply below_alloc | apply pw_below_drewN | apply below_drew1 | refine below_set ?_ GE101.out) | exact HB.out))) : w.heap.size ≤ gb102)); have n5_ := Aside0.mk ((by rw [hg]; exact Nat.ne_of_lt (blk_lt (g := gb101) (o := .cells #[.slice A0_0 l0_0.length c0_0, .slice A0_1 l0_1.length c0_1] 32 (0, 0)) (by (with_reducible repeat (first | refine blk_drewN ?_ _ | refine blk_drew ?_ | refine blk_alloc ?_ _)); exact BK101.out)) : gb101 ≠ gb102)); have n6_ := Aside0.mk ((by rw [hg]; exact Nat.ne_of_gt (blk_lt (g := gb101) (o := .cells #[.slice A0_0 l0_0.length c0_0, .slice A0_1 l0_1.length c0_1] 32 (0, 0)) (by (with_reducible repeat (first | refine blk_drewN ?_ _ | refine blk_drew ?_ | refine blk_alloc ?_ _)); exact BK101.out)) : gb102 ≠ gb101)); clear BK101; clear HB; have BK101 := n0_; have HB := n1_; have BK102 := n2_; have GW102 := n3_; have GE102 := n4_; have NB101_102 := n5_; have NB102_101 := n6_; clear n0_ n1_ n2_ n3_ n4_ n5_ n6_; clear hb hbox hg; have hnb14 := NB101_102.out; have hnc14 := NB102_101.out; have hcz15_0 : w13.cell? ⟨gb101, 0, none⟩ = some (.slice A0_0 l0_0.length c0_0) := (blk_cell BK101.out 0).trans rfl; have hcz15_1 : w13.cell? ⟨gb101, 1, none⟩ = some (.slice A0_1 l0_1.length c0_1) := (blk_cell BK101.out 1).trans rfl; have hfz15_0 := blk_frozen BK101.out 0; have hfz15_1 := blk_frozen BK101.out 1; have hcz16_0 : w13.cell? ⟨gb102, 0, none⟩ = some (.slice A1_0 l1_0.length c1_0) := (blk_cell BK102.out 0).trans rfl; have hcz16_1 : w13.cell? ⟨gb102, 1, none⟩ = some (.slice A1_1 l1_1.length c1_1) := (blk_cell BK102.out 1).trans rfl; have hfz16_0 := blk_frozen BK102.out 0; have hfz16_1 := blk_frozen BK102.out 1) | ((with_reducible refine gate_callee (f := 45) rfl ?_); refine goesL_ (some 9) rfl rfl Try.func45 (by kernel_rfl) rfl #[.slice A0_0 l0_0.length c0_0, .slice A1_0 l1_0.length c1_0] rfl (by (try simp only [List.map_toArray, List.map_cons, List.map_nil]); first | done | rfl | (simp only [List.length_drop, List.length_take]; rfl)) ?_; (with_reducible refine (laws_eqIntS.calls k _ _ l0_0 _ _ l1_0 true _ ?side1 ?side2 ?side3 ?side4 A3.out).mono ?_); (case side1 => repeat (first | exact (Kd.C_below HR0_0.out HB.out) | (with_reducible refine Kd.C_alloc ?_ _) | (with_reducible refine Kd.C_drewN ?_ _) | (with_reducible refine Kd.C_drew ?_))); (case side2 => exact HC0_0.out); (case side3 => repeat (first | exact (Kd.C_below HR1_0.out HB.out) | (with_reducible refine Kd.C_alloc ?_ _) | (with_reducible refine Kd.C_drewN ?_ _) | (with_reducible refine Kd.C_drew ?_))); (case side4 => exact HC1_0.out); rintro e w' ⟨rfl, ⟨nd, rfl⟩⟩; refine ⟨_, rfl, ?_⟩) | ((with_reducible refine gate_callee (f := 45) rfl ?_); refine goesL_ (some 15) rfl rfl Try.func45 (by kernel_rfl) rfl #[.slice A0_1 l0_1.length c0_1, .slice A1_1 l1_1.length c1_1] rfl (by (try simp only [List.map_toArray, List.map_cons, List.map_nil]); first | done | rfl | (simp only [List.length_drop, List.length_take]; rfl)) ?_; (with_reducible refine (laws_eqIntS.calls k _ _ l0_1 _ _ l1_1 false _ ?side1 ?side2 ?side3 ?side4 A5.out).mono ?_); (case side1 => repeat (first | exact (Kd.C_below HR0_1.out (by repeat (first | (with_reducible first | exact HB.out | apply below_alloc | apply pw_below_drewN | apply below_drew1 | refine below_set ?_ GE101.out | refine below_set ?_ GE102.out) | exact HB.out))) | (with_reducible refine Kd.C_alloc ?_ _) | (with_reducible refine Kd.C_drewN ?_ _) | (with_reducible refine Kd.C_drew ?_))); (case side2 => exact HC0_1.out); (case side3 => repeat (first | exact (Kd.C_below HR1_1.out (by repeat (first | (with_reducible first | exact HB.out | apply below_alloc | apply pw_below_drewN | apply below_drew1 | refine below_set ?_ GE101.out | refine below_set ?_ GE102.out) | exact HB.out))) | (with_reducible refine Kd.C_alloc ?_ _) | (with_reducible refine Kd.C_drewN ?_ _) | (with_reducible refine Kd.C_drew ?_))); (case side4 => exact HC1_1.out); rintro e w' ⟨rfl, ⟨nd, rfl⟩⟩; refine ⟨_, rfl, ?_⟩))
      go_ret
      exact ⟨by first | rfl | (simp [errW_none, errW_some] <;> rfl) | (simp [*, errW_none, errW_some] <;> rfl), by repeat (first | (with_reducible first | exact HB.out | apply below_alloc | apply pw_below_drewN | apply below_drew1 | refine below_set ?_ GE101.out | refine below_set ?_ GE102.out) | exact HB.out)⟩
  · replace c4 := Bool.eq_false_iff.mpr c4
    subst c4
    have H1 : (some false) = some r := by rw [if_neg (show ¬ (false = true) by decide)] at H; exact H
    clear H
    have H := H1
    clear H1
    obtain rfl := Option.some.inj H
    go_enter Try.func48, Try.ntmps48
    go_wp2_with (first | ((with_reducible refine gate_dst (N := 2) rfl ?_); refine box_event ?hg (N := 2) ?hd (cs := #[.slice A0_0 l0_0.length c0_0, .slice A0_1 l0_1.length c0_1]) (t := 32) ?hr ?_; (case hd => rfl); (case hg => rfl); (case hr => first | (go_simp; done) | (go_simp; rfl)); intro gb101 hg w17 hbox hb; have n0_ := Aside0.mk (below_step (by repeat (first | (with_reducible first | exact HB.out | apply below_alloc | apply pw_below_drewN | apply below_drew1) | exact HB.out)) hb); have n1_ := Aside0.mk (hbox); have n2_ := Aside0.mk ((by rw [hg]; exact (below_size (by repeat (first | (with_reducible first | exact HB.out | apply below_alloc | apply pw_below_drewN | apply below_drew1) | exact HB.out))) : w.heap.size ≤ gb101)); have n3_ := Aside0.mk ((by rw [hg]; exact (below_size (by repeat (first | (with_reducible first | exact HB.out | apply below_alloc | apply pw_below_drewN | apply below_drew1) | exact HB.out))) : w.heap.size ≤ gb101)); clear HB; have HB := n0_; have BK101 := n1_; have GW101 := n2_; have GE101 := n3_; clear n0_ n1_ n2_ n3_; clear hb hbox hg) | ((with_reducible refine gate_dst (N := 3) rfl ?_); refine box_event ?hg (N := 3) ?hd (cs := #[.slice A1_0 l1_0.length c1_0, .slice A1_1 l1_1.length c1_1]) (t := 32) ?hr ?_; (case hd => rfl); (case hg => rfl); (case hr => first | (go_simp; done) | (go_simp; rfl)); intro gb102 hg w18 hbox hb; have n0_ := Aside0.mk (blk_below (g := gb101) (o := .cells #[.slice A0_0 l0_0.length c0_0, .slice A0_1 l0_1.length c0_1] 32 (0, 0)) (by (with_reducible repeat (first | refine blk_drewN ?_ _ | refine blk_drew ?_ | refine blk_alloc ?_ _)); exact BK101.out) hb); have n1_ := Aside0.mk (below_step (by repeat (first | (with_reducible first | exact HB.out | apply below_alloc | apply pw_below_drewN | apply below_drew1 | refine below_set ?_ GE101.out) | exact HB.out)) hb); have n2_ := Aside0.mk (hbox); have n3_ := Aside0.mk ((by rw [hg]; exact (below_size (by repeat (first | (with_reducible first | exact HB.out | apply below_alloc | apply pw_below_drewN | apply below_drew1 | refine below_set ?_ GE101.out) | exact HB.out))) : w.heap.size ≤ gb102)); have n4_ := Aside0.mk ((by rw [hg]; exact (below_size (by repeat (first | (with_reducible first | exact HB.out | apply below_alloc | apply pw_below_drewN | apply below_drew1 | refine below_set ?_ GE101.out) | exact HB.out))) : w.heap.size ≤ gb102)); have n5_ := Aside0.mk ((by rw [hg]; exact Nat.ne_of_lt (blk_lt (g := gb101) (o := .cells #[.slice A0_0 l0_0.length c0_0, .slice A0_1 l0_1.length c0_1] 32 (0, 0)) (by (with_reducible repeat (first | refine blk_drewN ?_ _ | refine blk_drew ?_ | refine blk_alloc ?_ _)); exact BK101.out)) : gb101 ≠ gb102)); have n6_ := Aside0.mk ((by rw [hg]; exact Nat.ne_of_gt (blk_lt (g := gb101) (o := .cells #[.slice A0_0 l0_0.length c0_0, .slice A0_1 l0_1.length c0_1] 32 (0, 0)) (by (with_reducible repeat (first | refine blk_drewN ?_ _ | refine blk_drew ?_ | refine blk_alloc ?_ _)); exact BK101.out)) : gb102 ≠ gb101)); clear BK101; clear HB; have BK101 := n0_; have HB := n1_; have BK102 := n2_; have GW102 := n3_; have GE102 := n4_; have NB101_102 := n5_; have NB102_101 := n6_; clear n0_ n1_ n2_ n3_ n4_ n5_ n6_; clear hb hbox hg; have hnb19 := NB101_102.out; have hnc19 := NB102_101.out; have hcz20_0 : w18.cell? ⟨gb101, 0, none⟩ = some (.slice A0_0 l0_0.length c0_0) := (blk_cell BK101.out 0).trans rfl; have hcz20_1 : w18.cell? ⟨gb101, 1, none⟩ = some (.slice A0_1 l0_1.length c0_1) := (blk_cell BK101.out 1).trans rfl; have hfz20_0 := blk_frozen BK101.out 0; have hfz20_1 := blk_frozen BK101.out 1; have hcz21_0 : w18.cell? ⟨gb102, 0, none⟩ = some (.slice A1_0 l1_0.length c1_0) := (blk_cell BK102.out 0).trans rfl; have hcz21_1 : w18.cell? ⟨gb102, 1, none⟩ = some (.slice A1_1 l1_1.length c1_1) := (blk_cell BK102.out 1).trans rfl; have hfz21_0 := blk_frozen BK102.out 0; have hfz21_1 := blk_frozen BK102.out 1) | ((with_reducible refine gate_callee (f := 45) rfl ?_); refine goesL_ (some 9) rfl rfl Try.func45 (by kernel_rfl) rfl #[.slice A0_0 l0_0.length c0_0, .slice A1_0 l1_0.length c1_0] rfl (by (try simp only [List.map_toArray, List.map_cons, List.map_nil]); first | done | rfl | (simp only [List.length_drop, List.length_take]; rfl)) ?_; (with_reducible refine (laws_eqIntS.calls k _ _ l0_0 _ _ l1_0 false _ ?side1 ?side2 ?side3 ?side4 A3.out).mono ?_); (case side1 => repeat (first | exact (Kd.C_below HR0_0.out HB.out) | (with_reducible refine Kd.C_alloc ?_ _) | (with_reducible refine Kd.C_drewN ?_ _) | (with_reducible refine Kd.C_drew ?_))); (case side2 => exact HC0_0.out); (case side3 => repeat (first | exact (Kd.C_below HR1_0.out HB.out) | (with_reducible refine Kd.C_alloc ?_ _) | (with_reducible refine Kd.C_drewN ?_ _) | (with_reducible refine Kd.C_drew ?_))); (case side4 => exact HC1_0.out); rintro e w' ⟨rfl, ⟨nd, rfl⟩⟩; refine ⟨_, rfl, ?_⟩))
    go_ret
    exact ⟨by first | rfl | (simp [errW_none, errW_some] <;> rfl) | (simp [*, errW_none, errW_some] <;> rfl), by repeat (first | (with_reducible first | exact HB.out | apply below_alloc | apply pw_below_drewN | apply below_drew1 | refine below_set ?_ GE101.out | refine below_set ?_ GE102.out) | exact HB.out)⟩



/-! ### laws_eqSection: function 137 -/
def laws_eqSection.f (a0_0 : Int) (a0_1 : Int) (a0_2 : Int) (a1_0 : Int) (a1_1 : Int) (a1_2 : Int) : Option (Bool) := if a0_0 = a1_0 then (if a0_1 = a1_1 then (if a0_2 = a1_2 then (some true) else (some false)) else (some false)) else (some false)
set_option maxHeartbeats 8000000 in
set_option maxRecDepth 100000 in
theorem laws_eqSection.calls (a0_0 : Int) (a0_1 : Int) (a0_2 : Int) (a1_0 : Int) (a1_1 : Int) (a1_2 : Int) (r : Bool) (w : World) (h : laws_eqSection.f a0_0 a0_1 a0_2 a1_0 a1_1 a1_2 = some r) :
    Calls Try.prog 137 #[.agg #[.int .i64 a0_0, .int .i64 a0_1, .int .i64 a0_2], .agg #[.int .i64 a1_0, .int .i64 a1_1, .int .i64 a1_2]] w fun e w' => e = .returned (.bool r) ∧ Below w.heap.size w w' := by
  have hu64 := Try.underlying64
  have HB := Aside0.mk (Below.refl w.heap.size w)
  have H : (if a0_0 = a1_0 then (if a0_1 = a1_1 then (if a0_2 = a1_2 then (some true) else (some false)) else (some false)) else (some false)) = some r := h
  clear h
  by_cases c3 : a0_0 = a1_0
  · rw [if_pos c3] at H
    have c3b0 : (a0_0 == a1_0) = true := beq_iff_eq.mpr c3
    have c3b1 : (a0_0 != a1_0) = false := bne_eq_false_iff_eq.mpr c3
    clear c3
    by_cases c4 : a0_1 = a1_1
    · rw [if_pos c4] at H
      have c4b0 : (a0_1 == a1_1) = true := beq_iff_eq.mpr c4
      have c4b1 : (a0_1 != a1_1) = false := bne_eq_false_iff_eq.mpr c4
      clear c4
      by_cases c5 : a0_2 = a1_2
      · rw [if_pos c5] at H
        have c5b0 : (a0_2 == a1_2) = true := beq_iff_eq.mpr c5
        have c5b1 : (a0_2 != a1_2) = false := bne_eq_false_iff_eq.mpr c5
        clear c5
        obtain rfl := Option.some.inj H
        go_enter Try.func137, Try.ntmps137
        go_wp2_with (first | ((with_reducible refine gate_dst (N := 2) rfl ?_); refine box_event ?hg (N := 2) ?hd (cs := #[.int .i64 a0_0, .int .i64 a0_1, .int .i64 a0_2]) (t := 64) ?hr ?_; (case hd => rfl); (case hg => rfl); (case hr => first | (go_simp; done) | (go_simp; rfl)); intro gb101 hg w6 hbox hb; have n0_ := Aside0.mk (below_step (by repeat (first | (with_reducible first | exact HB.out | apply below_alloc | apply pw_below_drewN | apply below_drew1) | exact HB.out)) hb); have n1_ := Aside0.mk (hbox); have n2_ := Aside0.mk ((by rw [hg]; exact (below_size (by repeat (first | (with_reducible first | exact HB.out | apply below_alloc | apply pw_below_drewN | apply below_drew1) | exact HB.out))) : w.heap.size ≤ gb101)); have n3_ := Aside0.mk ((by rw [hg]; exact (below_size (by repeat (first | (with_reducible first | exact HB.out | apply below_alloc | apply pw_below_drewN | apply below_drew1) | exact HB.out))) : w.heap.size ≤ gb101)); clear HB; have HB := n0_; have BK101 := n1_; have GW101 := n2_; have GE101 := n3_; clear n0_ n1_ n2_ n3_; clear hb hbox hg) | ((with_reducible refine gate_dst (N := 3) rfl ?_); refine box_event ?hg (N := 3) ?hd (cs := #[.int .i64 a1_0, .int .i64 a1_1, .int .i64 a1_2]) (t := 64) ?hr ?_; (case hd => rfl); (case hg => rfl); (case hr => first | (go_simp; done) | (go_simp; rfl)); intro gb102 hg w7 hbox hb; have n0_ := Aside0.mk (blk_below (g := gb101) (o := .cells #[.int .i64 a0_0, .int .i64 a0_1, .int .i64 a0_2] 64 (0, 0)) (by (with_reducible repeat (first | refine blk_drewN ?_ _ | refine blk_drew ?_ | refine blk_alloc ?_ _)); exact BK101.out) hb); have n1_ := Aside0.mk (below_step (by repeat (first | (with_reducible first | exact HB.out | apply below_alloc | apply pw_below_drewN | apply below_drew1 | refine below_set ?_ GE101.out) | exact HB.out)) hb); have n2_ := Aside0.mk (hbox); have n3_ := Aside0.mk ((by rw [hg]; exact (below_size (by repeat (first | (with_reducible first | exact HB.out | apply below_alloc | apply pw_below_drewN | apply below_drew1 | refine below_set ?_ GE101.out) | exact HB.out))) : w.heap.size ≤ gb102)); have n4_ := Aside0.mk ((by rw [hg]; exact (below_size (by repeat (first | (with_reducible first | exact HB.out | apply below_alloc | apply pw_below_drewN | apply below_drew1 | refine below_set ?_ GE101.out) | exact HB.out))) : w.heap.size ≤ gb102)); have n5_ := Aside0.mk ((by rw [hg]; exact Nat.ne_of_lt (blk_lt (g := gb101) (o := .cells #[.int .i64 a0_0, .int .i64 a0_1, .int .i64 a0_2] 64 (0, 0)) (by (with_reducible repeat (first | refine blk_drewN ?_ _ | refine blk_drew ?_ | refine blk_alloc ?_ _)); exact BK101.out)) : gb101 ≠ gb102)); have n6_ := Aside0.mk ((by rw [hg]; exact Nat.ne_of_gt (blk_lt (g := gb101) (o := .cells #[.int .i64 a0_0, .int .i64 a0_1, .int .i64 a0_2] 64 (0, 0)) (by (with_reducible repeat (first | refine blk_drewN ?_ _ | refine blk_drew ?_ | refine blk_alloc ?_ _)); exact BK101.out)) : gb102 ≠ gb101)); clear BK101; clear HB; have BK101 := n0_; have HB := n1_; have BK102 := n2_; have GW102 := n3_; have GE102 := n4_; have NB101_102 := n5_; have NB102_101 := n6_; clear n0_ n1_ n2_ n3_ n4_ n5_ n6_; clear hb hbox hg; have hnb8 := NB101_102.out; have hnc8 := NB102_101.out; have hcz9_0 : w7.cell? ⟨gb101, 0, none⟩ = some (.int .i64 a0_0) := (blk_cell BK101.out 0).trans rfl; have hcz9_1 : w7.cell? ⟨gb101, 1, none⟩ = some (.int .i64 a0_1) := (blk_cell BK101.out 1).trans rfl; have hcz9_2 : w7.cell? ⟨gb101, 2, none⟩ = some (.int .i64 a0_2) := (blk_cell BK101.out 2).trans rfl; have hfz9_0 := blk_frozen BK101.out 0; have hfz9_1 := blk_frozen BK101.out 1; have hfz9_2 := blk_frozen BK101.out 2; have hcz10_0 : w7.cell? ⟨gb102, 0, none⟩ = some (.int .i64 a1_0) := (blk_cell BK102.out 0).trans rfl; have hcz10_1 : w7.cell? ⟨gb102, 1, none⟩ = some (.int .i64 a1_1) := (blk_cell BK102.out 1).trans rfl; have hcz10_2 : w7.cell? ⟨gb102, 2, none⟩ = some (.int .i64 a1_2) := (blk_cell BK102.out 2).trans rfl; have hfz10_0 := blk_frozen BK102.out 0; have hfz10_1 := blk_frozen BK102.out 1; have hfz10_2 := blk_frozen BK102.out 2))
        go_ret
        exact ⟨by first | rfl | (simp [errW_none, errW_some] <;> rfl) | (simp [*, errW_none, errW_some] <;> rfl), by repeat (first | (with_reducible first | exact HB.out | apply below_alloc | apply pw_below_drewN | apply below_drew1 | refine below_set ?_ GE101.out | refine below_set ?_ GE102.out) | exact HB.out)⟩
      · rw [if_neg c5] at H
        have c5b0 : (a0_2 == a1_2) = false := beq_eq_false_iff_ne.mpr c5
        have c5b1 : (a0_2 != a1_2) = true := bne_iff_ne.mpr c5
        obtain rfl := Option.some.inj H
        go_enter Try.func137, Try.ntmps137
        go_wp2_with (first | ((with_reducible refine gate_dst (N := 2) rfl ?_); refine box_event ?hg (N := 2) ?hd (cs := #[.int .i64 a0_0, .int .i64 a0_1, .int .i64 a0_2]) (t := 64) ?hr ?_; (case hd => rfl); (case hg => rfl); (case hr => first | (go_simp; done) | (go_simp; rfl)); intro gb101 hg w11 hbox hb; have n0_ := Aside0.mk (below_step (by repeat (first | (with_reducible first | exact HB.out | apply below_alloc | apply pw_below_drewN | apply below_drew1) | exact HB.out)) hb); have n1_ := Aside0.mk (hbox); have n2_ := Aside0.mk ((by rw [hg]; exact (below_size (by repeat (first | (with_reducible first | exact HB.out | apply below_alloc | apply pw_below_drewN | apply below_drew1) | exact HB.out))) : w.heap.size ≤ gb101)); have n3_ := Aside0.mk ((by rw [hg]; exact (below_size (by repeat (first | (with_reducible first | exact HB.out | apply below_alloc | apply pw_below_drewN | apply below_drew1) | exact HB.out))) : w.heap.size ≤ gb101)); clear HB; have HB := n0_; have BK101 := n1_; have GW101 := n2_; have GE101 := n3_; clear n0_ n1_ n2_ n3_; clear hb hbox hg) | ((with_reducible refine gate_dst (N := 3) rfl ?_); refine box_event ?hg (N := 3) ?hd (cs := #[.int .i64 a1_0, .int .i64 a1_1, .int .i64 a1_2]) (t := 64) ?hr ?_; (case hd => rfl); (case hg => rfl); (case hr => first | (go_simp; done) | (go_simp; rfl)); intro gb102 hg w12 hbox hb; have n0_ := Aside0.mk (blk_below (g := gb101) (o := .cells #[.int .i64 a0_0, .int .i64 a0_1, .int .i64 a0_2] 64 (0, 0)) (by (with_reducible repeat (first | refine blk_drewN ?_ _ | refine blk_drew ?_ | refine blk_alloc ?_ _)); exact BK101.out) hb); have n1_ := Aside0.mk (below_step (by repeat (first | (with_reducible first | exact HB.out | apply below_alloc | apply pw_below_drewN | apply below_drew1 | refine below_set ?_ GE101.out) | exact HB.out)) hb); have n2_ := Aside0.mk (hbox); have n3_ := Aside0.mk ((by rw [hg]; exact (below_size (by repeat (first | (with_reducible first | exact HB.out | apply below_alloc | apply pw_below_drewN | apply below_drew1 | refine below_set ?_ GE101.out) | exact HB.out))) : w.heap.size ≤ gb102)); have n4_ := Aside0.mk ((by rw [hg]; exact (below_size (by repeat (first | (with_reducible first | exact HB.out | apply below_alloc | apply pw_below_drewN | apply below_drew1 | refine below_set ?_ GE101.out) | exact HB.out))) : w.heap.size ≤ gb102)); have n5_ := Aside0.mk ((by rw [hg]; exact Nat.ne_of_lt (blk_lt (g := gb101) (o := .cells #[.int .i64 a0_0, .int .i64 a0_1, .int .i64 a0_2] 64 (0, 0)) (by (with_reducible repeat (first | refine blk_drewN ?_ _ | refine blk_drew ?_ | refine blk_alloc ?_ _)); exact BK101.out)) : gb101 ≠ gb102)); have n6_ := Aside0.mk ((by rw [hg]; exact Nat.ne_of_gt (blk_lt (g := gb101) (o := .cells #[.int .i64 a0_0, .int .i64 a0_1, .int .i64 a0_2] 64 (0, 0)) (by (with_reducible repeat (first | refine blk_drewN ?_ _ | refine blk_drew ?_ | refine blk_alloc ?_ _)); exact BK101.out)) : gb102 ≠ gb101)); clear BK101; clear HB; have BK101 := n0_; have HB := n1_; have BK102 := n2_; have GW102 := n3_; have GE102 := n4_; have NB101_102 := n5_; have NB102_101 := n6_; clear n0_ n1_ n2_ n3_ n4_ n5_ n6_; clear hb hbox hg; have hnb13 := NB101_102.out; have hnc13 := NB102_101.out; have hcz14_0 : w12.cell? ⟨gb101, 0, none⟩ = some (.int .i64 a0_0) := (blk_cell BK101.out 0).trans rfl; have hcz14_1 : w12.cell? ⟨gb101, 1, none⟩ = some (.int .i64 a0_1) := (blk_cell BK101.out 1).trans rfl; have hcz14_2 : w12.cell? ⟨gb101, 2, none⟩ = some (.int .i64 a0_2) := (blk_cell BK101.out 2).trans rfl; have hfz14_0 := blk_frozen BK101.out 0; have hfz14_1 := blk_frozen BK101.out 1; have hfz14_2 := blk_frozen BK101.out 2; have hcz15_0 : w12.cell? ⟨gb102, 0, none⟩ = some (.int .i64 a1_0) := (blk_cell BK102.out 0).trans rfl; have hcz15_1 : w12.cell? ⟨gb102, 1, none⟩ = some (.int .i64 a1_1) := (blk_cell BK102.out 1).trans rfl; have hcz15_2 : w12.cell? ⟨gb102, 2, none⟩ = some (.int .i64 a1_2) := (blk_cell BK102.out 2).trans rfl; have hfz15_0 := blk_frozen BK102.out 0; have hfz15_1 := blk_frozen BK102.out 1; have hfz15_2 := blk_frozen BK102.out 2))
        go_ret
        exact ⟨by first | rfl | (simp [errW_none, errW_some] <;> rfl) | (simp [*, errW_none, errW_some] <;> rfl), by repeat (first | (with_reducible first | exact HB.out | apply below_alloc | apply pw_below_drewN | apply below_drew1 | refine below_set ?_ GE101.out | refine below_set ?_ GE102.out) | exact HB.out)⟩
    · rw [if_neg c4] at H
      have c4b0 : (a0_1 == a1_1) = false := beq_eq_false_iff_ne.mpr c4
      have c4b1 : (a0_1 != a1_1) = true := bne_iff_ne.mpr c4
      obtain rfl := Option.some.inj H
      go_enter Try.func137, Try.ntmps137
      go_wp2_with (first | ((with_reducible refine gate_dst (N := 2) rfl ?_); refine box_event ?hg (N := 2) ?hd (cs := #[.int .i64 a0_0, .int .i64 a0_1, .int .i64 a0_2]) (t := 64) ?hr ?_; (case hd => rfl); (case hg => rfl); (case hr => first | (go_simp; done) | (go_simp; rfl)); intro gb101 hg w16 hbox hb; have n0_ := Aside0.mk (below_step (by repeat (first | (with_reducible first | exact HB.out | apply below_alloc | apply pw_below_drewN | apply below_drew1) | exact HB.out)) hb); have n1_ := Aside0.mk (hbox); have n2_ := Aside0.mk ((by rw [hg]; exact (below_size (by repeat (first | (with_reducible first | exact HB.out | apply below_alloc | apply pw_below_drewN | apply below_drew1) | exact HB.out))) : w.heap.size ≤ gb101)); have n3_ := Aside0.mk ((by rw [hg]; exact (below_size (by repeat (first | (with_reducible first | exact HB.out | apply below_alloc | apply pw_below_drewN | apply below_drew1) | exact HB.out))) : w.heap.size ≤ gb101)); clear HB; have HB := n0_; have BK101 := n1_; have GW101 := n2_; have GE101 := n3_; clear n0_ n1_ n2_ n3_; clear hb hbox hg) | ((with_reducible refine gate_dst (N := 3) rfl ?_); refine box_event ?hg (N := 3) ?hd (cs := #[.int .i64 a1_0, .int .i64 a1_1, .int .i64 a1_2]) (t := 64) ?hr ?_; (case hd => rfl); (case hg => rfl); (case hr => first | (go_simp; done) | (go_simp; rfl)); intro gb102 hg w17 hbox hb; have n0_ := Aside0.mk (blk_below (g := gb101) (o := .cells #[.int .i64 a0_0, .int .i64 a0_1, .int .i64 a0_2] 64 (0, 0)) (by (with_reducible repeat (first | refine blk_drewN ?_ _ | refine blk_drew ?_ | refine blk_alloc ?_ _)); exact BK101.out) hb); have n1_ := Aside0.mk (below_step (by repeat (first | (with_reducible first | exact HB.out | apply below_alloc | apply pw_below_drewN | apply below_drew1 | refine below_set ?_ GE101.out) | exact HB.out)) hb); have n2_ := Aside0.mk (hbox); have n3_ := Aside0.mk ((by rw [hg]; exact (below_size (by repeat (first | (with_reducible first | exact HB.out | apply below_alloc | apply pw_below_drewN | apply below_drew1 | refine below_set ?_ GE101.out) | exact HB.out))) : w.heap.size ≤ gb102)); have n4_ := Aside0.mk ((by rw [hg]; exact (below_size (by repeat (first | (with_reducible first | exact HB.out | apply below_alloc | apply pw_below_drewN | apply below_drew1 | refine below_set ?_ GE101.out) | exact HB.out))) : w.heap.size ≤ gb102)); have n5_ := Aside0.mk ((by rw [hg]; exact Nat.ne_of_lt (blk_lt (g := gb101) (o := .cells #[.int .i64 a0_0, .int .i64 a0_1, .int .i64 a0_2] 64 (0, 0)) (by (with_reducible repeat (first | refine blk_drewN ?_ _ | refine blk_drew ?_ | refine blk_alloc ?_ _)); exact BK101.out)) : gb101 ≠ gb102)); have n6_ := Aside0.mk ((by rw [hg]; exact Nat.ne_of_gt (blk_lt (g := gb101) (o := .cells #[.int .i64 a0_0, .int .i64 a0_1, .int .i64 a0_2] 64 (0, 0)) (by (with_reducible repeat (first | refine blk_drewN ?_ _ | refine blk_drew ?_ | refine blk_alloc ?_ _)); exact BK101.out)) : gb102 ≠ gb101)); clear BK101; clear HB; have BK101 := n0_; have HB := n1_; have BK102 := n2_; have GW102 := n3_; have GE102 := n4_; have NB101_102 := n5_; have NB102_101 := n6_; clear n0_ n1_ n2_ n3_ n4_ n5_ n6_; clear hb hbox hg; have hnb18 := NB101_102.out; have hnc18 := NB102_101.out; have hcz19_0 : w17.cell? ⟨gb101, 0, none⟩ = some (.int .i64 a0_0) := (blk_cell BK101.out 0).trans rfl; have hcz19_1 : w17.cell? ⟨gb101, 1, none⟩ = some (.int .i64 a0_1) := (blk_cell BK101.out 1).trans rfl; have hcz19_2 : w17.cell? ⟨gb101, 2, none⟩ = some (.int .i64 a0_2) := (blk_cell BK101.out 2).trans rfl; have hfz19_0 := blk_frozen BK101.out 0; have hfz19_1 := blk_frozen BK101.out 1; have hfz19_2 := blk_frozen BK101.out 2; have hcz20_0 : w17.cell? ⟨gb102, 0, none⟩ = some (.int .i64 a1_0) := (blk_cell BK102.out 0).trans rfl; have hcz20_1 : w17.cell? ⟨gb102, 1, none⟩ = some (.int .i64 a1_1) := (blk_cell BK102.out 1).trans rfl; have hcz20_2 : w17.cell? ⟨gb102, 2, none⟩ = some (.int .i64 a1_2) := (blk_cell BK102.out 2).trans rfl; have hfz20_0 := blk_frozen BK102.out 0; have hfz20_1 := blk_frozen BK102.out 1; have hfz20_2 := blk_frozen BK102.out 2))
      go_ret
      exact ⟨by first | rfl | (simp [errW_none, errW_some] <;> rfl) | (simp [*, errW_none, errW_some] <;> rfl), by repeat (first | (with_reducible first | exact HB.out | apply below_alloc | apply pw_below_drewN | apply below_drew1 | refine below_set ?_ GE101.out | refine below_set ?_ GE102.out) | exact HB.out)⟩
  · rw [if_neg c3] at H
    have c3b0 : (a0_0 == a1_0) = false := beq_eq_false_iff_ne.mpr c3
    have c3b1 : (a0_0 != a1_0) = true := bne_iff_ne.mpr c3
    obtain rfl := Option.some.inj H
    go_enter Try.func137, Try.ntmps137
    go_wp2_with (first | ((with_reducible refine gate_dst (N := 2) rfl ?_); refine box_event ?hg (N := 2) ?hd (cs := #[.int .i64 a0_0, .int .i64 a0_1, .int .i64 a0_2]) (t := 64) ?hr ?_; (case hd => rfl); (case hg => rfl); (case hr => first | (go_simp; done) | (go_simp; rfl)); intro gb101 hg w21 hbox hb; have n0_ := Aside0.mk (below_step (by repeat (first | (with_reducible first | exact HB.out | apply below_alloc | apply pw_below_drewN | apply below_drew1) | exact HB.out)) hb); have n1_ := Aside0.mk (hbox); have n2_ := Aside0.mk ((by rw [hg]; exact (below_size (by repeat (first | (with_reducible first | exact HB.out | apply below_alloc | apply pw_below_drewN | apply below_drew1) | exact HB.out))) : w.heap.size ≤ gb101)); have n3_ := Aside0.mk ((by rw [hg]; exact (below_size (by repeat (first | (with_reducible first | exact HB.out | apply below_alloc | apply pw_below_drewN | apply below_drew1) | exact HB.out))) : w.heap.size ≤ gb101)); clear HB; have HB := n0_; have BK101 := n1_; have GW101 := n2_; have GE101 := n3_; clear n0_ n1_ n2_ n3_; clear hb hbox hg) | ((with_reducible refine gate_dst (N := 3) rfl ?_); refine box_event ?hg (N := 3) ?hd (cs := #[.int .i64 a1_0, .int .i64 a1_1, .int .i64 a1_2]) (t := 64) ?hr ?_; (case hd => rfl); (case hg => rfl); (case hr => first | (go_simp; done) | (go_simp; rfl)); intro gb102 hg w22 hbox hb; have n0_ := Aside0.mk (blk_below (g := gb101) (o := .cells #[.int .i64 a0_0, .int .i64 a0_1, .int .i64 a0_2] 64 (0, 0)) (by (with_reducible repeat (first | refine blk_drewN ?_ _ | refine blk_drew ?_ | refine blk_alloc ?_ _)); exact BK101.out) hb); have n1_ := Aside0.mk (below_step (by repeat (first | (with_reducible first | exact HB.out | apply below_alloc | apply pw_below_drewN | apply below_drew1 | refine below_set ?_ GE101.out) | exact HB.out)) hb); have n2_ := Aside0.mk (hbox); have n3_ := Aside0.mk ((by rw [hg]; exact (below_size (by repeat (first | (with_reducible first | exact HB.out | apply below_alloc | apply pw_below_drewN | apply below_drew1 | refine below_set ?_ GE101.out) | exact HB.out))) : w.heap.size ≤ gb102)); have n4_ := Aside0.mk ((by rw [hg]; exact (below_size (by repeat (first | (with_reducible first | exact HB.out | apply below_alloc | apply pw_below_drewN | apply below_drew1 | refine below_set ?_ GE101.out) | exact HB.out))) : w.heap.size ≤ gb102)); have n5_ := Aside0.mk ((by rw [hg]; exact Nat.ne_of_lt (blk_lt (g := gb101) (o := .cells #[.int .i64 a0_0, .int .i64 a0_1, .int .i64 a0_2] 64 (0, 0)) (by (with_reducible repeat (first | refine blk_drewN ?_ _ | refine blk_drew ?_ | refine blk_alloc ?_ _)); exact BK101.out)) : gb101 ≠ gb102)); have n6_ := Aside0.mk ((by rw [hg]; exact Nat.ne_of_gt (blk_lt (g := gb101) (o := .cells #[.int .i64 a0_0, .int .i64 a0_1, .int .i64 a0_2] 64 (0, 0)) (by (with_reducible repeat (first | refine blk_drewN ?_ _ | refine blk_drew ?_ | refine blk_alloc ?_ _)); exact BK101.out)) : gb102 ≠ gb101)); clear BK101; clear HB; have BK101 := n0_; have HB := n1_; have BK102 := n2_; have GW102 := n3_; have GE102 := n4_; have NB101_102 := n5_; have NB102_101 := n6_; clear n0_ n1_ n2_ n3_ n4_ n5_ n6_; clear hb hbox hg; have hnb23 := NB101_102.out; have hnc23 := NB102_101.out; have hcz24_0 : w22.cell? ⟨gb101, 0, none⟩ = some (.int .i64 a0_0) := (blk_cell BK101.out 0).trans rfl; have hcz24_1 : w22.cell? ⟨gb101, 1, none⟩ = some (.int .i64 a0_1) := (blk_cell BK101.out 1).trans rfl; have hcz24_2 : w22.cell? ⟨gb101, 2, none⟩ = some (.int .i64 a0_2) := (blk_cell BK101.out 2).trans rfl; have hfz24_0 := blk_frozen BK101.out 0; have hfz24_1 := blk_frozen BK101.out 1; have hfz24_2 := blk_frozen BK101.out 2; have hcz25_0 : w22.cell? ⟨gb102, 0, none⟩ = some (.int .i64 a1_0) := (blk_cell BK102.out 0).trans rfl; have hcz25_1 : w22.cell? ⟨gb102, 1, none⟩ = some (.int .i64 a1_1) := (blk_cell BK102.out 1).trans rfl; have hcz25_2 : w22.cell? ⟨gb102, 2, none⟩ = some (.int .i64 a1_2) := (blk_cell BK102.out 2).trans rfl; have hfz25_0 := blk_frozen BK102.out 0; have hfz25_1 := blk_frozen BK102.out 1; have hfz25_2 := blk_frozen BK102.out 2))
    go_ret
    exact ⟨by first | rfl | (simp [errW_none, errW_some] <;> rfl) | (simp [*, errW_none, errW_some] <;> rfl), by repeat (first | (with_reducible first | exact HB.out | apply below_alloc | apply pw_below_drewN | apply below_drew1 | refine below_set ?_ GE101.out | refine below_set ?_ GE102.out) | exact HB.out)⟩

end Go.Proofs.Ytonifhkplniblaa.Print
