/- What the program and the reference compute, and that both agree. No condition. -/
import Derived.Test.YtonifhkplniblaaYFnExactRunServersPB
import Derived.Test.YtonifhkplniblaaYFnExactRunServersWalk
import Derived.Lib.Hide
import Derived.Deep.DeepMust
import Derived.Deep.QuietTactic
import Derived.Test.YtonifhkplniblaaYFnExactRunServersX0
import Derived.Test.YtonifhkplniblaaYFnExactRunServersX1
import Derived.Test.YtonifhkplniblaaYFnExactRunServersP3
import Derived.Test.YtonifhkplniblaaYFnExactRunServersP2
import Derived.Test.YtonifhkplniblaaYFnExactRunServersP0
import Derived.Test.YtonifhkplniblaaYFnExactRunServersP1
namespace Go.Proofs.Ytonifhkplniblaa.Print
open Go.RowKit Go.Proofs.YtonifhkplniblaaW.PrintWords Go.Proofs.YtonifhkplniblaaW.PrintLast Go.Proofs.YtonifhkplniblaaW.PrintMore
attribute [local go_sem] max2_int min2_int max_two min_two max_three min_three max_four min_four
set_option linter.unusedVariables false
set_option linter.unusedSimpArgs false
open Go.Proofs.Ytonifhkplniblaa.Walk
/-- laws.markIntS at a row of the run's own. -/
theorem markV_calls (B : Nat) (w00 : World) (v : Value) (xs : List Int) (a : Int) (V : World) (hN : xs.length ≤ 1000) (ha : 0 ≤ a) (ha2 : a ≤ 10000000) (hR : Kd.R (Kd.int .i64) 3 V B (fun _ => True) v xs) (hB : Below B w00 V) :
    Calls Try.prog 57 #[v, .int .i64 a] V fun e w' => e = .returned (.int .i64 (a + (xs.length : Int))) ∧ Kd.R (Kd.int .i64) 3 w' B (fun _ => True) v (mkL a xs.length) ∧ Below B w00 w' ∧ Kept V w' (fun k => v.ownBlock = some k) := by
  obtain ⟨A, c, e⟩ := Kd.R_slice hR
  rcases Nat.eq_zero_or_pos xs.length with hz | hpos
  · have hnil : xs = [] := List.eq_nil_of_length_eq_zero hz
    subst hnil
    rw [e]
    refine (markNil_calls A c a V).mono ?_
    rintro e' w' ⟨rfl, rfl⟩
    rw [e] at hR
    exact ⟨by simp, hR, hB, Kept.refl _ _⟩
  · obtain ⟨g, cap, e3, _⟩ := Kd.R_form hR hpos
    subst e3
    refine (markRow_calls B w00 g xs.length cap cap a xs V (by omega) ha ha2 ⟨hR, hB⟩).mono ?_
    rintro e' w' ⟨rfl, h1, h2⟩
    exact ⟨rfl, h1.1, h1.2, h2.mono (fun k hk => by rw [hk]; rfl)⟩
theorem R_keptV {V w' : World} {B : Nat} {u v : Value} {ys : List Int} (h : Kd.R (Kd.int .i64) 3 V B (fun _ => True) u ys) (hk : Kept V w' (fun k => v.ownBlock = some k)) (hap : ∀ k, u.ownBlock = some k → v.ownBlock ≠ some k) : Kd.R (Kd.int .i64) 3 w' B (fun _ => True) u ys := row_stepG h (fun k e hlt => hk.2 k hlt (fun e2 => hap k e e2))
theorem markNilSS_calls (A : Option Addr) (c : Nat) (a : Int) (V : World) :
    Calls Try.prog 92 #[.slice A 0 c, .int .i64 a] V fun e w' => e = .returned (.int .i64 a) ∧ w' = V := by
  go_enter Try.func92, Try.ntmps92
  go_wp2_with fail
  go_loopw [1, 5] (fun v1 v5 w' => v5 = .int .i64 0 ∧ v1 = .int .i64 a ∧ w' = V) (fun _ _ _ => 0)
  case atStart => exact ⟨rfl, rfl, rfl⟩
  case round =>
    obtain ⟨rfl, rfl, rfl⟩ := hrel
    go_wp2_with fail
    go_ret
    exact ⟨rfl, rfl⟩
/-- laws.markIntSS at the rows of a run, or none. -/
theorem markO_calls (B : Nat) (w00 : World) (v : Value) (us : List Value) (rows : List (List Int)) (a : Int) (V : World) (hn : rows.length ≤ 1000) (hr : ∀ i, (rows.getD i []).length ≤ 1000) (ha : 0 ≤ a) (ha2 : a ≤ 1000000) (hG : GrO V B v us rows) (hB : Below B w00 V) :
    Calls Try.prog 92 #[v, .int .i64 a] V fun e w' => e = .returned (.int .i64 (mkN a rows rows.length)) ∧ GrO w' B v us (mkR a rows rows.length) ∧ Below B w00 w' ∧ Kept V w' (fun k => ∃ i, i < us.length ∧ (us.getD i nilV).ownBlock = some k) := by
  rcases hG with ⟨gr, rfl, hb, h⟩ | ⟨rfl, rfl, rfl⟩
  · refine (markGr_calls B w00 gr rows.length us rows a V hn hr ha ha2 h hB).mono ?_
    rintro e w' ⟨rfl, h1, h2, h3⟩
    exact ⟨rfl, .inl ⟨gr, by rw [mkR_len], hb, h1⟩, h2, h3⟩
  · refine (markNilSS_calls none 0 a V).mono ?_
    rintro e w' ⟨rfl, rfl⟩
    exact ⟨rfl, .inr ⟨rfl, rfl, rfl⟩, hB, Kept.refl _ _⟩
/-- A run's result once it is marked. -/
def mkRes (a : Int) (R : ResT) : ResT := (mkL a R.1.length, mkL (a + (R.1.length : Int)) R.2.1.length, mkL (a + (R.1.length : Int) + (R.2.1.length : Int)) R.2.2.1.length, mkR (a + (R.1.length : Int) + (R.2.1.length : Int) + (R.2.2.1.length : Int)) R.2.2.2 R.2.2.2.length)
def mkResN (a : Int) (R : ResT) : Int := mkN (a + (R.1.length : Int) + (R.2.1.length : Int) + (R.2.2.1.length : Int)) R.2.2.2 R.2.2.2.length
/-- The blocks that the marks of a result write. -/
def ResB (v0 v1 v2 : Value) (us : List Value) (k : Nat) : Prop := ((v0.ownBlock = some k ∨ v1.ownBlock = some k) ∨ v2.ownBlock = some k) ∨ ∃ i, i < us.length ∧ (us.getD i nilV).ownBlock = some k
set_option maxHeartbeats 2000000 in
set_option maxRecDepth 100000 in
theorem markSched_calls (B : Nat) (w00 : World) (v0 v1 : Value) (xs ys : List Int) (a : Int) (V : World) (hx : xs.length ≤ 1000) (hy : ys.length ≤ 1000) (ha : 0 ≤ a) (ha2 : a ≤ 1000) (h0 : Kd.R (Kd.int .i64) 3 V B (fun _ => True) v0 xs) (h1 : Kd.R (Kd.int .i64) 3 V B (fun _ => True) v1 ys) (hap : ∀ k, v0.ownBlock = some k → v1.ownBlock ≠ some k) (hB : Below B w00 V) (hBV : B ≤ V.heap.size) :
    Calls Try.prog 49 #[.agg #[v0, v1], .int .i64 a] V fun e w' => e = .returned (.int .i64 (a + (xs.length : Int) + (ys.length : Int))) ∧ Kd.R (Kd.int .i64) 3 w' B (fun _ => True) v0 (mkL a xs.length) ∧ Kd.R (Kd.int .i64) 3 w' B (fun _ => True) v1 (mkL (a + (xs.length : Int)) ys.length) ∧ Below B w00 w' ∧ Kept V w' (fun k => v0.ownBlock = some k ∨ v1.ownBlock = some k) := by
  have hu := Try.underlying32
  obtain ⟨A0, c0, e0⟩ := Kd.R_slice h0
  obtain ⟨A1, c1, e1⟩ := Kd.R_slice h1
  have hlt0 := Kd.R_lt h0
  have hlt1 := Kd.R_lt h1
  subst e0 e1
  obtain ⟨W, hW⟩ : ∃ W, W = V.alloc (.cells #[.slice A0 xs.length c0, .slice A1 ys.length c1] 32) := ⟨_, rfl⟩
  have hVW : Below V.heap.size V W := by rw [hW]; exact below_alloc (Below.refl _ _) _
  have hbx : W.heap[V.heap.size]? = some (.cells #[.slice A0 xs.length c0, .slice A1 ys.length c1] 32 (0, 0)) := by rw [hW]; exact blk_new _ _
  have hBW : Below B w00 W := below_then hB hBV hVW
  have HM0 := Lib.hid (markV_calls B w00 _ xs a W hx ha (by omega) (Kd.R_below h0 hVW) hBW)
  have HM1 := Lib.hid (fun (w2 : World) (hb2 : Below B w00 w2) (hk2 : Kept W w2 (fun k => (Value.slice A0 xs.length c0).ownBlock = some k)) => markV_calls B w00 _ ys (a + (xs.length : Int)) w2 hy (by omega) (by omega) (R_keptV (Kd.R_below h1 hVW) hk2 (fun k e e2 => hap k e2 e)) hb2)
  have HX := Lib.hid hbx
  have HWQ := Lib.hid hW
  have HVW := Lib.hid hVW
  have HLT := Lib.hid (And.intro hlt0 hlt1)
  have HAP := Lib.hid hap
  clear h0 h1 hap hB hbx hW hVW hBW hlt0 hlt1
  go_enter Try.func49, Try.ntmps49
  go_upto_region 1 with (fail)
  rw [← HWQ.out]
  have hx0 := (blk_cell HX.out 0).trans rfl
  go_upto_region 2 with (go_at_call 57; refine HM0.out.mono ?_; rintro e w2 ⟨rfl, f1, f2, f3⟩; have H1 := Aside0.mk f1; have H2 := Aside0.mk f2; have H3 := Aside0.mk f3; clear f1 f2 f3)
  have hx1 : w2.cell? ⟨V.heap.size, 1, none⟩ = some (.slice A1 ys.length c1) := (blk_cell (blk_kept HX.out H3.out (fun h => by have := HLT.out.1 _ h; omega)) 1).trans rfl
  have HC2 := Lib.hid (HM1.out w2 H2.out H3.out)
  clear hx0
  go_wp2_with (go_at_call 57; refine HC2.out.mono ?_; rintro e w3 ⟨rfl, f1, f2, f3⟩; have H4 := Aside0.mk f1; have H5 := Aside0.mk f2; have H6 := Aside0.mk f3; clear f1 f2 f3)
  go_ret
  exact ⟨rfl, R_keptV H1.out H6.out (fun k e => HAP.out k e), H4.out, H5.out, ((Kept.of_below HVW.out _).then_ H3.out (fun k h => .inl (.inl h))).then_ H6.out (fun k h => .inl (.inr h))⟩
theorem R_keptS {V w' : World} {B : Nat} {u : Value} {ys : List Int} {S : Nat → Prop} (h : Kd.R (Kd.int .i64) 3 V B (fun _ => True) u ys) (hk : Kept V w' S) (hap : ∀ k, u.ownBlock = some k → ¬ S k) : Kd.R (Kd.int .i64) 3 w' B (fun _ => True) u ys := row_stepG h (fun k e hlt => hk.2 k hlt (hap k e))
set_option maxHeartbeats 4000000 in
set_option maxRecDepth 100000 in
/-- laws.markServerRun at a run's result. -/
theorem markRunS_calls (B : Nat) (w00 : World) (v0 v1 v2 v3 : Value) (us : List Value) (R : ResT) (a : Int) (V : World) (hl0 : R.1.length ≤ 1000) (hl1 : R.2.1.length ≤ 1000) (hl2 : R.2.2.1.length ≤ 1000) (hn : R.2.2.2.length ≤ 1000) (hr : ∀ i, (R.2.2.2.getD i []).length ≤ 1000) (ha : 0 ≤ a) (ha2 : a ≤ 1000)
    (hR : ResM V B v0 v1 v2 v3 us R) (hB : Below B w00 V) (hBV : B ≤ V.heap.size) :
    Calls Try.prog 32 #[.agg #[v0, v1, v2, v3], .int .i64 a] V fun e w' => e = .returned (.int .i64 (mkResN a R)) ∧ ResM w' B v0 v1 v2 v3 us (mkRes a R) ∧ Below B w00 w' ∧ Kept V w' (ResB v0 v1 v2 us) := by
  have hu := Try.underlying35
  have huC := Try.underlying32
  obtain ⟨xs, ys, zs, rows⟩ := R
  simp only at hl0 hl1 hl2 hn hr
  obtain ⟨h0, h1, h2, hrw, a0, a1, aS⟩ := hR
  simp only at h0 h1 h2 hrw
  obtain ⟨A0, c0, e0⟩ := Kd.R_slice h0
  obtain ⟨A1, c1, e1⟩ := Kd.R_slice h1
  obtain ⟨A2, c2, e2⟩ := Kd.R_slice h2
  obtain ⟨A3, e3, _⟩ := hrw.reads hn
  have hlt0 := Kd.R_lt h0
  have hlt1 := Kd.R_lt h1
  have hlt2 := Kd.R_lt h2
  have hltS : ∀ i k, i < us.length → (us.getD i nilV).ownBlock = some k → k < V.heap.size := fun i k hi e => by
    rcases hrw with ⟨gr, _, _, h⟩ | ⟨_, _, h⟩
    · exact Kd.RR_lt (h.row i (by rw [← h.len]; exact hi)) k e
    · rw [h] at hi; cases hi
  subst e0 e1 e2 e3
  obtain ⟨W, hW⟩ : ∃ W, W = V.alloc (.cells #[.slice A0 xs.length c0, .slice A1 ys.length c1, .slice A2 zs.length c2, .slice A3 rows.length rows.length] 35) := ⟨_, rfl⟩
  have hVW : Below V.heap.size V W := by rw [hW]; exact below_alloc (Below.refl _ _) _
  have hbx : W.heap[V.heap.size]? = some (.cells #[.slice A0 xs.length c0, .slice A1 ys.length c1, .slice A2 zs.length c2, .slice A3 rows.length rows.length] 35 (0, 0)) := by rw [hW]; exact blk_new _ _
  have hBW : Below B w00 W := below_then hB hBV hVW
  have hmb := mkN_bound (a := a + (xs.length : Int) + (ys.length : Int) + (zs.length : Int)) hr (by omega) rows.length
  have HM0 := Lib.hid (markSched_calls B w00 _ _ xs ys a W hl0 hl1 ha ha2 (Kd.R_below h0 hVW) (Kd.R_below h1 hVW) (fun k e => (a0 k e).1) hBW (Nat.le_trans hBV hVW.size))
  have HM1 := Lib.hid (fun (w2 : World) (hb2 : Below B w00 w2) (hk2 : Kept W w2 (fun k => (Value.slice A0 xs.length c0).ownBlock = some k ∨ (Value.slice A1 ys.length c1).ownBlock = some k)) => markV_calls B w00 _ zs (a + (xs.length : Int) + (ys.length : Int)) w2 hl2 (by omega) (by omega) (R_keptS (Kd.R_below h2 hVW) hk2 (fun k e hS => by
    rcases hS with h | h
    · exact (a0 k h).2 e
    · exact a1 k h e)) hb2)
  have HM2 := Lib.hid (fun (w3 : World) (hb3 : Below B w00 w3) (hk3 : Kept W w3 (fun k => ((Value.slice A0 xs.length c0).ownBlock = some k ∨ (Value.slice A1 ys.length c1).ownBlock = some k) ∨ (Value.slice A2 zs.length c2).ownBlock = some k)) => (show Calls Try.prog 92 #[.slice A3 rows.length rows.length, .int .i64 (a + (xs.length : Int) + (ys.length : Int) + (zs.length : Int))] w3 fun e w' => e = .returned (.int .i64 (mkN (a + (xs.length : Int) + (ys.length : Int) + (zs.length : Int)) rows rows.length)) ∧ GrO w' B (.slice A3 rows.length rows.length) us (mkR (a + (xs.length : Int) + (ys.length : Int) + (zs.length : Int)) rows rows.length) ∧ Below B w00 w' ∧ Kept w3 w' (fun k => ∃ i, i < us.length ∧ (us.getD i nilV).ownBlock = some k) from by
    have hg : GrO w3 B (.slice A3 rows.length rows.length) us rows := (hrw.below hVW).step (fun i k hi e hlt => hk3.2 k hlt (fun hS => by
      rcases hS with (h | h) | h
      · exact (aS i k hi e).1 h
      · exact (aS i k hi e).2.1 h
      · exact (aS i k hi e).2.2 h)) (fun k cs hc => (hk3.2 k (blk_lt hc) (fun hS => by
      rcases hS with (h | h) | h
      · exact Kd.R_ne (Kd.R_below h0 hVW) hc (by decide) h.symm
      · exact Kd.R_ne (Kd.R_below h1 hVW) hc (by decide) h.symm
      · exact Kd.R_ne (Kd.R_below h2 hVW) hc (by decide) h.symm)).trans hc)
    exact markO_calls B w00 _ us rows _ w3 hn hr (by omega) (by omega) hg hb3))
  have HX := Lib.hid hbx
  have HWQ := Lib.hid hW
  have HVW := Lib.hid hVW
  have HLT := Lib.hid (And.intro hlt0 (And.intro hlt1 (And.intro hlt2 hltS)))
  have HA := Lib.hid (And.intro a0 (And.intro a1 aS))
  have hN : mkResN a (xs, ys, zs, rows) = mkN (a + (xs.length : Int) + (ys.length : Int) + (zs.length : Int)) rows rows.length := rfl
  rw [hN]
  obtain ⟨q, hq⟩ : ∃ q, q = mkN (a + (xs.length : Int) + (ys.length : Int) + (zs.length : Int)) rows rows.length := ⟨_, rfl⟩
  rw [← hq] at HM2 ⊢
  clear h0 h1 h2 hrw a0 a1 aS hB hbx hW hVW hBW hlt0 hlt1 hlt2 hltS hmb hN hq hr
  go_enter Try.func32, Try.ntmps32
  go_upto_region 1 with (fail)
  rw [← HWQ.out]
  have hx0 := (blk_cell HX.out 0).trans rfl
  have hx1 := (blk_cell HX.out 1).trans rfl
  go_upto_region 2 with (go_at_call 49; refine HM0.out.mono ?_; rintro e w2 ⟨rfl, f1, f2, f3, f4⟩; have H1 := Aside0.mk f1; have H2 := Aside0.mk f2; have H3 := Aside0.mk f3; have H4 := Aside0.mk f4; clear f1 f2 f3 f4)
  have hb2 := blk_kept HX.out H4.out (fun h => by
    rcases h with h | h
    · have := HLT.out.1 _ h; omega
    · have := HLT.out.2.1 _ h; omega)
  have HBX2 := Lib.hid hb2
  have hx2 : w2.cell? ⟨V.heap.size, 2, none⟩ = some (.slice A2 zs.length c2) := (blk_cell hb2 2).trans rfl
  have HC2 := Lib.hid (HM1.out w2 H3.out H4.out)
  clear hx0 hx1 hb2
  go_upto_region 3 with (go_at_call 57; refine HC2.out.mono ?_; rintro e w3 ⟨rfl, f1, f2, f3⟩; have H5 := Aside0.mk f1; have H6 := Aside0.mk f2; have H7 := Aside0.mk f3; clear f1 f2 f3)
  have hx3 : w3.cell? ⟨V.heap.size, 3, none⟩ = some (.slice A3 rows.length rows.length) := (blk_cell (blk_kept HBX2.out H7.out (fun h => by have := HLT.out.2.2.1 _ h; omega)) 3).trans rfl
  have hk3 : Kept W w3 (fun k => ((Value.slice A0 xs.length c0).ownBlock = some k ∨ (Value.slice A1 ys.length c1).ownBlock = some k) ∨ (Value.slice A2 zs.length c2).ownBlock = some k) := (H4.out.mono (fun k h => .inl h)).then_ H7.out (fun k h => .inl (.inr h))
  have HK3 := Lib.hid hk3
  have HC3 := Lib.hid (HM2.out w3 H6.out hk3)
  clear hx2 hk3
  go_wp2_with (go_at_call 92; refine HC3.out.mono ?_; rintro e w4 ⟨rfl, f1, f2, f3⟩; have H8 := Aside0.mk f1; have H9 := Aside0.mk f2; have H10 := Aside0.mk f3; clear f1 f2 f3)
  go_ret
  have ha0 := HA.out.1
  have ha1 := HA.out.2.1
  have haS := HA.out.2.2
  refine ⟨rfl, ⟨?_, ?_, ?_, H8.out, ha0, ha1, haS⟩, H9.out, ?_⟩
  · exact R_keptS (R_keptV H1.out H7.out (fun k e => (ha0 k e).2)) H10.out (fun k e ⟨i, hi, h⟩ => (haS i k hi h).1 e)
  · exact R_keptS (R_keptV H2.out H7.out (fun k e => ha1 k e)) H10.out (fun k e ⟨i, hi, h⟩ => (haS i k hi h).2.1 e)
  · exact R_keptS H5.out H10.out (fun k e ⟨i, hi, h⟩ => (haS i k hi h).2.2 e)
  · exact ((Kept.of_below HVW.out _).then_ HK3.out (fun k h => .inl (.inl h))).then_ H10.out (fun k h => .inl (.inr h))


/-- The number behind the marks of all rows of arrivals. -/
def markRowsA (k : Nat) : List (List (S164)) → Int → Option Int
  | [], a => some a
  | x :: xs, a => (laws_markArrivalS.f k x a).bind (fun t => markRowsA k xs t.1)
/-- What the marks of the rows below i may have written. -/
def SSWA (P : Nat → Prop) (f : Nat → Nat) (v : Value) (i : Nat) (b : Nat) : Prop := (P b ∧ some b ≠ v.ownBlock) ∧ f b < i
set_option maxHeartbeats 2000000 in
set_option maxRecDepth 100000 in
theorem markArrSS_tag (k : Nat) (P : Nat → Prop) (f : Nat → Nat) (A : Option Addr) (c : Nat) (rows : List (List (S164))) (a r : Int) (w0 W : World) (hB : Below w0.heap.size w0 W) (hS : (Kd.tag f (Kd.slice 164 k164)).R 102 W w0.heap.size P (.slice A rows.length c) rows.zipIdx) (h : markRowsA k rows a = some r) :
    Calls Try.prog 31 #[.slice A rows.length c, .int .i64 a] W fun e w' => e = .returned (.int .i64 r) ∧ Below w0.heap.size w0 w' ∧ Kept W w' P := by
  have HS := Lib.hid hS
  have HH := Lib.hid h
  have HB := Lib.hid hB
  have hmx : rows.length ≤ 9223372036854775807 := by
    have := (Kd.R_reads' hS).2.2.2.1
    rw [List.length_zipIdx] at this
    exact this
  have hu60 := Try.underlying43
  clear hS h hB
  go_enter Try.func31, Try.ntmps31
  go_wp2_with fail
  go_loopw [1, 5] (fun v1 v5 w' => ∃ (i : Nat) (b : Int), v5 = .int .i64 (i : Int) ∧ i ≤ rows.length ∧ v1 = .int .i64 b ∧ Aside0 (markRowsA k (rows.drop i) b = some r) ∧ Aside0 (Below w0.heap.size w0 w') ∧ Aside0 (Kept W w' (SSWA P f (.slice A rows.length c) i))) (fun v1 v5 _ => rows.length - (intOf v5).toNat)
  case atStart => exact ⟨0, a, rfl, Nat.zero_le _, rfl, ⟨HH.out⟩, ⟨HB.out⟩, ⟨Kept.refl _ _⟩⟩
  case round =>
    obtain ⟨i, b, rfl, hi, rfl, HM, HBr, HK⟩ := hrel
    by_cases hil : i < rows.length
    · have b1 : decide ((i : Int) < (rows.length : Int)) = true := decide_eq_true (by omega)
      obtain ⟨g, cap, ev, hbg, hgl, _⟩ := Kd.R_form HS.out (by rw [List.length_zipIdx]; omega)
      injection ev with ev1 ev2 ev3
      subst ev1 ev3
      clear ev2
      obtain ⟨cs, hcl, hM, hcc⟩ := Kd.R_getA HS.out ([], 0) (i : Int) (by omega) (by omega)
      have hzi : (rows.zipIdx.getD (i : Int).toNat ([], 0)) = (rows.getD i [], i) := by
        rw [Int.toNat_natCast, List.getD_eq_getElem?_getD, List.getElem?_zipIdx, List.getD_eq_getElem?_getD, List.getElem?_eq_getElem hil]
        simp
      rw [hzi] at hM
      obtain ⟨v, hcs, hR⟩ := hM
      simp only at hR
      have hm := HM.out
      rw [List.drop_eq_getElem_cons hil] at hm
      unfold markRowsA at hm
      have hge : rows.getD i [] = rows[i] := by rw [List.getD_eq_getElem?_getD, List.getElem?_eq_getElem hil]; rfl
      rw [hge] at hR
      obtain ⟨⟨q1, q2⟩, hq, hm2⟩ := Option.bind_eq_some_iff.1 hm
      have hcell0 := hcc 0 v (by rw [hcs]; rfl)
      have hcell1 : W.cell? ⟨g, i, none⟩ = some v := by
        have e : ((⟨g, 0, none⟩ : Addr).add ((i : Int).toNat * (Kd.tag f (Kd.slice 164 k164)).sz + 0)) = ⟨g, i, none⟩ := by
          rw [add_plain]
          show (⟨g, (i : Int).toNat * 1 + 0, none⟩ : Addr) = _
          simp
        rw [e] at hcell0
        exact hcell0
      have hcell : wr.cell? ⟨g, i, none⟩ = some v := cell_kept hcell1 HK.out (fun hs => hs.1.2 rfl)
      have hR2 : Kd.R k164 164 wr w0.heap.size (fun k_ => (P k_ ∧ some k_ ≠ (Value.slice (some ⟨g, 0, none⟩) rows.length c).ownBlock) ∧ f k_ = i) v rows[i] := Kd.R_kept hR HK.out (fun k_ hk hs => by have := hs.2; have := hk.2; omega)
      have hcall := laws_markArrivalS.calls k _ v rows[i] b q1 q2 w0 wr HBr.out hR2 hq
      have HM2 := Lib.hid hm2
      have p0 : 0 ≤ (i : Int) := by omega
      have p1 : (i : Int) < (rows.length : Int) := by omega
      obtain ⟨row, hrow⟩ : ∃ row, row = rows[i] := ⟨_, rfl⟩
      rw [← hrow] at hR2
      obtain ⟨Av, cv, ev⟩ := Kd.R_slice hR2
      subst ev
      have HKN := Lib.hid (fun (w2 : World) (hk2 : Kept wr w2 (fun k_ => (P k_ ∧ some k_ ≠ (Value.slice (some ⟨g, 0, none⟩) rows.length c).ownBlock) ∧ f k_ = i)) => (show Kept W w2 (SSWA P f (.slice (some ⟨g, 0, none⟩) rows.length c) (i + 1)) from
        (HK.out.mono (S' := SSWA P f (.slice (some ⟨g, 0, none⟩) rows.length c) (i + 1)) (fun k_ hk => ⟨hk.1, by have := hk.2; omega⟩)).then_ hk2 (fun k_ hk => .inl ⟨hk.1, by have := hk.2; omega⟩)))
      have HC := Lib.hid hcall
      clear hrow hcall hm hm2 hq hge hcell0 hcell1 hR hR2 hcs hcc hcl hzi HM
      go_wp2_with (go_at_call 91; refine HC.out.mono ?_; rintro e w2 ⟨rfl, _, hb2, hk2⟩; have HB2 := Lib.hid hb2; have HK2 := Lib.hid (HKN.out _ hk2); clear hb2 hk2)
      go_roundw
      case rel => exact ⟨i + 1, q1, by go_num, by omega, rfl, ⟨HM2.out⟩, ⟨HB2.out⟩, ⟨HK2.out⟩⟩
      case measure => simp [intOf]; omega
    · have b1 : decide ((i : Int) < (rows.length : Int)) = false := decide_eq_false (by omega)
      obtain rfl : i = rows.length := by omega
      have hm := HM.out
      rw [List.drop_length] at hm
      unfold markRowsA at hm
      obtain rfl := Option.some.inj hm
      clear hm HM
      go_wp2_with fail
      go_ret
      exact ⟨rfl, HBr.out, HK.out.mono (fun k_ hk => hk.1.1)⟩
/-- laws.markArrivalSS over rows no two of which share a block. -/
theorem markArrSS_calls (k : Nat) (P : Nat → Prop) (A : Option Addr) (c : Nat) (rows : List (List (S164))) (a r : Int) (w0 W : World) (hB : Below w0.heap.size w0 W) (hS : Kd.S (Kd.slice 164 k164) 102 W w0.heap.size P (.slice A rows.length c) rows) (h : markRowsA k rows a = some r) :
    Calls Try.prog 31 #[.slice A rows.length c, .int .i64 a] W fun e w' => e = .returned (.int .i64 r) ∧ Below w0.heap.size w0 w' ∧ Kept W w' P := by
  obtain ⟨f, hf⟩ := hS
  exact markArrSS_tag k P f A c rows a r w0 W hB hf h

end Go.Proofs.Ytonifhkplniblaa.Print

namespace Go.Proofs.Ytonifhkplniblaa.Print
open Go.RowKit Go.Proofs.YtonifhkplniblaaW.PrintWords Go.Proofs.YtonifhkplniblaaW.PrintMore Go.Proofs.Ytonifhkplniblaa.Evs Go.Proofs.Ytonifhkplniblaa.Opens Go.Proofs.Ytonifhkplniblaa.Walk
set_option linter.unusedSimpArgs false
set_option linter.unusedVariables false
theorem rd_rowsV (l : List (List Int)) (j : Nat) : rd_L15 l (j : Int) = l.getD j [] := rfl
theorem rd_lstV (o : List Int) (j : Nat) : rd o (j : Int) = o.getD j 0 := rfl
theorem heldLS_ev (a : Int) (n : Nat) (h0 : 0 ≤ a) (h1 : a ≤ 100000000) (hn : n ≤ 1048576) : Tl (fun k => laws_heldIntS.f k (mkL a n) a) (a + (n : Int)) := by
  unfold laws_heldIntS.f
  have hl := mkL_len a n
  have key := down (Q := fun j => Tl (fun k => laws_heldIntS.l0 k (mkL a n) (a + (j : Int)) (j : Int)) (a + (n : Int))) n ?_ ?_
  · simpa using key
  · refine Tl.step ?_
    simp only [laws_heldIntS.l0]
    exact Tl.iteF (by omega) (Tl.ret _)
  · intro j hj hh
    have e : (mkL a n).getD j 0 = a + (j : Int) := by
      unfold mkL
      rw [List.getD_eq_getElem?_getD, List.getElem?_map, List.getElem?_range hj]
      rfl
    refine Tl.step ?_
    simp only [laws_heldIntS.l0]
    rw [wrap_succ (j := j) (n := n) hj (by omega), wrap_id (n := a + (j : Int) + 1) (by omega) (by omega), rd_lstV, e]
    refine Tl.iteT (by omega) (Tl.iteT (by omega) (Tl.iteT rfl ?_))
    rw [show a + (j : Int) + 1 = a + ((j + 1 : Nat) : Int) by omega]
    exact hh
theorem mkR_doneS (a : Int) (rows : List (List Int)) : ∀ i j, j < i → i ≤ rows.length → (mkR a rows i).getD j [] = mkL (mkN a rows j) (rows.getD j []).length
  | 0, _, h, _ => by omega
  | i + 1, j, h, hi => by
    unfold mkR
    rw [getD_setR]
    by_cases e : i = j
    · subst e; rw [if_pos ⟨rfl, by rw [mkR_len]; omega⟩]
    · rw [if_neg (by omega), mkR_doneS a rows i j (by omega) (by omega)]
theorem heldRowsS_ev (a : Int) (rows : List (List Int)) (h0 : 0 ≤ a) (h1 : a ≤ 1000000) (hn : rows.length ≤ 1000) (hw : ∀ i, (rows.getD i []).length ≤ 1000) : Tl (fun k => laws_heldIntSS.f k (mkR a rows rows.length) a) (mkN a rows rows.length) := by
  unfold laws_heldIntSS.f
  have hl := mkR_len a rows rows.length
  have key := down (Q := fun j => Tl (fun k => laws_heldIntSS.l0 k (mkR a rows rows.length) (mkN a rows j) (j : Int)) (mkN a rows rows.length)) rows.length ?_ ?_
  · exact key
  · refine Tl.step ?_
    simp only [laws_heldIntSS.l0]
    exact Tl.iteF (by omega) (Tl.ret _)
  · intro j hj hh
    have hb := mkN_bound (a := a) hw h0 j
    have hwj := hw j
    have e2 : mkN a rows (j + 1) = mkN a rows j + ((rows.getD j []).length : Int) := rfl
    rw [e2] at hh
    have hhl := heldLS_ev (mkN a rows j) (rows.getD j []).length hb.1 (by omega) (by omega)
    refine Tl.step ?_
    simp only [laws_heldIntSS.l0]
    rw [wrap_succ (j := j) (n := rows.length) hj (by omega), rd_rowsV, mkR_doneS a rows rows.length j hj (Nat.le_refl _)]
    exact Tl.iteT (by omega) (Tl.iteT (by omega) (Tl.bind hhl (Tl.iteF (by omega) hh)))
/-- The look at a marked result tells the number behind its marks. -/
theorem heldRunS_ev (a : Int) (R : ResT) (h0 : 0 ≤ a) (h1 : a ≤ 1000) (hl0 : R.1.length ≤ 1000) (hl1 : R.2.1.length ≤ 1000) (hl2 : R.2.2.1.length ≤ 1000) (hn : R.2.2.2.length ≤ 1000) (hw : ∀ i, (R.2.2.2.getD i []).length ≤ 1000) :
    Tl (fun k => laws_heldServerRun.f k (mkRes a R).1 (mkRes a R).2.1 (mkRes a R).2.2.1 (mkRes a R).2.2.2 a) (mkResN a R) := by
  unfold laws_heldServerRun.f laws_heldSchedule.f mkRes mkResN
  have hb := mkN_bound (a := a + (R.1.length : Int) + (R.2.1.length : Int) + (R.2.2.1.length : Int)) hw (by omega) R.2.2.2.length
  exact Tl.bind (Tl.bind (heldLS_ev a _ h0 (by omega) (by omega)) (Tl.iteF (by omega) (Tl.bind (heldLS_ev _ _ (by omega) (by omega) (by omega)) (Tl.iteF (by omega) (Tl.ret _))))) (Tl.iteF (by omega) (Tl.bind (heldLS_ev _ _ (by omega) (by omega) (by omega)) (Tl.iteF (by omega) (Tl.bind (heldRowsS_ev _ _ (by omega) (by omega) hn hw) (Tl.iteF (by omega) (Tl.ret _))))))
theorem eqRowsV_ev (l : List (List Int)) (hl : l.length ≤ 1048576) (hw : ∀ i, (l.getD i []).length ≤ 1048576) : Tl (fun k => laws_eqIntSS.f k l l) true := by
  unfold laws_eqIntSS.f
  refine Tl.iteT rfl ?_
  refine down (Q := fun j => Tl (fun k => laws_eqIntSS.l0 k l l (j : Int)) true) l.length ?_ ?_
  · refine Tl.step ?_
    simp only [laws_eqIntSS.l0]
    exact Tl.iteF (by omega) (Tl.ret _)
  · intro j hj hh
    refine Tl.step ?_
    simp only [laws_eqIntSS.l0, rd_rowsV]
    rw [wrap_succ hj (by omega)]
    exact Tl.iteT (by omega) (Tl.iteT (by omega) (Tl.iteT (by omega) (Tl.bind (eqIntS_ev (l.getD j []) (hw j)) (Tl.iteT rfl hh))))
theorem eqRunS_ev (R : ResT) (hl0 : R.1.length ≤ 1048576) (hl1 : R.2.1.length ≤ 1048576) (hl2 : R.2.2.1.length ≤ 1048576) (hn : R.2.2.2.length ≤ 1048576) (hw : ∀ i, (R.2.2.2.getD i []).length ≤ 1048576) : Tl (fun k => laws_eqServerRun.f k R.1 R.2.1 R.2.2.1 R.2.2.2 R.1 R.2.1 R.2.2.1 R.2.2.2) true := by
  unfold laws_eqServerRun.f laws_eqSchedule.f
  exact Tl.bind (Tl.bind (eqIntS_ev _ hl0) (Tl.iteT rfl (Tl.bind (eqIntS_ev _ hl1) (Tl.iteT rfl (Tl.ret _))))) (Tl.iteT rfl (Tl.bind (eqIntS_ev _ hl2) (Tl.iteT rfl (Tl.bind (eqRowsV_ev _ hn hw) (Tl.iteT rfl (Tl.ret _))))))
/- The arrivals' rows. -/
theorem rd_arrL (l : List (List LArrival)) (j : Nat) : rd_L6 l (j : Int) = l.getD j [] := rfl
theorem rd_arrI (l : List (List Arrival)) (j : Nat) : rd_L14 l (j : Int) = l.getD j [] := rfl
/-- How many the rows hold. -/
def totA {α : Type} : List (List α) → Int
  | [] => 0
  | x :: xs => x.length + totA xs
theorem totA_pos {α : Type} : ∀ l : List (List α), 0 ≤ totA l
  | [] => Int.le_refl _
  | x :: xs => by have := totA_pos xs; unfold totA; omega
theorem totA_drop {α : Type} (l : List (List α)) (j : Nat) (h : j < l.length) : totA (l.drop j) = ((l.getD j []).length : Int) + totA (l.drop (j + 1)) := by
  rw [List.drop_eq_getElem_cons h, List.getD_eq_getElem?_getD, List.getElem?_eq_getElem h]
  rfl
theorem szArrSS_at (l : List (List LArrival)) (hl : l.length ≤ 1048576) (hw : ∀ i, (l.getD i []).length ≤ 9223372036854775807) : ∀ (d j : Nat) (b : Int), j + d = l.length → 0 ≤ b → b ≤ 1048576 → ∃ v, Tl (fun k => laws_szArrivalSS.l0 k l b (j : Int)) v ∧ (v < 0 ∨ (0 ≤ v ∧ totA (l.drop j) ≤ b ∧ ∀ i, j ≤ i → (l.getD i []).length ≤ 1048576))
  | 0, j, b, e, h0, h1 => by
    refine ⟨b, Tl.step ?_, .inr ⟨h0, ?_, fun i hi => ?_⟩⟩
    · simp only [laws_szArrivalSS.l0]
      exact Tl.iteF (by omega) (Tl.ret _)
    · rw [List.drop_of_length_le (by omega)]
      exact h0
    · rw [List.getD_eq_getElem?_getD, List.getElem?_eq_none (by omega)]
      simp
  | d + 1, j, b, e, h0, h1 => by
    have hz := szArrivalS_f (l.getD j []) b h0 h1 (hw j)
    by_cases hlt : b < (l.getD j []).length
    · refine ⟨-1, Tl.step ?_, .inl (by omega)⟩
      rw [if_pos hlt] at hz
      simp only [laws_szArrivalSS.l0, rd_arrL, hz, Option.bind_some]
      exact Tl.iteT (by omega) (Tl.iteT (by omega) (Tl.iteT (by omega) (Tl.ret _)))
    · rw [if_neg hlt] at hz
      obtain ⟨v, hv, hr⟩ := szArrSS_at l hl hw d (j + 1) (b - (l.getD j []).length) (by omega) (by omega) (by omega)
      refine ⟨v, Tl.step ?_, ?_⟩
      · simp only [laws_szArrivalSS.l0, rd_arrL, hz, Option.bind_some]
        rw [wrap_succ (j := j) (n := l.length) (by omega) (by omega)]
        exact Tl.iteT (by omega) (Tl.iteT (by omega) (Tl.iteF (by omega) hv))
      · rcases hr with h | ⟨h, ht, hall⟩
        · exact .inl h
        · refine .inr ⟨h, by rw [totA_drop l j (by omega)]; omega, fun i hi => ?_⟩
          by_cases ei : i = j
          · rw [ei]; omega
          · exact hall i (by omega)
theorem szArrivalSS_ev (l : List (List LArrival)) (a : Int) (h0 : 0 ≤ a) (h1 : a ≤ 1048576) (hl : l.length ≤ 9223372036854775807) (hw : ∀ i, (l.getD i []).length ≤ 9223372036854775807) : ∃ v, Tl (fun k => laws_szArrivalSS.f k l a) v ∧ (v < 0 ∨ (0 ≤ v ∧ l.length ≤ 1048576 ∧ totA l ≤ 1048576 ∧ ∀ i, (l.getD i []).length ≤ 1048576)) := by
  unfold laws_szArrivalSS.f
  rw [wrap_id (by omega) (by omega)]
  by_cases h : a < l.length
  · exact ⟨-1, Tl.iteT (by omega) (Tl.ret _), .inl (by omega)⟩
  · obtain ⟨v, hv, hr⟩ := szArrSS_at l (by omega) hw l.length 0 (a - l.length) (by omega) (by omega) (by omega)
    refine ⟨v, Tl.iteF (by omega) hv, ?_⟩
    rcases hr with h2 | ⟨h2, ht, hall⟩
    · exact .inl h2
    · exact .inr ⟨h2, by omega, by rw [List.drop_zero] at ht; omega, fun i => hall i (by omega)⟩
def cvArrs (l : List (List LArrival)) : List (List Arrival) := l.map (fun r => r.map cvArrival)
theorem totA_cv : ∀ l : List (List LArrival), totA (cvArrs l) = totA l
  | [] => rfl
  | x :: xs => by
    have := totA_cv xs
    show ((x.map cvArrival).length : Int) + totA (cvArrs xs) = x.length + totA xs
    rw [List.length_map, this]
theorem cvArrs_len (l : List (List LArrival)) (i : Nat) : ((cvArrs l).getD i []).length = (l.getD i []).length := by
  unfold cvArrs
  rw [List.getD_eq_getElem?_getD, List.getElem?_map, List.getD_eq_getElem?_getD]
  cases l[i]? <;> simp
theorem toArrivalSS_ev (l : List (List LArrival)) (hl : l.length ≤ 1048576) (hw : ∀ i, (l.getD i []).length ≤ 1048576) : Tl (fun k => laws_toArrivalSS.f k l) (cvArrs l) := by
  unfold laws_toArrivalSS.f
  have c1 := eq_true (show 0 ≤ (l.length : Int) by omega)
  have c2 := eq_true (show l.length ≤ 11728124029610 by omega)
  simp only [c1, c2, if_true, Int.toNat_natCast]
  have hlen : (cvArrs l).length = l.length := by simp [cvArrs]
  have key := down (Q := fun j => Tl (fun k => laws_toArrivalSS.l0 k l ((cvArrs l).take j ++ List.replicate ((cvArrs l).length - j) []) (j : Int)) (cvArrs l)) l.length ?_ ?_
  · rw [fill_zero, hlen] at key; exact key
  · refine Tl.step ?_
    have c3 := eq_false (show ¬ ((l.length : Int) < (l.length : Int)) by omega)
    rw [← hlen, fill_end]
    simp only [hlen]
    simp only [laws_toArrivalSS.l0, c3, if_false]
    exact Tl.ret _
  · intro j hj h
    refine Tl.step ?_
    have c3 := eq_true (show (j : Int) < (l.length : Int) by omega)
    have c4 := eq_true (show 0 ≤ (j : Int) by omega)
    have c5 := eq_true (show (j : Int) < (((cvArrs l).take j ++ List.replicate ((cvArrs l).length - j) []).length : Int) by rw [fill_len _ _ (by omega)]; omega)
    simp only [laws_toArrivalSS.l0, c3, c4, c5, if_true, rd_arrL, Int.toNat_natCast]
    refine Tl.bind (toArrivalS_ev (l.getD j []) (hw j)) ?_
    have hc5 : (j : Int) < (((cvArrs l).take j ++ List.replicate ((cvArrs l).length - j) ([] : List Arrival)).length : Int) := by rw [fill_len _ _ (by omega)]; omega
    have hg : (cvArrs l).getD j [] = (l.getD j []).map cvArrival := by
      unfold cvArrs
      rw [getD_map (fun r => r.map cvArrival) l j [] _ hj]
    rw [fill_set _ _ (by omega) _ hg.symm, wrap_succ hj (by omega)]
    exact h
theorem eqArrivalSS_ev (l : List (List Arrival)) (hl : l.length ≤ 1048576) (hw : ∀ i, (l.getD i []).length ≤ 1048576) : Tl (fun k => laws_eqArrivalSS.f k l l) true := by
  unfold laws_eqArrivalSS.f
  refine Tl.iteT rfl ?_
  refine down (Q := fun j => Tl (fun k => laws_eqArrivalSS.l0 k l l (j : Int)) true) l.length ?_ ?_
  · refine Tl.step ?_
    simp only [laws_eqArrivalSS.l0]
    exact Tl.iteF (by omega) (Tl.ret _)
  · intro j hj hh
    refine Tl.step ?_
    simp only [laws_eqArrivalSS.l0, rd_arrI]
    rw [wrap_succ hj (by omega)]
    exact Tl.iteT (by omega) (Tl.iteT (by omega) (Tl.iteT (by omega) (Tl.bind (eqArrivalS_ev (l.getD j []) (hw j)) (Tl.iteT rfl hh))))
/- Marks on servers and arrivals. -/
theorem wrap2 {m : Int} (h0 : 0 ≤ m) (h1 : m ≤ 100000000) : wrap64 ((wrap64 (m + 1)) + 1) = m + 2 := by
  rw [wrap_id (n := m + 1) (by omega) (by omega), wrap_id (n := m + 1 + 1) (by omega) (by omega)]
  omega
theorem markServerS_at : ∀ (d j : Nat) (l : List Server) (m : Int), j + d = l.length → 0 ≤ m → m + 2 * d ≤ 100000000 → l.length ≤ 1048576 → ∃ l', Tl (fun k => laws_markServerS.l0 k l m (j : Int)) (m + 2 * d, l')
  | 0, j, l, m, e, h0, h1, h2 => by
    refine ⟨l, Tl.step ?_⟩
    simp only [laws_markServerS.l0]
    exact Tl.iteF (by omega) (Tl.cast (Tl.ret _) (by rw [show m + 2 * ((0 : Nat) : Int) = m by omega]))
  | d + 1, j, l, m, e, h0, h1, h2 => by
    have key : ∀ x : List Server, x.length = l.length → ∃ l', Tl (fun k => laws_markServerS.l0 k x (m + 2) ((j + 1 : Nat) : Int)) (m + 2 + 2 * d, l') := fun x hx => markServerS_at d (j + 1) x (m + 2) (by omega) (by omega) (by omega) (by omega)
    obtain ⟨y, hy⟩ : ∃ y, y = l.set j ⟨m, (rd_T109 l (j : Int)).f1⟩ := ⟨_, rfl⟩
    have hyl : y.length = l.length := by rw [hy, List.length_set]
    obtain ⟨l', hl'⟩ := key (y.set j ⟨(rd_T109 y (j : Int)).f0, wrap64 (m + 1)⟩) (by rw [List.length_set, hyl])
    refine ⟨l', Tl.step ?_⟩
    simp only [laws_markServerS.l0, Int.toNat_natCast, Option.bind_some]
    rw [← hy, wrap2 h0 (by omega), wrap_succ (n := l.length) (by omega) (by omega)]
    exact Tl.iteT (by omega) (Tl.iteT (by omega) (Tl.cast hl' (by rw [show m + 2 + 2 * (d : Int) = m + 2 * ((d + 1 : Nat) : Int) by omega])))
theorem markServerS_ev (l : List Server) (m : Int) (h0 : 0 ≤ m) (h1 : m ≤ 10000000) (hl : l.length ≤ 1048576) : ∃ l', Tl (fun k => laws_markServerS.f k l m) (m + 2 * l.length, l') :=
  markServerS_at l.length 0 l m (by omega) h0 (by omega) hl
theorem markArrivalS_at : ∀ (d j : Nat) (l : List Arrival) (m : Int), j + d = l.length → 0 ≤ m → m + 2 * d ≤ 100000000 → l.length ≤ 1048576 → ∃ l', Tl (fun k => laws_markArrivalS.l0 k l m (j : Int)) (m + 2 * d, l')
  | 0, j, l, m, e, h0, h1, h2 => by
    refine ⟨l, Tl.step ?_⟩
    simp only [laws_markArrivalS.l0]
    exact Tl.iteF (by omega) (Tl.cast (Tl.ret _) (by rw [show m + 2 * ((0 : Nat) : Int) = m by omega]))
  | d + 1, j, l, m, e, h0, h1, h2 => by
    have key : ∀ x : List Arrival, x.length = l.length → ∃ l', Tl (fun k => laws_markArrivalS.l0 k x (m + 2) ((j + 1 : Nat) : Int)) (m + 2 + 2 * d, l') := fun x hx => markArrivalS_at d (j + 1) x (m + 2) (by omega) (by omega) (by omega) (by omega)
    obtain ⟨y, hy⟩ : ∃ y, y = l.set j ⟨m, (rd_T164 l (j : Int)).f1⟩ := ⟨_, rfl⟩
    have hyl : y.length = l.length := by rw [hy, List.length_set]
    obtain ⟨l', hl'⟩ := key (y.set j ⟨(rd_T164 y (j : Int)).f0, wrap64 (m + 1)⟩) (by rw [List.length_set, hyl])
    refine ⟨l', Tl.step ?_⟩
    simp only [laws_markArrivalS.l0, Int.toNat_natCast, Option.bind_some]
    rw [← hy, wrap2 h0 (by omega), wrap_succ (n := l.length) (by omega) (by omega)]
    exact Tl.iteT (by omega) (Tl.iteT (by omega) (Tl.cast hl' (by rw [show m + 2 + 2 * (d : Int) = m + 2 * ((d + 1 : Nat) : Int) by omega])))
theorem markArrivalS_ev (l : List Arrival) (m : Int) (h0 : 0 ≤ m) (h1 : m ≤ 10000000) (hl : l.length ≤ 1048576) : ∃ l', Tl (fun k => laws_markArrivalS.f k l m) (m + 2 * l.length, l') :=
  markArrivalS_at l.length 0 l m (by omega) h0 (by omega) hl
theorem markRowsA_ev : ∀ (l : List (List Arrival)) (m : Int), 0 ≤ m → m + 2 * totA l ≤ 10000000 → (∀ i, (l.getD i []).length ≤ 1048576) → Tl (fun k => markRowsA k l m) (m + 2 * totA l)
  | [], m, _, _, _ => by
    unfold markRowsA totA
    exact Tl.cast (Tl.ret _) (by simp)
  | x :: xs, m, h0, h1, hw => by
    have e : totA (x :: xs) = x.length + totA xs := rfl
    have hp := totA_pos xs
    rw [e] at h1 ⊢
    obtain ⟨t, ht⟩ := markArrivalS_ev x m h0 (by omega) (hw 0)
    have ih := markRowsA_ev xs (m + 2 * x.length) (by omega) (by omega) (fun i => by have := hw (i + 1); simpa using this)
    unfold markRowsA
    exact Tl.cast (Tl.bind ht ih) (by omega)
end Go.Proofs.Ytonifhkplniblaa.Print

namespace Go.Proofs.Ytonifhkplniblaa.Print
open Go.RowKit Go.Proofs.YtonifhkplniblaaW.PrintWords Go.Proofs.YtonifhkplniblaaW.PrintLast Go.Proofs.YtonifhkplniblaaW.PrintMore
attribute [local go_sem] max2_int min2_int max_two min_two max_three min_three max_four min_four
set_option linter.unusedVariables false
set_option linter.unusedSimpArgs false
open Go.Proofs.Ytonifhkplniblaa.Walk Go.Proofs.Ytonifhkplniblaa.Evs
theorem simN_keep {P : SvSt → Prop} (ss : List (S109)) (rs : List (List (S164))) (jobs : List (S67)) (h0 : P (srv00 ss rs)) (hs : ∀ x done t, P x → P (srvPick ss rs jobs x done t).2) : ∀ t, P (simN jobs (srvPick ss rs jobs) (srv00 ss rs) t).1
  | 0 => h0
  | t + 1 => by
    have ih := simN_keep ss rs jobs h0 hs t
    have h := hs (simN jobs (srvPick ss rs jobs) (srv00 ss rs) t).1 (simN jobs (srvPick ss rs jobs) (srv00 ss rs) t).2.1 t ih
    unfold simN simStep
    split
    · exact h
    · split <;> exact h
theorem srvPick_small (ss : List (S109)) (rs : List (List (S164))) (jobs : List (S67)) (x : SvSt) (done : List Int) (t : Nat) (h : x.ch.length = 120 ∧ ∀ i, (x.sd.getD i []).length ≤ 20) : (srvPick ss rs jobs x done t).2.ch.length = 120 ∧ ∀ i, ((srvPick ss rs jobs x done t).2.sd.getD i []).length ≤ 20 := by
  unfold srvPick srvK
  split
  · exact h
  · split
    · exact h
    · refine ⟨(List.length_set ..).trans h.1, fun i => ?_⟩
      show ((if _ then _ else _ : List (List Int)).getD i []).length ≤ 20
      split
      · rw [getD_setR]
        split
        · rw [List.length_set]; exact h.2 _
        · exact h.2 i
      · exact h.2 i
theorem resS_small (l0 : List (S62)) (jobs : List (S67)) (ss : List (S109)) (rs : List (List (S164))) : (resS l0 jobs ss rs).1.length ≤ 1000 ∧ (resS l0 jobs ss rs).2.1.length ≤ 1000 ∧ (resS l0 jobs ss rs).2.2.1.length ≤ 1000 ∧ (resS l0 jobs ss rs).2.2.2.length ≤ 1000 ∧ ∀ i, ((resS l0 jobs ss rs).2.2.2.getD i []).length ≤ 1000 := by
  unfold resS
  split
  · rename_i hg
    have h1 := simN_len (jobs := jobs) (pick := srvPick ss rs jobs) (s0 := srv00 ss rs) 120
    have h2 := legal_jobs' hg.1
    have h3 := okServers_len hg.2.1
    have h4 := simN_sd ss rs jobs 120
    have h5 := simN_keep (P := fun x => x.ch.length = 120 ∧ ∀ i, (x.sd.getD i []).length ≤ 20) ss rs jobs ⟨by simp [srv00], fun i => by
      show ((rowI rs ss.length ss.length).getD i []).length ≤ 20
      by_cases hi : i < ss.length
      · rw [rowI_at _ _ _ _ hi, if_pos hi, List.length_replicate]
        have hm : rs.getD i [] ∈ rs := by
          have hil : i < rs.length := by rw [hg.2.2.1]; exact hi
          rw [List.getD_eq_getElem?_getD, List.getElem?_eq_getElem hil]
          exact List.getElem_mem hil
        have h6 := hg.2.2.2
        rw [List.all_eq_true] at h6
        have h7 := h6 _ hm
        unfold okArrs at h7
        rw [Bool.and_eq_true] at h7
        exact of_decide_eq_true h7.2
      · rw [List.getD_eq_getElem?_getD, List.getElem?_eq_none (by rw [rowI_len]; omega)]
        simp⟩ (srvPick_small ss rs jobs) 120
    exact ⟨Nat.le_trans (Nat.le_of_eq h1.2.1) (by decide), Nat.le_trans (Nat.le_of_eq h1.2.2) (by omega), Nat.le_trans (Nat.le_of_eq h5.1) (by decide), Nat.le_trans (Nat.le_of_eq h4) (by omega), fun i => Nat.le_trans (h5.2 i) (by decide)⟩
  · exact ⟨by simp, by simp, by simp, by simp, fun i => by simp⟩


/-- A run's result as it reads. -/
structure RdR (W : World) (A0 : Option Addr) (c0 : Nat) (A1 : Option Addr) (c1 : Nat) (A2 : Option Addr) (c2 : Nat) (A3 : Option Addr) (c3 : Nat) (R : ResT) : Prop where
  r0 : Kd.C (Kd.int .i64) W A0 R.1.length R.1
  k0 : R.1.length ≤ c0
  r1 : Kd.C (Kd.int .i64) W A1 R.2.1.length R.2.1
  k1 : R.2.1.length ≤ c1
  r2 : Kd.C (Kd.int .i64) W A2 R.2.2.1.length R.2.2.1
  k2 : R.2.2.1.length ≤ c2
  r3 : Kd.C (Kd.slice 3 (Kd.int .i64)) W A3 R.2.2.2.length R.2.2.2
  k3 : R.2.2.2.length ≤ c3
section
variable {W W2 V : World} {base : Nat} {v0 v1 v2 v3 : Value} {us : List Value} {A0 A1 A2 A3 B0 B1 B2 B3 : Option Addr} {c0 c1 c2 c3 d0 d1 d2 d3 : Nat} {R : ResT}
theorem RdR.below (h : RdR W A0 c0 A1 c1 A2 c2 A3 c3 R) (hb : Below W.heap.size W W2) : RdR W2 A0 c0 A1 c1 A2 c2 A3 c3 R := ⟨Kd.C_below h.r0 hb, h.k0, Kd.C_below h.r1 hb, h.k1, Kd.C_below h.r2 hb, h.k2, Kd.C_below h.r3 hb, h.k3⟩
theorem ResM.slices (h : ResM W base v0 v1 v2 v3 us R) (hn : R.2.2.2.length ≤ 1000) : ∃ A0 c0 A1 c1 A2 c2 A3 c3, v0 = .slice A0 R.1.length c0 ∧ v1 = .slice A1 R.2.1.length c1 ∧ v2 = .slice A2 R.2.2.1.length c2 ∧ v3 = .slice A3 R.2.2.2.length c3 := by
  obtain ⟨A0, c0, e0⟩ := Kd.R_slice h.r0
  obtain ⟨A1, c1, e1⟩ := Kd.R_slice h.r1
  obtain ⟨A2, c2, e2⟩ := Kd.R_slice h.r2
  obtain ⟨A3, e3, _⟩ := h.rows.reads hn
  exact ⟨A0, c0, A1, c1, A2, c2, A3, _, e0, e1, e2, e3⟩
theorem ResM.rd (h : ResM W base (.slice A0 R.1.length c0) (.slice A1 R.2.1.length c1) (.slice A2 R.2.2.1.length c2) (.slice A3 R.2.2.2.length c3) us R) (hn : R.2.2.2.length ≤ 1000) : RdR W A0 c0 A1 c1 A2 c2 A3 c3 R := by
  obtain ⟨B, e, hC⟩ := h.rows.reads hn
  injection e with e1 e2 e3
  subst e1
  exact ⟨(Kd.R_reads' h.r0).2.2, (Kd.R_reads' h.r0).2.1, (Kd.R_reads' h.r1).2.2, (Kd.R_reads' h.r1).2.1, (Kd.R_reads' h.r2).2.2, (Kd.R_reads' h.r2).2.1, hC, by omega⟩
theorem ResM.keep (h : ResM W base v0 v1 v2 v3 us R) (hk : ∀ k, base ≤ k → k < W.heap.size → W2.heap[k]? = W.heap[k]?) : ResM W2 base v0 v1 v2 v3 us R := by
  refine ⟨row_stepG h.r0 (fun k e hlt => hk k (Kd.R_base h.r0 k e) hlt), row_stepG h.r1 (fun k e hlt => hk k (Kd.R_base h.r1 k e) hlt), row_stepG h.r2 (fun k e hlt => hk k (Kd.R_base h.r2 k e) hlt), ?_, h.a0, h.a1, h.aS⟩
  rcases h.rows with ⟨gr, e, hb, hg⟩ | hn
  · exact .inl ⟨gr, e, hb, hg.step (hk gr hb (blk_lt hg.blk)) (fun i k hi e2 hlt => hk k (Kd.RR_base (hg.row i (by rw [← hg.len]; exact hi)) k e2) hlt)⟩
  · exact .inr hn
/-- laws.eqServerRun at two equal results. -/
theorem eqRun_calls (kk : Nat) (hU : RdR V A0 c0 A1 c1 A2 c2 A3 c3 R) (hV : RdR V B0 d0 B1 d1 B2 d2 B3 d3 R) (hE : laws_eqServerRun.f kk R.1 R.2.1 R.2.2.1 R.2.2.2 R.1 R.2.1 R.2.2.1 R.2.2.2 = some true) :
    Calls Try.prog 23 #[.agg #[.slice A0 R.1.length c0, .slice A1 R.2.1.length c1, .slice A2 R.2.2.1.length c2, .slice A3 R.2.2.2.length c3], .agg #[.slice B0 R.1.length d0, .slice B1 R.2.1.length d1, .slice B2 R.2.2.1.length d2, .slice B3 R.2.2.2.length d3]] V fun e w' => e = .returned (.bool true) ∧ Below V.heap.size V w' :=
  laws_eqServerRun.calls kk A0 c0 R.1 A1 c1 R.2.1 A2 c2 R.2.2.1 A3 c3 R.2.2.2 B0 d0 R.1 B1 d1 R.2.1 B2 d2 R.2.2.1 B3 d3 R.2.2.2 true V hU.r0 hU.k0 hU.r1 hU.k1 hU.r2 hU.k2 hU.r3 hU.k3 hV.r0 hV.k0 hV.r1 hV.k1 hV.r2 hV.k2 hV.r3 hV.k3 hE
/-- laws.heldServerRun at a marked result. -/
theorem heldRun_calls (kk : Nat) (a Q : Int) (h : ResM V base (.slice A0 R.1.length c0) (.slice A1 R.2.1.length c1) (.slice A2 R.2.2.1.length c2) (.slice A3 R.2.2.2.length c3) us (mkRes a R)) (hn : R.2.2.2.length ≤ 1000) (hH : laws_heldServerRun.f kk (mkRes a R).1 (mkRes a R).2.1 (mkRes a R).2.2.1 (mkRes a R).2.2.2 a = some Q) :
    Calls Try.prog 33 #[.agg #[.slice A0 R.1.length c0, .slice A1 R.2.1.length c1, .slice A2 R.2.2.1.length c2, .slice A3 R.2.2.2.length c3], .int .i64 a] V fun e w' => e = .returned (.int .i64 Q) ∧ Below V.heap.size V w' := by
  have l0 : (mkRes a R).1.length = R.1.length := mkL_len _ _
  have l1 : (mkRes a R).2.1.length = R.2.1.length := mkL_len _ _
  have l2 : (mkRes a R).2.2.1.length = R.2.2.1.length := mkL_len _ _
  have l3 : (mkRes a R).2.2.2.length = R.2.2.2.length := mkR_len _ _ _
  have h' : ResM V base (.slice A0 (mkRes a R).1.length c0) (.slice A1 (mkRes a R).2.1.length c1) (.slice A2 (mkRes a R).2.2.1.length c2) (.slice A3 (mkRes a R).2.2.2.length c3) us (mkRes a R) := by rw [l0, l1, l2, l3]; exact h
  have r := h'.rd (by rw [l3]; exact hn)
  have hc := laws_heldServerRun.calls kk A0 c0 _ A1 c1 _ A2 c2 _ A3 c3 _ a Q V r.r0 r.k0 r.r1 r.k1 r.r2 r.k2 r.r3 r.k3 hH
  rw [l0, l1, l2, l3] at hc
  exact hc
end
/-- A row's blocks lie between two sizes. -/
theorem R_range {α : Type} {d : Kd α} {e : Nat} {w : World} {base : Nat} {v : Value} {xs : List α} (h : Kd.R d e w base (fun _ => True) v xs) : Kd.R d e w base (fun k => base ≤ k ∧ k < w.heap.size) v xs := Kd.R_mono (Kd.R_bound h) (fun k hk => ⟨hk.2.1, hk.2.2.1⟩)
theorem S_range {α : Type} {d : Kd α} {e : Nat} {w : World} {base : Nat} {v : Value} {xs : List α} (h : Kd.S d e w base (fun _ => True) v xs) : Kd.S d e w base (fun k => base ≤ k ∧ k < w.heap.size) v xs := Kd.S_mono (Kd.S_bound h) (fun k hk => ⟨hk.2.1, hk.2.2.1⟩)
/-- spec.RunServers, whatever its arguments. -/
theorem specServers_any (A0 : Option Addr) (c0 : Nat) (l0 : List (S62)) (A : Option Addr) (c : Nat) (jobs : List (S67)) (As : Option Addr) (cs : Nat) (ss : List (S109)) (Ar : Option Addr) (cr : Nat) (rs : List (List (S164))) (w : World)
    (hr0 : Kd.C k62 w A0 l0.length l0) (hc0 : l0.length ≤ c0) (hj : Kd.C k67 w A jobs.length jobs) (hc : jobs.length ≤ c) (hs : Kd.C k109 w As ss.length ss) (hcs : ss.length ≤ cs) (hr : Kd.C (Kd.slice 164 k164) w Ar rs.length rs) (hcr : rs.length ≤ cr)
    (hl0 : l0.length ≤ 1048576) (hlj : jobs.length ≤ 1048576) (hls : ss.length ≤ 1048576) (hrl : ∀ x ∈ rs, x.length ≤ 1048576) :
    Calls Try.prog 17 #[.slice A0 l0.length c0, .slice A jobs.length c, .slice As ss.length cs, .slice Ar rs.length cr] w fun e w' => ∃ (B0 : Option Addr) (d0 : Nat) (B1 : Option Addr) (d1 : Nat) (B2 : Option Addr) (d2 : Nat) (B3 : Option Addr) (d3 : Nat), e = .returned (.agg #[.slice B0 (resS l0 jobs ss rs).1.length d0, .slice B1 (resS l0 jobs ss rs).2.1.length d1, .slice B2 (resS l0 jobs ss rs).2.2.1.length d2, .slice B3 (resS l0 jobs ss rs).2.2.2.length d3]) ∧ RdR w' B0 d0 B1 d1 B2 d2 B3 d3 (resS l0 jobs ss rs) ∧ Below w.heap.size w w' := by
  refine (specServers_calls A0 c0 l0 A c jobs As cs ss Ar cr rs w hr0 hc0 hj hc hs hcs hr hcr hl0 hlj hls hrl).mono ?_
  rintro e w' ⟨h, hb⟩
  by_cases hg : goodS l0 jobs ss rs
  · have hres : resS l0 jobs ss rs = ((simN jobs (srvPick ss rs jobs) (srv00 ss rs) 120).2.2.1, (simN jobs (srvPick ss rs jobs) (srv00 ss rs) 120).2.2.2, (simN jobs (srvPick ss rs jobs) (srv00 ss rs) 120).1.ch, (simN jobs (srvPick ss rs jobs) (srv00 ss rs) 120).1.sd) := by unfold resS; rw [if_pos hg]
    rw [hres]
    rcases h with ⟨_, B0, d0, B1, d1, B2, d2, B3, d3, he, f0, f1, f2, f3⟩ | ⟨hn, _⟩
    · exact ⟨B0, d0, B1, d1, B2, d2, B3, d3, he, ⟨(Kd.R_reads' f0).2.2, (Kd.R_reads' f0).2.1, (Kd.R_reads' f1).2.2, (Kd.R_reads' f1).2.1, (Kd.R_reads' f2).2.2, (Kd.R_reads' f2).2.1, (Kd.S_reads' f3).2.2, (Kd.S_reads' f3).2.1⟩, hb⟩
    · exact absurd hg hn
  · have hres : resS l0 jobs ss rs = ([], [], [], []) := by unfold resS; rw [if_neg hg]
    rw [hres]
    rcases h with ⟨hy, _⟩ | ⟨_, he⟩
    · exact absurd hy hg
    · exact ⟨none, 0, none, 0, none, 0, none, 0, he, ⟨⟨rfl, by decide, fun h => absurd h (by decide)⟩, Nat.le_refl _, ⟨rfl, by decide, fun h => absurd h (by decide)⟩, Nat.le_refl _, ⟨rfl, by decide, fun h => absurd h (by decide)⟩, Nat.le_refl _, ⟨rfl, by decide, fun h => absurd h (by decide)⟩, Nat.le_refl _⟩, hb⟩

end Go.Proofs.Ytonifhkplniblaa.Print

namespace Go.Proofs.Ytonifhkplniblaa.Print
open Go.RowKit Go.Proofs.YtonifhkplniblaaW.PrintWords Go.Proofs.YtonifhkplniblaaW.PrintLast Go.Proofs.YtonifhkplniblaaW.PrintMore
attribute [local go_sem] max2_int min2_int max_two min_two max_three min_three max_four min_four
set_option linter.unusedVariables false
set_option linter.unusedSimpArgs false
open Go.Proofs.Ytonifhkplniblaa.Walk
theorem below_drawn {n : Nat} {w0 w w1 : World} (h : Below n w0 w) (hd : Drawn0 w w1) : Below n w0 w1 := by
  obtain ⟨m, rfl⟩ := hd.out
  exact pw_below_drewN h m
theorem ResM.off {W : World} {base : Nat} {v0 v1 v2 v3 : Value} {us : List Value} {R : ResT} {g : Nat} {cs : Array Value} (h : ResM W base v0 v1 v2 v3 us R) (hb : W.heap[g]? = some (.cells cs 35 (0, 0))) : ¬ ResB v0 v1 v2 us g := by
  rintro (((e | e) | e) | ⟨i, hi, e⟩)
  · exact Kd.R_ne h.r0 hb (by decide) e.symm
  · exact Kd.R_ne h.r1 hb (by decide) e.symm
  · exact Kd.R_ne h.r2 hb (by decide) e.symm
  · rcases h.rows with ⟨gr, _, _, hg⟩ | ⟨_, _, hn⟩
    · exact Kd.RR_ne (hg.row i (by rw [← hg.len]; exact hi)) hb (by decide) e.symm
    · rw [hn] at hi; cases hi
set_option maxHeartbeats 8000000 in
set_option maxRecDepth 100000 in
/-- The law at arguments of a fair size; what it computes is given by the plain facts. -/
theorem slaw (kk : Nat) (A0 : Option Addr) (c0 : Nat) (l0 : List (S105)) (A1 : Option Addr) (c1 : Nat) (l1 : List (S107)) (A2 : Option Addr) (c2 : Nat) (l2 : List (S111)) (A3 : Option Addr) (c3 : Nat) (l3 : List (List (S173))) (w : World)
    (hr0 : Kd.C k105 w A0 l0.length l0) (hc0 : l0.length ≤ c0) (hr1 : Kd.C k107 w A1 l1.length l1) (hc1 : l1.length ≤ c1) (hr2 : Kd.C k111 w A2 l2.length l2) (hc2 : l2.length ≤ c2) (hr3 : Kd.C (Kd.slice 173 k173) w A3 l3.length l3) (hc3 : l3.length ≤ c3)
    (a b d f : Int) (ha : 0 ≤ a) (hb : 0 ≤ b) (hd : 0 ≤ d) (hf : 0 ≤ f) (ts : List (S62)) (js : List (S67)) (sv : List (S109)) (rs : List (List (S164))) (R R' : ResT) (n0 n1 n2 n3 : Nat) (Q : Int) (mt mj mv ma : Int) (ts2 : List (S62)) (js2 : List (S67)) (sv2 : List (S109))
    (hz0 : laws_szTaskS.f l0 1048576 = some a) (hz1 : laws_szJobS.f l1 a = some b) (hz2 : laws_szServerS.f l2 b = some d) (hz3 : laws_szArrivalSS.f kk l3 d = some f)
    (hT : laws_toTaskS.f kk l0 = some ts) (hJ : laws_toJobS.f kk l1 = some js) (hV : laws_toServerS.f kk l2 = some sv) (hA : laws_toArrivalSS.f kk l3 = some rs)
    (hET : laws_eqTaskS.f kk ts ts = some true) (hEJ : laws_eqJobS.f kk js js = some true) (hEV : laws_eqServerS.f kk sv sv = some true) (hEA : laws_eqArrivalSS.f kk rs rs = some true)
    (hMT : laws_markTaskS.f kk ts 1 = some (mt, ts2)) (hMJ : laws_markJobS.f kk js mt = some (mj, js2)) (hMV : laws_markServerS.f kk sv mj = some (mv, sv2)) (hMA : markRowsA kk rs mv = some ma) (hma : 0 ≤ ma) (hQ : 0 ≤ Q)
    (hSPC : ∀ V At ct Aj cj As cs Ar cr, Kd.C k62 V At ts.length ts → ts.length ≤ ct → Kd.C k67 V Aj js.length js → js.length ≤ cj → Kd.C k109 V As sv.length sv → sv.length ≤ cs → Kd.C (Kd.slice 164 k164) V Ar rs.length rs → rs.length ≤ cr → Calls Try.prog 17 #[.slice At ts.length ct, .slice Aj js.length cj, .slice As sv.length cs, .slice Ar rs.length cr] V fun e w' => ∃ (B0 : Option Addr) (d0 : Nat) (B1 : Option Addr) (d1 : Nat) (B2 : Option Addr) (d2 : Nat) (B3 : Option Addr) (d3 : Nat), e = .returned (.agg #[.slice B0 n0 d0, .slice B1 n1 d1, .slice B2 n2 d2, .slice B3 n3 d3]) ∧ RdR w' B0 d0 B1 d1 B2 d2 B3 d3 R ∧ Below V.heap.size V w')
    (hIMP : ∀ V At ct Aj cj As cs Ar cr, Kd.C k62 V At ts.length ts → ts.length ≤ ct → Kd.C k67 V Aj js.length js → js.length ≤ cj → Kd.C k109 V As sv.length sv → sv.length ≤ cs → Kd.C (Kd.slice 164 k164) V Ar rs.length rs → rs.length ≤ cr → Calls Try.prog 22 #[.slice At ts.length ct, .slice Aj js.length cj, .slice As sv.length cs, .slice Ar rs.length cr] V fun e w' => ∃ (B0 : Option Addr) (d0 : Nat) (B1 : Option Addr) (d1 : Nat) (B2 : Option Addr) (d2 : Nat) (B3 : Option Addr) (d3 : Nat) (us : List Value), e = .returned (.agg #[.slice B0 n0 d0, .slice B1 n1 d1, .slice B2 n2 d2, .slice B3 n3 d3]) ∧ ResM w' V.heap.size (.slice B0 n0 d0) (.slice B1 n1 d1) (.slice B2 n2 d2) (.slice B3 n3 d3) us R ∧ Below V.heap.size V w')
    (hRD : ∀ W base B0 d0 B1 d1 B2 d2 B3 d3 us, ResM W base (.slice B0 n0 d0) (.slice B1 n1 d1) (.slice B2 n2 d2) (.slice B3 n3 d3) us R → RdR W B0 d0 B1 d1 B2 d2 B3 d3 R)
    (hEQ : ∀ V B0 d0 B1 d1 B2 d2 B3 d3 D0 e0 D1 e1 D2 e2 D3 e3, RdR V B0 d0 B1 d1 B2 d2 B3 d3 R → RdR V D0 e0 D1 e1 D2 e2 D3 e3 R → Calls Try.prog 23 #[.agg #[.slice B0 n0 d0, .slice B1 n1 d1, .slice B2 n2 d2, .slice B3 n3 d3], .agg #[.slice D0 n0 e0, .slice D1 n1 e1, .slice D2 n2 e2, .slice D3 n3 e3]] V fun e w' => e = .returned (.bool true) ∧ Below V.heap.size V w')
    (hMK : ∀ B V B0 d0 B1 d1 B2 d2 B3 d3 us, ResM V B (.slice B0 n0 d0) (.slice B1 n1 d1) (.slice B2 n2 d2) (.slice B3 n3 d3) us R → B ≤ V.heap.size → Calls Try.prog 32 #[.agg #[.slice B0 n0 d0, .slice B1 n1 d1, .slice B2 n2 d2, .slice B3 n3 d3], .int .i64 1] V fun e w' => e = .returned (.int .i64 Q) ∧ ResM w' B (.slice B0 n0 d0) (.slice B1 n1 d1) (.slice B2 n2 d2) (.slice B3 n3 d3) us R' ∧ Below B V w' ∧ Kept V w' (ResB (.slice B0 n0 d0) (.slice B1 n1 d1) (.slice B2 n2 d2) us))
    (hHD : ∀ V base B0 d0 B1 d1 B2 d2 B3 d3 us, ResM V base (.slice B0 n0 d0) (.slice B1 n1 d1) (.slice B2 n2 d2) (.slice B3 n3 d3) us R' → Calls Try.prog 33 #[.agg #[.slice B0 n0 d0, .slice B1 n1 d1, .slice B2 n2 d2, .slice B3 n3 d3], .int .i64 1] V fun e w' => e = .returned (.int .i64 Q) ∧ Below V.heap.size V w') :
    Calls Try.prog 3 #[.slice A0 l0.length c0, .slice A1 l1.length c1, .slice A2 l2.length c2, .slice A3 l3.length c3] w fun e w' => e = .returned (.bool true) ∧ Below w.heap.size w w' := by
  have hu80 := Try.underlying35
  have HZ0 := Lib.hid (fun V (hB : Below w.heap.size w V) => laws_szTaskS.calls A0 c0 l0 1048576 a V (Kd.C_below hr0 hB) hc0 hz0)
  have HZ1 := Lib.hid (fun V (hB : Below w.heap.size w V) => laws_szJobS.calls A1 c1 l1 a b V (Kd.C_below hr1 hB) hc1 hz1)
  have HZ2 := Lib.hid (fun V (hB : Below w.heap.size w V) => laws_szServerS.calls A2 c2 l2 b d V (Kd.C_below hr2 hB) hc2 hz2)
  have HZ3 := Lib.hid (fun V (hB : Below w.heap.size w V) => laws_szArrivalSS.calls kk A3 c3 l3 d f V (Kd.C_below hr3 hB) hc3 hz3)
  have HT := Lib.hid (fun V (hB : Below w.heap.size w V) => laws_toTaskS.calls kk A0 c0 l0 ts V (Kd.C_below hr0 hB) hc0 hT)
  have HJ := Lib.hid (fun V (hB : Below w.heap.size w V) => laws_toJobS.calls kk A1 c1 l1 js V (Kd.C_below hr1 hB) hc1 hJ)
  have HV := Lib.hid (fun V (hB : Below w.heap.size w V) => laws_toServerS.calls kk A2 c2 l2 sv V (Kd.C_below hr2 hB) hc2 hV)
  have HA := Lib.hid (fun V (hB : Below w.heap.size w V) => laws_toArrivalSS.calls kk A3 c3 l3 rs V (Kd.C_below hr3 hB) hc3 hA)
  have HET := Lib.hid (fun V (A B : Option Addr) (c d : Nat) h1 h2 h3 h4 => laws_eqTaskS.calls kk A c ts B d ts true V h1 h2 h3 h4 hET)
  have HEJ := Lib.hid (fun V (A B : Option Addr) (c d : Nat) h1 h2 h3 h4 => laws_eqJobS.calls kk A c js B d js true V h1 h2 h3 h4 hEJ)
  have HEV := Lib.hid (fun V (A B : Option Addr) (c d : Nat) h1 h2 h3 h4 => laws_eqServerS.calls kk A c sv B d sv true V h1 h2 h3 h4 hEV)
  have HEA := Lib.hid (fun V (A B : Option Addr) (c d : Nat) h1 h2 h3 h4 => laws_eqArrivalSS.calls kk A c rs B d rs true V h1 h2 h3 h4 hEA)
  have HSPC := Lib.hid hSPC
  have HIMP := Lib.hid hIMP
  have HRD := Lib.hid hRD
  have HEQ := Lib.hid hEQ
  have HMK := Lib.hid hMK
  have HHD := Lib.hid hHD
  have HMM := Lib.hid (And.intro hMT (And.intro hMJ (And.intro hMV hMA)))
  have d0 : decide (a < 0) = false := decide_eq_false (by omega)
  have d1 : decide (b < 0) = false := decide_eq_false (by omega)
  have d2 : decide (d < 0) = false := decide_eq_false (by omega)
  have d3 : decide (f < 0) = false := decide_eq_false (by omega)
  have HB := Aside0.mk (Below.refl w.heap.size w)
  clear hr0 hc0 hr1 hc1 hr2 hc2 hr3 hc3 hz0 hz1 hz2 hz3 hT hJ hV hA hET hEJ hEV hEA hMT hMJ hMV hMA hSPC hIMP hRD hEQ hMK hHD
  go_enter Try.func3, Try.ntmps3
  go_upto_region 14 with (first | (go_at_call 13; refine (HZ0.out _ HB.out).mono ?_; rintro e wa ⟨rfl, hd⟩; have HBa := Lib.hid (below_drawn HB.out hd); clear hd) | (go_at_call 14; refine (HZ1.out _ HBa.out).mono ?_; rintro e wb ⟨rfl, hd⟩; have HBb := Lib.hid (below_drawn HBa.out hd); clear hd) | (go_at_call 15; refine (HZ2.out _ HBb.out).mono ?_; rintro e wc ⟨rfl, hd⟩; have HBc := Lib.hid (below_drawn HBb.out hd); clear hd) | (go_at_call 16; refine (HZ3.out _ HBc.out).mono ?_; rintro e W1 ⟨rfl, hd⟩; have HB1 := Lib.hid (below_drawn HBc.out hd); clear hd))
  clear HB HBa HBb HBc HZ0 HZ1 HZ2 HZ3
  go_upto_region 15 with (first | (go_at_call 18; refine (HT.out _ HB1.out).mono ?_; rintro e W2 ⟨vt, rfl, ht, hb⟩; obtain ⟨At, ct, et⟩ := Kd.R_slice ht; subst et; have HTR := Lib.hid (Kd.R_reads' ht); have HB2 := Lib.hid hb; clear ht hb) | (go_at_call 19; refine (HJ.out _ (below_step HB1.out HB2.out)).mono ?_; rintro e W3 ⟨vj, rfl, hj, hb⟩; obtain ⟨Aj, cj, ej⟩ := Kd.R_slice hj; subst ej; have HJR := Lib.hid (Kd.R_reads' hj); have HB3 := Lib.hid hb; clear hj hb) | (go_at_call 20; refine (HV.out _ (below_step (below_step HB1.out HB2.out) HB3.out)).mono ?_; rintro e W4 ⟨vs, rfl, hs, hb⟩; obtain ⟨As, cs, es⟩ := Kd.R_slice hs; subst es; have HVR := Lib.hid (Kd.R_reads' hs); have HB4 := Lib.hid hb; clear hs hb) | (go_at_call 21; refine (HA.out _ (below_step (below_step (below_step HB1.out HB2.out) HB3.out) HB4.out)).mono ?_; rintro e W5 ⟨vr, rfl, hr, hb⟩; obtain ⟨Ar, cr, er⟩ := Kd.S_slice hr; subst er; have HAR := Lib.hid (Kd.S_reads' hr); have HB5 := Lib.hid hb; clear hr hb) | (go_at_call 17; refine (HSPC.out _ _ _ _ _ _ _ _ _ (Kd.C_below HTR.out.2.2 (below_step (below_step HB3.out HB4.out) HB5.out)) HTR.out.2.1 (Kd.C_below HJR.out.2.2 (below_step HB4.out HB5.out)) HJR.out.2.1 (Kd.C_below HVR.out.2.2 HB5.out) HVR.out.2.1 HAR.out.2.2 HAR.out.2.1).mono ?_; rintro e W6 ⟨B0, d0_, B1, d1_, B2, d2_, B3, d3_, rfl, hs, hb⟩; have HSR := Lib.hid hs; have HB6 := Lib.hid hb; clear hs hb))
  obtain ⟨W7, hW7⟩ : ∃ W7, W7 = W6.alloc (.cells #[.slice B0 n0 d0_, .slice B1 n1 d1_, .slice B2 n2 d2_, .slice B3 n3 d3_] 35) := ⟨_, rfl⟩
  have hb7 : Below W6.heap.size W6 W7 := by rw [hW7]; exact below_alloc (Below.refl _ _) _
  have hbx : W7.heap[W6.heap.size]? = some (.cells #[.slice B0 n0 d0_, .slice B1 n1 d1_, .slice B2 n2 d2_, .slice B3 n3 d3_] 35 (0, 0)) := by rw [hW7]; exact blk_new _ _
  have HSR7 := Lib.hid (HSR.out.below hb7)
  have HBX := Lib.hid hbx
  have HB7 := Aside0.mk (below_step (below_step (below_step (below_step (below_step (below_step HB1.out HB2.out) HB3.out) HB4.out) HB5.out) HB6.out) hb7)
  rw [← hW7]
  generalize W6.heap.size = g10 at HBX ⊢
  clear hb7 hbx hW7 HSR HTR HJR HVR HAR HB1 HB2 HB3 HB4 HB5 HB6 HSPC
  go_upto_region 19 with (first | (go_at_call 18; refine (HT.out _ HB7.out).mono ?_; rintro e W8 ⟨vt, rfl, ht, hb⟩; obtain ⟨Ax, cx, et⟩ := Kd.R_slice ht; subst et; have HX0 := Lib.hid (R_range ht); have HB8 := Lib.hid hb; clear ht hb) | (go_at_call 19; refine (HJ.out _ (below_step HB7.out HB8.out)).mono ?_; rintro e W9 ⟨vj, rfl, hj, hb⟩; obtain ⟨Ay, cy, ej⟩ := Kd.R_slice hj; subst ej; have HX1 := Lib.hid (R_range hj); have HB9 := Lib.hid hb; clear hj hb) | (go_at_call 20; refine (HV.out _ (below_step (below_step HB7.out HB8.out) HB9.out)).mono ?_; rintro e W10 ⟨vs, rfl, hs, hb⟩; obtain ⟨Az, cz, es⟩ := Kd.R_slice hs; subst es; have HX2 := Lib.hid (R_range hs); have HB10 := Lib.hid hb; clear hs hb) | (go_at_call 21; refine (HA.out _ (below_step (below_step (below_step HB7.out HB8.out) HB9.out) HB10.out)).mono ?_; rintro e W11 ⟨vr, rfl, hr, hb⟩; obtain ⟨Aw, cw, er⟩ := Kd.S_slice hr; subst er; have HX3 := Lib.hid (S_range hr); have HB11 := Lib.hid hb; clear hr hb))
  have HSZ := Lib.hid (And.intro HB8.out.size (And.intro HB9.out.size (And.intro HB10.out.size HB11.out.size)))
  have HX0B := Lib.hid (Kd.R_below HX0.out (below_step (below_step HB9.out HB10.out) HB11.out))
  have HX1B := Lib.hid (Kd.R_lower (Kd.R_below HX1.out (below_step HB10.out HB11.out)) HSZ.out.1)
  have HX2B := Lib.hid (Kd.R_lower (Kd.R_below HX2.out HB11.out) (Nat.le_trans HSZ.out.1 HSZ.out.2.1))
  have HX3B := Lib.hid (Kd.S_lower HX3.out (Nat.le_trans HSZ.out.1 (Nat.le_trans HSZ.out.2.1 HSZ.out.2.2.1)))
  have HB711 := Lib.hid (below_step (below_step (below_step HB8.out HB9.out) HB10.out) HB11.out)
  clear HX0 HX1 HX2 HX3 HB8 HB9 HB10 HB11
  go_upto_region 20 with (go_at_call 22; refine (HIMP.out _ _ _ _ _ _ _ _ _ (Kd.R_reads' HX0B.out).2.2 (Kd.R_reads' HX0B.out).2.1 (Kd.R_reads' HX1B.out).2.2 (Kd.R_reads' HX1B.out).2.1 (Kd.R_reads' HX2B.out).2.2 (Kd.R_reads' HX2B.out).2.1 (Kd.S_reads' HX3B.out).2.2 (Kd.S_reads' HX3B.out).2.1).mono ?_; rintro e W12 ⟨G0, e0, G1, e1, G2, e2, G3, e3, us, rfl, hg, hb⟩; have HG12 := Lib.hid hg; have HB12 := Lib.hid hb; clear hg hb)
  obtain ⟨W13, hW13⟩ : ∃ W13, W13 = W12.alloc (.cells #[.slice G0 n0 e0, .slice G1 n1 e1, .slice G2 n2 e2, .slice G3 n3 e3] 35) := ⟨_, rfl⟩
  have hb13 : Below W12.heap.size W12 W13 := by rw [hW13]; exact below_alloc (Below.refl _ _) _
  have hbx13 : W13.heap[W12.heap.size]? = some (.cells #[.slice G0 n0 e0, .slice G1 n1 e1, .slice G2 n2 e2, .slice G3 n3 e3] 35 (0, 0)) := by rw [hW13]; exact blk_new _ _
  have HG13 := Lib.hid (HG12.out.below hb13)
  have HBX13 := Lib.hid hbx13
  have HB1113 := Lib.hid (below_step HB12.out hb13)
  have HB713 := Lib.hid (below_step HB711.out HB1113.out)
  have HB013 := Lib.hid (below_step HB7.out HB713.out)
  have HX0C := Lib.hid (Kd.R_below HX0B.out HB1113.out)
  have HX1C := Lib.hid (Kd.R_below HX1B.out HB1113.out)
  have HX2C := Lib.hid (Kd.R_below HX2B.out HB1113.out)
  have HX3C := Lib.hid (Kd.S_below HX3B.out HB1113.out)
  have HBXS := Lib.hid (blk_below HBX.out HB713.out)
  have HG15 : Hid (W11.heap.size ≤ W12.heap.size) := Lib.hid HB12.out.size
  rw [← hW13]
  generalize W12.heap.size = g15 at HBX13 HG15 ⊢
  clear hb13 hbx13 hW13 HG12 HB12 HX0B HX1B HX2B HX3B
  -- the first look
  have p0 := (blk_cell HBXS.out 0).trans rfl
  have p1 := (blk_cell HBXS.out 1).trans rfl
  have p2 := (blk_cell HBXS.out 2).trans rfl
  have p3 := (blk_cell HBXS.out 3).trans rfl
  have q0 := (blk_cell HBX13.out 0).trans rfl
  have q1 := (blk_cell HBX13.out 1).trans rfl
  have q2 := (blk_cell HBX13.out 2).trans rfl
  have q3 := (blk_cell HBX13.out 3).trans rfl
  have HE1 := Lib.hid (HEQ.out W13 _ _ _ _ _ _ _ _ _ _ _ _ _ _ _ _ (HRD.out _ _ _ _ _ _ _ _ _ _ _ HG13.out) (HSR7.out.below HB713.out))
  go_upto_region 22 with (go_at_call 23; refine HE1.out.mono ?_; rintro e W14 ⟨rfl, hb⟩; have HB14 := Lib.hid hb; clear hb)
  clear p0 p1 p2 p3 q0 q1 q2 q3 HE1
  have HX0A := Lib.hid (fun V (hV : Below W13.heap.size W13 V) => Kd.C_below (Kd.R_reads' HX0C.out).2.2 hV)
  have HX1A := Lib.hid (fun V (hV : Below W13.heap.size W13 V) => Kd.C_below (Kd.R_reads' HX1C.out).2.2 hV)
  have HX2A := Lib.hid (fun V (hV : Below W13.heap.size W13 V) => Kd.C_below (Kd.R_reads' HX2C.out).2.2 hV)
  have HX3A := Lib.hid (fun V (hV : Below W13.heap.size W13 V) => Kd.C_below (Kd.S_reads' HX3C.out).2.2 hV)
  go_upto_region 30 with (first | (go_at_call 18; refine (HT.out _ (below_step HB013.out HB14.out)).mono ?_; rintro e W15 ⟨vt, rfl, ht, hb⟩; obtain ⟨At2, ct2, et⟩ := Kd.R_slice ht; subst et; have HT2 := Lib.hid (Kd.R_reads' ht); have HB15 := Lib.hid (below_step HB14.out hb); clear ht hb) | (go_at_call 24; refine (HET.out _ _ _ _ _ (HX0A.out _ HB15.out) (Kd.R_reads' HX0C.out).2.1 HT2.out.2.2 HT2.out.2.1).mono ?_; rintro e W16 ⟨rfl, hb⟩; have HB16 := Lib.hid (below_step HB15.out hb); clear hb) | (go_at_call 19; refine (HJ.out _ (below_step HB013.out HB16.out)).mono ?_; rintro e W17 ⟨vj, rfl, hj, hb⟩; obtain ⟨Aj2, cj2, ej⟩ := Kd.R_slice hj; subst ej; have HJ2 := Lib.hid (Kd.R_reads' hj); have HB17 := Lib.hid (below_step HB16.out hb); clear hj hb) | (go_at_call 25; refine (HEJ.out _ _ _ _ _ (HX1A.out _ HB17.out) (Kd.R_reads' HX1C.out).2.1 HJ2.out.2.2 HJ2.out.2.1).mono ?_; rintro e W18 ⟨rfl, hb⟩; have HB18 := Lib.hid (below_step HB17.out hb); clear hb) | (go_at_call 20; refine (HV.out _ (below_step HB013.out HB18.out)).mono ?_; rintro e W19 ⟨vs, rfl, hs, hb⟩; obtain ⟨As2, cs2, es⟩ := Kd.R_slice hs; subst es; have HV2 := Lib.hid (Kd.R_reads' hs); have HB19 := Lib.hid (below_step HB18.out hb); clear hs hb) | (go_at_call 26; refine (HEV.out _ _ _ _ _ (HX2A.out _ HB19.out) (Kd.R_reads' HX2C.out).2.1 HV2.out.2.2 HV2.out.2.1).mono ?_; rintro e W20 ⟨rfl, hb⟩; have HB20 := Lib.hid (below_step HB19.out hb); clear hb) | (go_at_call 21; refine (HA.out _ (below_step HB013.out HB20.out)).mono ?_; rintro e W21 ⟨vr, rfl, hr, hb⟩; obtain ⟨Ar2, cr2, er⟩ := Kd.S_slice hr; subst er; have HA2 := Lib.hid (Kd.S_reads' hr); have HB21 := Lib.hid (below_step HB20.out hb); clear hr hb) | (go_at_call 27; refine (HEA.out _ _ _ _ _ (HX3A.out _ HB21.out) (Kd.S_reads' HX3C.out).2.1 HA2.out.2.2 HA2.out.2.1).mono ?_; rintro e W22 ⟨rfl, hb⟩; have HB22 := Lib.hid (below_step HB21.out hb); clear hb))
  clear HX0A HX1A HX2A HX3A HB14 HB15 HB16 HB17 HB18 HB19 HB20 HB21 HT2 HJ2 HV2 HA2
  -- the marks of the arguments
  have HB722 := Lib.hid (below_step HB713.out HB22.out)
  have HM0 := Lib.hid (laws_markTaskS.calls kk _ _ ts 1 mt ts2 W7 W22 HB722.out (Kd.R_below HX0C.out HB22.out) HMM.out.1)
  go_upto_region 32 with (go_at_call 28; refine HM0.out.mono ?_; rintro e W23 ⟨rfl, _, hb, hk⟩; have HB23 := Lib.hid hb; have HK23 := Lib.hid hk; clear hb hk)
  have HX1D := Lib.hid (Kd.R_kept (Kd.R_below HX1C.out HB22.out) HK23.out (fun k h1 h2 => by
    have := h1.1
    have := h2.2
    omega))
  have HM1 := Lib.hid (laws_markJobS.calls kk _ _ js mt mj js2 W7 W23 HB23.out HX1D.out HMM.out.2.1)
  go_upto_region 33 with (go_at_call 29; refine HM1.out.mono ?_; rintro e W24 ⟨rfl, _, hb, hk⟩; have HB24 := Lib.hid hb; have HK24 := Lib.hid hk; clear hb hk)
  have HX2E := Lib.hid (Kd.R_kept (Kd.R_kept (Kd.R_below HX2C.out HB22.out) HK23.out (fun k h1 h2 => by
    have := h1.1
    have := h2.2
    have := HSZ.out.2.1
    omega)) HK24.out (fun k h1 h2 => by
    have := h1.1
    have := h2.2
    omega))
  have HM2 := Lib.hid (laws_markServerS.calls kk _ _ sv mj mv sv2 W7 W24 HB24.out HX2E.out HMM.out.2.2.1)
  go_upto_region 34 with (go_at_call 30; refine HM2.out.mono ?_; rintro e W25 ⟨rfl, _, hb, hk⟩; have HB25 := Lib.hid hb; have HK25 := Lib.hid hk; clear hb hk)
  have HX3F := Lib.hid (Kd.S_step (Kd.S_step (Kd.S_step (Kd.S_below HX3C.out HB22.out) (fun k h1 hlt => HK23.out.2 k hlt (fun h2 => by
    have := h1.1
    have := h2.2
    have := HSZ.out.2.1
    have := HSZ.out.2.2.1
    omega))) (fun k h1 hlt => HK24.out.2 k hlt (fun h2 => by
    have := h1.1
    have := h2.2
    have := HSZ.out.2.2.1
    omega))) (fun k h1 hlt => HK25.out.2 k hlt (fun h2 => by
    have := h1.1
    have := h2.2
    omega)))
  have HM3 := Lib.hid (markArrSS_calls kk _ _ _ rs mv ma W7 W25 HB25.out HX3F.out HMM.out.2.2.2)
  go_upto_region 35 with (go_at_call 31; refine HM3.out.mono ?_; rintro e W26 ⟨rfl, hb, hk⟩; have HB26 := Lib.hid hb; have HK26 := Lib.hid hk; clear hb hk)
  have hkeep : ∀ k, W11.heap.size ≤ k → k < W22.heap.size → W26.heap[k]? = W22.heap[k]? := fun k h1 h2 => by
    have z := HSZ.out
    have s3 := HK23.out.1
    have s4 := HK24.out.1
    have s5 := HK25.out.1
    have k3 := HK23.out.2 k h2 (fun h => by have := h.2; omega)
    have k4 := HK24.out.2 k (by omega) (fun h => by have := h.2; omega)
    have k5 := HK25.out.2 k (by omega) (fun h => by have := h.2; omega)
    have k6 := HK26.out.2 k (by omega) (fun h => by have := h.2; omega)
    rw [k6, k5, k4, k3]
  have hbx22 := blk_below HBX13.out HB22.out
  have HG26 := Lib.hid ((HG13.out.below HB22.out).keep hkeep)
  have HBX26 := Lib.hid ((hkeep g15 HG15.out (blk_lt hbx22)).trans hbx22)
  have HBXT := Lib.hid (blk_below HBX.out HB26.out)
  clear hkeep hbx22 HM0 HM1 HM2 HM3 HX1D HX2E HX3F HX0C HX1C HX2C HX3C HMM
  -- the second look
  have dm : decide (ma < 0) = false := decide_eq_false (by omega)
  have p0 := (blk_cell HBXT.out 0).trans rfl
  have p1 := (blk_cell HBXT.out 1).trans rfl
  have p2 := (blk_cell HBXT.out 2).trans rfl
  have p3 := (blk_cell HBXT.out 3).trans rfl
  have q0 := (blk_cell HBX26.out 0).trans rfl
  have q1 := (blk_cell HBX26.out 1).trans rfl
  have q2 := (blk_cell HBX26.out 2).trans rfl
  have q3 := (blk_cell HBX26.out 3).trans rfl
  have HE2 := Lib.hid (HEQ.out W26 _ _ _ _ _ _ _ _ _ _ _ _ _ _ _ _ (HRD.out _ _ _ _ _ _ _ _ _ _ _ HG26.out) (HSR7.out.below HB26.out))
  go_upto_region 37 with (go_at_call 23; refine HE2.out.mono ?_; rintro e W27 ⟨rfl, hb⟩; have HB27 := Lib.hid hb; clear hb)
  clear p0 p1 p2 p3 q0 q1 q2 q3 HE2 dm
  -- the marks of the run
  have HG27 := Lib.hid (HG26.out.below HB27.out)
  have HBX27 := Lib.hid (blk_below HBX26.out HB27.out)
  have HMK1 := Lib.hid (HMK.out W11.heap.size W27 _ _ _ _ _ _ _ _ us HG27.out (Nat.le_trans HG15.out (Nat.le_of_lt (blk_lt HBX27.out))))
  have q0 := (blk_cell HBX27.out 0).trans rfl
  have q1 := (blk_cell HBX27.out 1).trans rfl
  have q2 := (blk_cell HBX27.out 2).trans rfl
  have q3 := (blk_cell HBX27.out 3).trans rfl
  go_upto_region 39 with (go_at_call 32; refine HMK1.out.mono ?_; rintro e W28 ⟨rfl, hg, hb, hk⟩; have HG28 := Lib.hid hg; have HB28 := Lib.hid hb; have HK28 := Lib.hid hk; clear hg hb hk)
  clear q0 q1 q2 q3 HMK1
  have HBX28 := Lib.hid ((HK28.out.2 g15 (blk_lt HBX27.out) (HG27.out.off HBX27.out)).trans HBX27.out)
  have HB728 := Lib.hid ((below_step HB26.out HB27.out).trans (HB28.out.mono (by have z := HSZ.out; omega)))
  have HE3 := Lib.hid (HHD.out W28 _ _ _ _ _ _ _ _ _ us HG28.out)
  have q0 := (blk_cell HBX28.out 0).trans rfl
  have q1 := (blk_cell HBX28.out 1).trans rfl
  have q2 := (blk_cell HBX28.out 2).trans rfl
  have q3 := (blk_cell HBX28.out 3).trans rfl
  have dq : decide (Q < 0) = false := decide_eq_false (by omega)
  go_upto_region 45 with (go_at_call 33; refine HE3.out.mono ?_; rintro e W29 ⟨rfl, hb⟩; have HB29 := Lib.hid hb; clear hb)
  clear q0 q1 q2 q3 HE3
  have HB029 := Lib.hid (below_step (below_step HB7.out HB728.out) HB29.out)
  go_upto_region 46 with (first | (go_at_call 18; refine (HT.out _ HB029.out).mono ?_; rintro e W30 ⟨vt, rfl, ht, hb⟩; obtain ⟨At3, ct3, et⟩ := Kd.R_slice ht; subst et; have HT3 := Lib.hid (Kd.R_reads' ht); have HB30 := Lib.hid hb; clear ht hb) | (go_at_call 19; refine (HJ.out _ (below_step HB029.out HB30.out)).mono ?_; rintro e W31 ⟨vj, rfl, hj, hb⟩; obtain ⟨Aj3, cj3, ej⟩ := Kd.R_slice hj; subst ej; have HJ3 := Lib.hid (Kd.R_reads' hj); have HB31 := Lib.hid hb; clear hj hb) | (go_at_call 20; refine (HV.out _ (below_step (below_step HB029.out HB30.out) HB31.out)).mono ?_; rintro e W32 ⟨vs, rfl, hs, hb⟩; obtain ⟨As3, cs3, es⟩ := Kd.R_slice hs; subst es; have HV3 := Lib.hid (Kd.R_reads' hs); have HB32 := Lib.hid hb; clear hs hb) | (go_at_call 21; refine (HA.out _ (below_step (below_step (below_step HB029.out HB30.out) HB31.out) HB32.out)).mono ?_; rintro e W33 ⟨vr, rfl, hr, hb⟩; obtain ⟨Ar3, cr3, er⟩ := Kd.S_slice hr; subst er; have HA3 := Lib.hid (Kd.S_reads' hr); have HB33 := Lib.hid hb; clear hr hb) | (go_at_call 22; refine (HIMP.out _ _ _ _ _ _ _ _ _ (Kd.C_below HT3.out.2.2 (below_step (below_step HB31.out HB32.out) HB33.out)) HT3.out.2.1 (Kd.C_below HJ3.out.2.2 (below_step HB32.out HB33.out)) HJ3.out.2.1 (Kd.C_below HV3.out.2.2 HB33.out) HV3.out.2.1 HA3.out.2.2 HA3.out.2.1).mono ?_; rintro e W34 ⟨D0, u0, D1, u1, D2, u2, D3, u3, us2, rfl, hg, hb⟩; have HG34 := Lib.hid hg; have HB34 := Lib.hid hb; clear hg hb))
  obtain ⟨W35, hW35⟩ : ∃ W35, W35 = W34.alloc (.cells #[.slice D0 n0 u0, .slice D1 n1 u1, .slice D2 n2 u2, .slice D3 n3 u3] 35) := ⟨_, rfl⟩
  have hb35 : Below W34.heap.size W34 W35 := by rw [hW35]; exact below_alloc (Below.refl _ _) _
  have hbx35 : W35.heap[W34.heap.size]? = some (.cells #[.slice D0 n0 u0, .slice D1 n1 u1, .slice D2 n2 u2, .slice D3 n3 u3] 35 (0, 0)) := by rw [hW35]; exact blk_new _ _
  have HB2835 := Lib.hid (below_step (below_step (below_step (below_step (below_step (below_step HB29.out HB30.out) HB31.out) HB32.out) HB33.out) HB34.out) hb35)
  have HB735 := Lib.hid (below_step HB728.out HB2835.out)
  have HG35 := Lib.hid (HG34.out.below hb35)
  have HBX35 := Lib.hid hbx35
  rw [← hW35]
  generalize W34.heap.size = g19 at HBX35 ⊢
  clear hb35 hbx35 hW35
  have HBXU := Lib.hid (blk_below HBX.out HB735.out)
  have p0 := (blk_cell HBXU.out 0).trans rfl
  have p1 := (blk_cell HBXU.out 1).trans rfl
  have p2 := (blk_cell HBXU.out 2).trans rfl
  have p3 := (blk_cell HBXU.out 3).trans rfl
  have q0 := (blk_cell HBX35.out 0).trans rfl
  have q1 := (blk_cell HBX35.out 1).trans rfl
  have q2 := (blk_cell HBX35.out 2).trans rfl
  have q3 := (blk_cell HBX35.out 3).trans rfl
  have HE4 := Lib.hid (HEQ.out W35 _ _ _ _ _ _ _ _ _ _ _ _ _ _ _ _ (HRD.out _ _ _ _ _ _ _ _ _ _ _ HG35.out) (HSR7.out.below HB735.out))
  go_upto_region 48 with (go_at_call 23; refine HE4.out.mono ?_; rintro e W36 ⟨rfl, hb⟩; have HB36 := Lib.hid (below_step HB2835.out hb); clear hb)
  clear p0 p1 p2 p3 q0 q1 q2 q3 HE4
  have HBX36 := Lib.hid (blk_below HBX28.out HB36.out)
  have q0 := (blk_cell HBX36.out 0).trans rfl
  have q1 := (blk_cell HBX36.out 1).trans rfl
  have q2 := (blk_cell HBX36.out 2).trans rfl
  have q3 := (blk_cell HBX36.out 3).trans rfl
  have HE5 := Lib.hid (HHD.out W36 _ _ _ _ _ _ _ _ _ us (HG28.out.below HB36.out))
  go_wp2_with (go_at_call 33; refine HE5.out.mono ?_; rintro e W37 ⟨rfl, hb⟩; have HB37 := Lib.hid hb; clear hb)
  go_ret
  exact ⟨rfl, below_step (below_step (below_step HB7.out HB728.out) HB36.out) HB37.out⟩


set_option maxHeartbeats 2000000 in
set_option maxRecDepth 100000 in
theorem slaw_e0 (A0 : Option Addr) (c0 : Nat) (l0 : (List (S105))) (v1 : Value) (v2 : Value) (v3 : Value) (w : World) (hr0 : Kd.C k105 w A0 l0.length l0) (hc0 : l0.length ≤ c0)
    (a : Int) (ha : a < 0) (hz0 : laws_szTaskS.f l0 1048576 = some a) :
    Calls Try.prog 3 #[.slice A0 l0.length c0, v1, v2, v3] w fun e w' => e = .returned (.bool true) ∧ Below w.heap.size w w' := by
  have HZ0 := Lib.hid (fun V (hB : Below w.heap.size w V) => laws_szTaskS.calls A0 c0 l0 1048576 a V (Kd.C_below hr0 hB) hc0 hz0)
  have d0 : decide (a < 0) = true := decide_eq_true (by omega)
  have HB := Aside0.mk (Below.refl w.heap.size w)
  clear hr0 hc0 hz0
  go_enter Try.func3, Try.ntmps3
  go_wp2_with (go_at_call 13; refine (HZ0.out _ HB.out).mono ?_; rintro e w1 ⟨rfl, hd⟩; have HB1 := Lib.hid (below_drawn HB.out hd); clear hd)
  go_ret
  exact ⟨rfl, HB1.out⟩
set_option maxHeartbeats 2000000 in
set_option maxRecDepth 100000 in
theorem slaw_e1 (A0 : Option Addr) (c0 : Nat) (l0 : (List (S105))) (A1 : Option Addr) (c1 : Nat) (l1 : (List (S107))) (v2 : Value) (v3 : Value) (w : World) (hr0 : Kd.C k105 w A0 l0.length l0) (hc0 : l0.length ≤ c0) (hr1 : Kd.C k107 w A1 l1.length l1) (hc1 : l1.length ≤ c1)
    (a b : Int) (ha : 0 ≤ a) (hb : b < 0) (hz0 : laws_szTaskS.f l0 1048576 = some a) (hz1 : laws_szJobS.f l1 a = some b) :
    Calls Try.prog 3 #[.slice A0 l0.length c0, .slice A1 l1.length c1, v2, v3] w fun e w' => e = .returned (.bool true) ∧ Below w.heap.size w w' := by
  have HZ0 := Lib.hid (fun V (hB : Below w.heap.size w V) => laws_szTaskS.calls A0 c0 l0 1048576 a V (Kd.C_below hr0 hB) hc0 hz0)
  have d0 : decide (a < 0) = false := decide_eq_false (by omega)
  have HZ1 := Lib.hid (fun V (hB : Below w.heap.size w V) => laws_szJobS.calls A1 c1 l1 a b V (Kd.C_below hr1 hB) hc1 hz1)
  have d1 : decide (b < 0) = true := decide_eq_true (by omega)
  have HB := Aside0.mk (Below.refl w.heap.size w)
  clear hr0 hc0 hz0 hr1 hc1 hz1
  go_enter Try.func3, Try.ntmps3
  go_wp2_with (first | (go_at_call 13; refine (HZ0.out _ HB.out).mono ?_; rintro e w1 ⟨rfl, hd⟩; have HB1 := Lib.hid (below_drawn HB.out hd); clear hd) | (go_at_call 14; refine (HZ1.out _ HB1.out).mono ?_; rintro e w2 ⟨rfl, hd⟩; have HB2 := Lib.hid (below_drawn HB1.out hd); clear hd))
  go_ret
  exact ⟨rfl, HB2.out⟩
set_option maxHeartbeats 2000000 in
set_option maxRecDepth 100000 in
theorem slaw_e2 (A0 : Option Addr) (c0 : Nat) (l0 : (List (S105))) (A1 : Option Addr) (c1 : Nat) (l1 : (List (S107))) (A2 : Option Addr) (c2 : Nat) (l2 : (List (S111))) (v3 : Value) (w : World) (hr0 : Kd.C k105 w A0 l0.length l0) (hc0 : l0.length ≤ c0) (hr1 : Kd.C k107 w A1 l1.length l1) (hc1 : l1.length ≤ c1) (hr2 : Kd.C k111 w A2 l2.length l2) (hc2 : l2.length ≤ c2)
    (a b d : Int) (ha : 0 ≤ a) (hb : 0 ≤ b) (hd : d < 0) (hz0 : laws_szTaskS.f l0 1048576 = some a) (hz1 : laws_szJobS.f l1 a = some b) (hz2 : laws_szServerS.f l2 b = some d) :
    Calls Try.prog 3 #[.slice A0 l0.length c0, .slice A1 l1.length c1, .slice A2 l2.length c2, v3] w fun e w' => e = .returned (.bool true) ∧ Below w.heap.size w w' := by
  have HZ0 := Lib.hid (fun V (hB : Below w.heap.size w V) => laws_szTaskS.calls A0 c0 l0 1048576 a V (Kd.C_below hr0 hB) hc0 hz0)
  have d0 : decide (a < 0) = false := decide_eq_false (by omega)
  have HZ1 := Lib.hid (fun V (hB : Below w.heap.size w V) => laws_szJobS.calls A1 c1 l1 a b V (Kd.C_below hr1 hB) hc1 hz1)
  have d1 : decide (b < 0) = false := decide_eq_false (by omega)
  have HZ2 := Lib.hid (fun V (hB : Below w.heap.size w V) => laws_szServerS.calls A2 c2 l2 b d V (Kd.C_below hr2 hB) hc2 hz2)
  have d2 : decide (d < 0) = true := decide_eq_true (by omega)
  have HB := Aside0.mk (Below.refl w.heap.size w)
  clear hr0 hc0 hz0 hr1 hc1 hz1 hr2 hc2 hz2
  go_enter Try.func3, Try.ntmps3
  go_wp2_with (first | (go_at_call 13; refine (HZ0.out _ HB.out).mono ?_; rintro e w1 ⟨rfl, hd⟩; have HB1 := Lib.hid (below_drawn HB.out hd); clear hd) | (go_at_call 14; refine (HZ1.out _ HB1.out).mono ?_; rintro e w2 ⟨rfl, hd⟩; have HB2 := Lib.hid (below_drawn HB1.out hd); clear hd) | (go_at_call 15; refine (HZ2.out _ HB2.out).mono ?_; rintro e w3 ⟨rfl, hd⟩; have HB3 := Lib.hid (below_drawn HB2.out hd); clear hd))
  go_ret
  exact ⟨rfl, HB3.out⟩
set_option maxHeartbeats 2000000 in
set_option maxRecDepth 100000 in
theorem slaw_e3 (kk : Nat) (A0 : Option Addr) (c0 : Nat) (l0 : (List (S105))) (A1 : Option Addr) (c1 : Nat) (l1 : (List (S107))) (A2 : Option Addr) (c2 : Nat) (l2 : (List (S111))) (A3 : Option Addr) (c3 : Nat) (l3 : (List (List (S173)))) (w : World) (hr0 : Kd.C k105 w A0 l0.length l0) (hc0 : l0.length ≤ c0) (hr1 : Kd.C k107 w A1 l1.length l1) (hc1 : l1.length ≤ c1) (hr2 : Kd.C k111 w A2 l2.length l2) (hc2 : l2.length ≤ c2) (hr3 : Kd.C (Kd.slice 173 k173) w A3 l3.length l3) (hc3 : l3.length ≤ c3)
    (a b d f : Int) (ha : 0 ≤ a) (hb : 0 ≤ b) (hd : 0 ≤ d) (hf : f < 0) (hz0 : laws_szTaskS.f l0 1048576 = some a) (hz1 : laws_szJobS.f l1 a = some b) (hz2 : laws_szServerS.f l2 b = some d) (hz3 : laws_szArrivalSS.f kk l3 d = some f) :
    Calls Try.prog 3 #[.slice A0 l0.length c0, .slice A1 l1.length c1, .slice A2 l2.length c2, .slice A3 l3.length c3] w fun e w' => e = .returned (.bool true) ∧ Below w.heap.size w w' := by
  have HZ0 := Lib.hid (fun V (hB : Below w.heap.size w V) => laws_szTaskS.calls A0 c0 l0 1048576 a V (Kd.C_below hr0 hB) hc0 hz0)
  have d0 : decide (a < 0) = false := decide_eq_false (by omega)
  have HZ1 := Lib.hid (fun V (hB : Below w.heap.size w V) => laws_szJobS.calls A1 c1 l1 a b V (Kd.C_below hr1 hB) hc1 hz1)
  have d1 : decide (b < 0) = false := decide_eq_false (by omega)
  have HZ2 := Lib.hid (fun V (hB : Below w.heap.size w V) => laws_szServerS.calls A2 c2 l2 b d V (Kd.C_below hr2 hB) hc2 hz2)
  have d2 : decide (d < 0) = false := decide_eq_false (by omega)
  have HZ3 := Lib.hid (fun V (hB : Below w.heap.size w V) => laws_szArrivalSS.calls kk A3 c3 l3 d f V (Kd.C_below hr3 hB) hc3 hz3)
  have d3 : decide (f < 0) = true := decide_eq_true (by omega)
  have HB := Aside0.mk (Below.refl w.heap.size w)
  clear hr0 hc0 hz0 hr1 hc1 hz1 hr2 hc2 hz2 hr3 hc3 hz3
  go_enter Try.func3, Try.ntmps3
  go_wp2_with (first | (go_at_call 13; refine (HZ0.out _ HB.out).mono ?_; rintro e w1 ⟨rfl, hd⟩; have HB1 := Lib.hid (below_drawn HB.out hd); clear hd) | (go_at_call 14; refine (HZ1.out _ HB1.out).mono ?_; rintro e w2 ⟨rfl, hd⟩; have HB2 := Lib.hid (below_drawn HB1.out hd); clear hd) | (go_at_call 15; refine (HZ2.out _ HB2.out).mono ?_; rintro e w3 ⟨rfl, hd⟩; have HB3 := Lib.hid (below_drawn HB2.out hd); clear hd) | (go_at_call 16; refine (HZ3.out _ HB3.out).mono ?_; rintro e w4 ⟨rfl, hd⟩; have HB4 := Lib.hid (below_drawn HB3.out hd); clear hd))
  go_ret
  exact ⟨rfl, HB4.out⟩

end Go.Proofs.Ytonifhkplniblaa.Print

namespace Go.Proofs.Ytonifhkplniblaa.Print
open Go.RowKit Go.Proofs.YtonifhkplniblaaW.PrintWords Go.Proofs.YtonifhkplniblaaW.PrintMore Go.Proofs.Ytonifhkplniblaa.Evs Go.Proofs.Ytonifhkplniblaa.Opens Go.Proofs.Ytonifhkplniblaa.Walk
set_option linter.unusedSimpArgs false
set_option linter.unusedVariables false
set_option maxHeartbeats 2000000 in
theorem slaw_all (A0 : Option Addr) (c0 : Nat) (l0 : List (S105)) (A1 : Option Addr) (c1 : Nat) (l1 : List (S107)) (A2 : Option Addr) (c2 : Nat) (l2 : List (S111)) (A3 : Option Addr) (c3 : Nat) (l3 : List (List (S173))) (w : World)
    (hr0 : Kd.C k105 w A0 l0.length l0) (hc0 : l0.length ≤ c0) (hr1 : Kd.C k107 w A1 l1.length l1) (hc1 : l1.length ≤ c1) (hr2 : Kd.C k111 w A2 l2.length l2) (hc2 : l2.length ≤ c2) (hr3 : Kd.C (Kd.slice 173 k173) w A3 l3.length l3) (hc3 : l3.length ≤ c3)
    (hw0 : l0.length ≤ 9223372036854775807) (hw1 : l1.length ≤ 9223372036854775807) (hw2 : l2.length ≤ 9223372036854775807) (hw3 : l3.length ≤ 9223372036854775807) (hw4 : ∀ x ∈ l3, x.length ≤ 9223372036854775807) :
    Calls Try.prog 3 #[.slice A0 l0.length c0, .slice A1 l1.length c1, .slice A2 l2.length c2, .slice A3 l3.length c3] w fun e w' => e = .returned (.bool true) ∧ Below w.heap.size w w' := by
  have hz0 := szTaskS_f l0 1048576 (by omega) (by omega) hw0
  by_cases g0 : (1048576 : Int) < l0.length
  · rw [if_pos g0] at hz0
    exact slaw_e0 A0 c0 l0 _ _ _ w hr0 hc0 _ (by omega) hz0
  rw [if_neg g0] at hz0
  have hz1 := szJobS_f l1 (1048576 - l0.length) (by omega) (by omega) hw1
  by_cases g1 : (1048576 - l0.length : Int) < l1.length
  · rw [if_pos g1] at hz1
    exact slaw_e1 A0 c0 l0 A1 c1 l1 _ _ w hr0 hc0 hr1 hc1 _ _ (by omega) (by omega) hz0 hz1
  rw [if_neg g1] at hz1
  have hz2 := szServerS_f l2 (1048576 - l0.length - l1.length) (by omega) (by omega) hw2
  by_cases g2 : (1048576 - l0.length - l1.length : Int) < l2.length
  · rw [if_pos g2] at hz2
    exact slaw_e2 A0 c0 l0 A1 c1 l1 A2 c2 l2 _ w hr0 hc0 hr1 hc1 hr2 hc2 _ _ _ (by omega) (by omega) (by omega) hz0 hz1 hz2
  rw [if_neg g2] at hz2
  obtain ⟨f, ⟨kZ, hZ⟩, hfv⟩ := szArrivalSS_ev l3 (1048576 - l0.length - l1.length - l2.length) (by omega) (by omega) hw3 (fun i => by
    by_cases hi : i < l3.length
    · rw [List.getD_eq_getElem?_getD, List.getElem?_eq_getElem hi]
      exact hw4 _ (List.getElem_mem hi)
    · rw [List.getD_eq_getElem?_getD, List.getElem?_eq_none (by omega)]
      simp)
  rcases hfv with hfn | ⟨hf, hl3, hta, hrw⟩
  · exact slaw_e3 kZ A0 c0 l0 A1 c1 l1 A2 c2 l2 A3 c3 l3 w hr0 hc0 hr1 hc1 hr2 hc2 hr3 hc3 _ _ _ _ (by omega) (by omega) (by omega) hfn hz0 hz1 hz2 (hZ _ (Nat.le_refl _))
  have hl0 : l0.length ≤ 1048576 := by omega
  have hl1 : l1.length ≤ 1048576 := by omega
  have hl2 : l2.length ≤ 1048576 := by omega
  have hm0 : (l0.map cvTask).length = l0.length := by simp
  have hm1 : (l1.map cvJob).length = l1.length := by simp
  have hm2 : (l2.map cvServer).length = l2.length := by simp
  have hm3 : (cvArrs l3).length = l3.length := by simp [cvArrs]
  have hm4 : totA (cvArrs l3) = totA l3 := totA_cv l3
  have hm5 : ∀ i, ((cvArrs l3).getD i []).length ≤ 1048576 := fun i => by rw [cvArrs_len]; exact hrw i
  obtain ⟨kT, hT⟩ := toTaskS_ev l0 hl0
  obtain ⟨kJ, hJ⟩ := toJobS_ev l1 hl1
  obtain ⟨kV, hV⟩ := toServerS_ev l2 hl2
  obtain ⟨kA, hA⟩ := toArrivalSS_ev l3 hl3 hrw
  obtain ⟨x, hx⟩ : ∃ x, x = l0.map cvTask := ⟨_, rfl⟩
  obtain ⟨y, hy⟩ : ∃ y, y = l1.map cvJob := ⟨_, rfl⟩
  obtain ⟨z, hz⟩ : ∃ z, z = l2.map cvServer := ⟨_, rfl⟩
  obtain ⟨u, hu⟩ : ∃ u, u = cvArrs l3 := ⟨_, rfl⟩
  rw [← hx] at hT hm0
  rw [← hy] at hJ hm1
  rw [← hz] at hV hm2
  rw [← hu] at hA hm3 hm4 hm5
  have hmem : ∀ r ∈ u, r.length ≤ 1048576 := fun r hr => by
    obtain ⟨i, hi, e⟩ := List.getElem_of_mem hr
    have := hm5 i
    rw [List.getD_eq_getElem?_getD, List.getElem?_eq_getElem hi] at this
    rw [← e]
    exact this
  obtain ⟨kET, hET⟩ := eqTaskS_ev x (by omega)
  obtain ⟨kEJ, hEJ⟩ := eqJobS_ev y (by omega)
  obtain ⟨kEV, hEV⟩ := eqServerS_ev z (by omega)
  obtain ⟨kEA, hEA⟩ := eqArrivalSS_ev u (by omega) hm5
  obtain ⟨t1, kMT, hMT⟩ := markTaskS_ev x 1 (by omega) (by omega) (by omega)
  obtain ⟨t2, kMJ, hMJ⟩ := markJobS_ev y (1 + 3 * (x.length : Int)) (by omega) (by omega) (by omega)
  obtain ⟨t3, kMV, hMV⟩ := markServerS_ev z (1 + 3 * (x.length : Int) + 4 * (y.length : Int)) (by omega) (by omega) (by omega)
  obtain ⟨kMA, hMA⟩ := markRowsA_ev u (1 + 3 * (x.length : Int) + 4 * (y.length : Int) + 2 * (z.length : Int)) (by omega) (by omega) hm5
  have htp := totA_pos u
  have hsm := resS_small x y z u
  have hSP := fun V At ct Aj cj As cs Ar cr (h1 : Kd.C k62 V At x.length x) (h2 : x.length ≤ ct) (h3 : Kd.C k67 V Aj y.length y) (h4 : y.length ≤ cj) (h5 : Kd.C k109 V As z.length z) (h6 : z.length ≤ cs) (h7 : Kd.C (Kd.slice 164 k164) V Ar u.length u) (h8 : u.length ≤ cr) => specServers_any At ct x Aj cj y As cs z Ar cr u V h1 h2 h3 h4 h5 h6 h7 h8 (by omega) (by omega) (by omega) hmem
  have hIM := fun V At ct Aj cj As cs Ar cr (h1 : Kd.C k62 V At x.length x) (h2 : x.length ≤ ct) (h3 : Kd.C k67 V Aj y.length y) (h4 : y.length ≤ cj) (h5 : Kd.C k109 V As z.length z) (h6 : z.length ≤ cs) (h7 : Kd.C (Kd.slice 164 k164) V Ar u.length u) (h8 : u.length ≤ cr) => runServers_any At ct x Aj cj y As cs z Ar cr u V h1 h2 h3 h4 h5 h6 h7 h8 hmem
  obtain ⟨R, hR⟩ : ∃ R, R = resS x y z u := ⟨_, rfl⟩
  rw [← hR] at hSP hIM hsm
  obtain ⟨s0, s1, s2, s3, s4⟩ := hsm
  obtain ⟨kER, hER⟩ := eqRunS_ev R (by omega) (by omega) (by omega) (by omega) (fun i => by have := s4 i; omega)
  obtain ⟨kH, hH⟩ := heldRunS_ev 1 R (by omega) (by omega) s0 s1 s2 s3 s4
  have hQ : 0 ≤ mkResN 1 R := (mkN_bound (a := 1 + (R.1.length : Int) + (R.2.1.length : Int) + (R.2.2.1.length : Int)) s4 (by omega) R.2.2.2.length).1
  obtain ⟨kk, hk⟩ : ∃ kk, kk = kZ + kT + kJ + kV + kA + kET + kEJ + kEV + kEA + kMT + kMJ + kMV + kMA + kER + kH := ⟨_, rfl⟩
  refine slaw kk A0 c0 l0 A1 c1 l1 A2 c2 l2 A3 c3 l3 w hr0 hc0 hr1 hc1 hr2 hc2 hr3 hc3 _ _ _ _ (by omega) (by omega) (by omega) hf x y z u R (mkRes 1 R) R.1.length R.2.1.length R.2.2.1.length R.2.2.2.length (mkResN 1 R) _ _ _ _ t1 t2 t3 hz0 hz1 hz2 (hZ _ (by omega)) (hT _ (by omega)) (hJ _ (by omega)) (hV _ (by omega)) (hA _ (by omega)) (hET _ (by omega)) (hEJ _ (by omega)) (hEV _ (by omega)) (hEA _ (by omega)) (hMT _ (by omega)) (hMJ _ (by omega)) (hMV _ (by omega)) (hMA _ (by omega)) (by omega) hQ hSP ?_ (fun W base _ _ _ _ _ _ _ _ us h => h.rd s3) (fun V _ _ _ _ _ _ _ _ _ _ _ _ _ _ _ _ h1 h2 => eqRun_calls kk h1 h2 (hER _ (by omega))) (fun B V _ _ _ _ _ _ _ _ us h hle => markRunS_calls B V _ _ _ _ us R 1 V s0 s1 s2 s3 s4 (by omega) (by omega) h (Below.refl _ _) hle) (fun V base _ _ _ _ _ _ _ _ us h => heldRun_calls kk 1 _ h s3 (hH _ (by omega)))
  intro V At ct Aj cj As cs Ar cr h1 h2 h3 h4 h5 h6 h7 h8
  refine (hIM V At ct Aj cj As cs Ar cr h1 h2 h3 h4 h5 h6 h7 h8).mono ?_
  rintro e w' ⟨v0, v1, v2, v3, us, rfl, h, hb⟩
  obtain ⟨B0, d0, B1, d1, B2, d2, B3, d3, rfl, rfl, rfl, rfl⟩ := h.slices s3
  exact ⟨B0, d0, B1, d1, B2, d2, B3, d3, us, rfl, h, hb⟩
end Go.Proofs.Ytonifhkplniblaa.Print
