/- What the program and the reference compute, and that both agree. No condition. -/
import Derived.Test.YtonifhkplniblaaYFnExactRunGlobalX0
import Derived.Test.YtonifhkplniblaaYFnExactRunGlobalP3
import Derived.Test.YtonifhkplniblaaYFnExactRunGlobalPO
import Derived.Test.YtonifhkplniblaaYFnExactRunGlobalPB
import Derived.Test.YtonifhkplniblaaYFnExactRunGlobalWalk
import Derived.Lib.Hide
import Derived.Deep.DeepMust
import Derived.Deep.QuietTactic
import Derived.BigQuiet
import Derived.Lib.LazyBuf
import Derived.Deep.RegionHeld3
import Derived.Deep.LoopGhost
import Derived.Test.YtonifhkplniblaaYFnExactRunGlobalRR
import Derived.Test.YtonifhkplniblaaYFnExactRunGlobalP2
import Derived.Test.YtonifhkplniblaaYFnExactRunGlobalP0
namespace Go.Proofs.Ytonifhkplniblaa.Print
open Go.RowKit Go.Proofs.YtonifhkplniblaaW.PrintWords Go.Proofs.Ytonifhkplniblaa.Evs Go.Proofs.Ytonifhkplniblaa.Opens
set_option linter.unusedSimpArgs false
set_option linter.unusedVariables false
theorem wrap4 {m : Int} (h0 : 0 ≤ m) (h1 : m ≤ 100000000) : wrap64 ((wrap64 ((wrap64 ((wrap64 (m + 1)) + 1)) + 1)) + 1) = m + 4 := by
  rw [wrap_id (n := m + 1) (by omega) (by omega), wrap_id (n := m + 1 + 1) (by omega) (by omega), wrap_id (n := m + 1 + 1 + 1) (by omega) (by omega), wrap_id (n := m + 1 + 1 + 1 + 1) (by omega) (by omega)]
  omega
def jm (l : List Job) (j : Nat) : Job := l.getD j z67
theorem rd_jm (l : List Job) (j : Nat) : rd_T67 l (j : Int) = jm l j := rfl
theorem jm_set (l : List Job) (v : Job) {j : Nat} (h : j < l.length) : jm (l.set j v) j = v := by
  unfold jm; simp [List.getD_eq_getElem?_getD, List.getElem?_set, h]
theorem markJobS_at : ∀ (d j : Nat) (l : List Job) (m : Int), j + d = l.length → 0 ≤ m → m + 4 * d ≤ 100000000 → l.length ≤ 1048576 → ∃ l', Tl (fun k => laws_markJobS.l0 k l m (j : Int)) (m + 4 * d, l')
  | 0, j, l, m, e, h0, h1, h2 => by
    refine ⟨l, Tl.step ?_⟩
    simp only [laws_markJobS.l0]
    exact Tl.iteF (by omega) (Tl.cast (Tl.ret _) (by rw [show m + 4 * ((0 : Nat) : Int) = m by omega]))
  | d + 1, j, l, m, e, h0, h1, h2 => by
    have key : ∀ x : List Job, x.length = l.length → ∃ l', Tl (fun k => laws_markJobS.l0 k x (m + 4) ((j + 1 : Nat) : Int)) (m + 4 + 4 * d, l') := fun x hx => markJobS_at d (j + 1) x (m + 4) (by omega) (by omega) (by omega) (by omega)
    have hj : j < l.length := by omega
    obtain ⟨l', hl'⟩ := key (l.set j ⟨m, wrap64 (m + 1), wrap64 ((wrap64 (m + 1)) + 1), wrap64 ((wrap64 ((wrap64 (m + 1)) + 1)) + 1)⟩) (by rw [List.length_set])
    refine ⟨l', Tl.step ?_⟩
    simp only [laws_markJobS.l0, rd_jm, Int.toNat_natCast, Option.bind_some]
    simp only [List.set_set, jm_set _ _ hj, List.length_set]
    rw [wrap4 h0 (by omega), wrap_succ (n := l.length) (by omega) (by omega)]
    exact Tl.iteT (by omega) (Tl.iteT (by omega) (Tl.cast hl' (by rw [show m + 4 + 4 * (d : Int) = m + 4 * ((d + 1 : Nat) : Int) by omega])))
theorem markJobS_ev (l : List Job) (m : Int) (h0 : 0 ≤ m) (h1 : m ≤ 10000000) (hl : l.length ≤ 1048576) : ∃ l', Tl (fun k => laws_markJobS.f k l m) (m + 4 * l.length, l') :=
  markJobS_at l.length 0 l m (by omega) h0 (by omega) hl
end Go.Proofs.Ytonifhkplniblaa.Print

namespace Go.Proofs.Ytonifhkplniblaa.Print
open Go.RowKit Go.Proofs.YtonifhkplniblaaW.PrintWords Go.Proofs.Ytonifhkplniblaa.Evs Go.Proofs.Ytonifhkplniblaa.Opens
set_option linter.unusedSimpArgs false
abbrev LJob := S107
def cvJob (x : LJob) : Job := ⟨x.f0, x.f1, x.f2, x.f3⟩
theorem toJobS_ev (l : List LJob) (hl : l.length ≤ 1048576) : Tl (fun k => laws_toJobS.f k l) (l.map cvJob) := by
  unfold laws_toJobS.f
  have c1 := eq_true (show 0 ≤ (l.length : Int) by omega)
  have c2 := eq_true (show l.length ≤ 8796093022208 by omega)
  simp only [c1, c2, if_true, Int.toNat_natCast]
  have hlen : (l.map cvJob).length = l.length := by simp
  have key := down (Q := fun j => Tl (fun k => laws_toJobS.l0 k l ((l.map cvJob).take j ++ List.replicate ((l.map cvJob).length - j) z67) (j : Int)) (l.map cvJob)) l.length ?_ ?_
  · rw [fill_zero, hlen] at key; exact key
  · refine Tl.step ?_
    have c3 := eq_false (show ¬ ((l.length : Int) < (l.length : Int)) by omega)
    rw [← hlen, fill_end]
    simp only [hlen]
    simp only [laws_toJobS.l0, c3, if_false]
    exact Tl.ret _
  · intro j hj h
    refine Tl.step ?_
    have c3 := eq_true (show (j : Int) < (l.length : Int) by omega)
    have c4 := eq_true (show 0 ≤ (j : Int) by omega)
    have c5 := eq_true (show (j : Int) < (((l.map cvJob).take j ++ List.replicate ((l.map cvJob).length - j) z67).length : Int) by rw [fill_len _ _ (by omega)]; omega)
    simp only [laws_toJobS.l0, c3, c4, c5, if_true, laws_toJob.f, Option.bind_some, Int.toNat_natCast]
    rw [fill_set _ _ (by omega) _ (by rw [getD_map cvJob l j z107 _ hj]; rfl), wrap_succ hj (by omega)]
    exact h
theorem szJobS_f (l : List LJob) (a : Int) (h0 : 0 ≤ a) (h1 : a ≤ 1048576) (hl : l.length ≤ 9223372036854775807) : laws_szJobS.f l a = some (if a < l.length then -1 else a - l.length) := by
  unfold laws_szJobS.f
  rw [wrap_id (by omega) (by omega)]
  by_cases h : a < l.length
  · rw [if_pos (by omega), if_pos h]
  · rw [if_neg (by omega), if_neg h]
end Go.Proofs.Ytonifhkplniblaa.Print

namespace Go.Proofs.Ytonifhkplniblaa.Print
open Go.RowKit Go.Proofs.YtonifhkplniblaaW.PrintWords Go.Proofs.YtonifhkplniblaaW.PrintLast Go.Proofs.YtonifhkplniblaaW.PrintMore
attribute [local go_sem] max2_int min2_int max_two min_two max_three min_three max_four min_four
set_option linter.unusedVariables false
set_option linter.unusedSimpArgs false
open Go.Proofs.Ytonifhkplniblaa.Walk
theorem repl_getD {α : Type} (n : Nat) (x : α) (i : Nat) : (List.replicate n x).getD i x = x := by
  rw [List.getD_eq_getElem?_getD, List.getElem?_replicate]
  split <;> rfl
theorem made_rows : madeCells #[Value.slice none 0 0] 120 = (List.replicate 120 nilV).toArray := by kernel_rfl
theorem gr_made {Wf : World} {base gr : Nat} (h : Wf.heap[gr]? = some (.cells (madeCells #[.slice none 0 0] 120) 30 (0, 0))) : Gr Wf base gr (List.replicate 120 nilV) (List.replicate 120 []) where
  blk := by rw [h, made_rows]
  len := by simp
  row := fun i hi => by
    rw [List.length_replicate] at hi
    have e1 : (List.replicate 120 nilV).getD i nilV = nilV := repl_getD _ _ _
    have e2 : (List.replicate 120 ([] : List Int)).getD i [] = [] := repl_getD _ _ _
    rw [e1, e2]
    exact Kd.RR_nil _ _ _ _ _
  apart := fun i j k hi hj hij he => by
    have e1 : (List.replicate 120 nilV).getD i nilV = nilV := repl_getD _ _ _
    rw [e1] at he
    cases he
/-- Where the simulation begins. -/
theorem GI_start {w w3 w5 Wf : World} {g go gr base3 base5 c : Nat} {A : Option Addr} {dv fv : Value} {jobs : List (S67)} (hBW : Below w.heap.size w w3) (hW3 : w.heap.size + 2 ≤ w3.heap.size) (hB5 : Below w3.heap.size w3 w5) (hWB : Below w.heap.size w Wf) (hfar : ∀ k, k < w5.heap.size → k ≠ go → Wf.heap[k]? = w5.heap[k]?)
    (hg : w3.heap[g]? = some (.cells #[.slice A jobs.length c, dv, .int .i64 0] 124 (0, 0))) (hgw : w.heap.size ≤ g)
    (hbx : w3.heap[w.heap.size]? = some (.cells #[.slice A jobs.length c] 39 (0, 0))) (hrs : w3.heap[w.heap.size + 1]? = some (.cells #[.slice none 0 0, .slice none 0 0] 80 (0, 0)))
    (hrd : Kd.R (Kd.int .i64) 3 w3 base3 (fun _ => True) dv (List.replicate jobs.length 0)) (hb3 : w.heap.size ≤ base3)
    (hrf : Kd.R (Kd.int .i64) 3 w5 base5 (fun _ => True) fv (List.replicate jobs.length (-1))) (hb5 : w3.heap.size ≤ base5)
    (hgo : w3.heap.size ≤ go) (hgfo : ∀ k, fv.ownBlock = some k → k ≠ go) (hO : Wf.heap[go]? = some (.cells #[.slice (some ⟨gr, 0, none⟩) 120 120, fv] 80 (0, 0))) (hgr : w3.heap.size ≤ gr)
    (hR : Wf.heap[gr]? = some (.cells (madeCells #[.slice none 0 0] 120) 30 (0, 0))) :
    GI w g go (w.heap.size + 1) w.heap.size gr A c jobs dv fv Wf (List.replicate jobs.length 0) (List.replicate jobs.length (-1)) 0 (List.replicate 120 nilV) (List.replicate 120 []) ∧
    GD w g go (w.heap.size + 1) w.heap.size gr dv fv (List.replicate 120 nilV) := by
  have hs := hB5.size
  have hgl := blk_lt hg
  have hdl : ∀ k, dv.ownBlock = some k → k < w3.heap.size := Kd.R_lt hrd
  have hfb : ∀ k, fv.ownBlock = some k → base5 ≤ k := Kd.R_base hrf
  have far : ∀ (k : Nat) (o : Obj), w3.heap[k]? = some o → Wf.heap[k]? = some o := fun k o h => by
    have hk := blk_lt h
    rw [hfar k (by omega) (by omega)]
    exact blk_below h hB5
  refine ⟨⟨far _ _ hg, hO, far _ _ hrs, far _ _ hbx, gr_made hR, ?_, ?_, hWB⟩, hgw, by omega, by omega, Nat.le_refl _, by omega, by omega, ?_, ?_⟩
  · refine row_stepG (Kd.R_lower hrd hb3) (fun k e hlt => ?_)
    have := hdl k e
    rw [hfar k (by omega) (by omega)]
    exact hB5.block k (hdl k e)
  · exact row_stepG (Kd.R_lower hrf (by omega)) (fun k e hlt => hfar k hlt (hgfo k e))
  · intro k e h
    have := hdl k e
    have := hfb k h
    omega
  · intro i k hi he
    have e1 : (List.replicate 120 nilV).getD i nilV = nilV := repl_getD _ _ _
    rw [e1] at he
    cases he
set_option maxHeartbeats 8000000 in
set_option maxRecDepth 100000 in
theorem runGlobal_calls (A0 : Option Addr) (c0 : Nat) (l0 : List (S62)) (A : Option Addr) (c : Nat) (jobs : List (S67)) (cores : Nat) (w : World) (hr0 : Kd.C k62 w A0 l0.length l0) (hc0 : l0.length ≤ c0) (hj : Kd.C k67 w A jobs.length jobs) (hc : jobs.length ≤ c)
    (hleg : impl_JobsLegal.f l0 jobs = some true) (hcor : impl_isCores.f (cores : Int) = some true) (h19 : jobs.length ≤ 100) (hc1 : 1 ≤ cores) (hc5 : cores ≤ 5) :
    Calls Try.prog 51 #[.slice A0 l0.length c0, .slice A jobs.length c, .int .i64 (cores : Int)] w fun e w' => ∃ (gr_ : Nat) (us_ : List Value) (v1_ : Value), e = .returned (.agg #[.slice (some ⟨gr_, 0, none⟩) 120 120, v1_]) ∧ Gr w' w.heap.size gr_ us_ (gR jobs cores 120) ∧ Kd.R (Kd.int .i64) 3 w' w.heap.size (fun _ => True) v1_ (gN jobs cores 120).2 ∧ (∀ i k, i < us_.length → (us_.getD i nilV).ownBlock = some k → v1_.ownBlock ≠ some k) ∧ w.heap.size ≤ gr_ ∧ Below w.heap.size w w' := by
  have hu := Try.underlying80
  have huM := Try.underlying124
  have huJ := Try.underlying67
  have huR := Try.underlying33
  have hmf : ∀ (fn : Fn) (first cap : Array Value) (w : World), (Instr.makeFunc fn first cap).run Try.prog w = .ok (.func fn first cap) w := fun _ _ _ _ => rfl
  obtain ⟨W0, hW0⟩ : ∃ W0, W0 = (w.alloc (.cells #[.slice A jobs.length c] 39)).alloc (.cells #[.slice none 0 0, .slice none 0 0] 80) := ⟨_, rfl⟩
  have hB0 : Below w.heap.size w W0 := by rw [hW0]; exact below_alloc (below_alloc (Below.refl _ _) _) _
  have hsz0 : W0.heap.size = w.heap.size + 2 := by rw [hW0]; simp
  have hbx : W0.heap[w.heap.size]? = some (.cells #[.slice A jobs.length c] 39 (0, 0)) := by rw [hW0]; exact blk_alloc (blk_new _ _) _
  have hrs : W0.heap[w.heap.size + 1]? = some (.cells #[.slice none 0 0, .slice none 0 0] 80 (0, 0)) := by
    rw [hW0]
    have := blk_new (w.alloc (.cells #[.slice A jobs.length c] 39)) (.cells #[.slice none 0 0, .slice none 0 0] 80)
    rw [show (w.alloc (.cells #[.slice A jobs.length c] 39)).heap.size = w.heap.size + 1 by simp] at this
    exact this
  have HLEG := Lib.hid (fun V (hV : Below w.heap.size w V) => impl_JobsLegal.calls A0 c0 l0 A c jobs true V (Kd.C_below hr0 hV) hc0 (Kd.C_below hj hV) hc hleg)
  have HCOR := Lib.hid (fun V => impl_isCores.calls (cores : Int) true V hcor)
  have HNM := Lib.hid (fun W => newMachine_calls A c jobs W (by omega))
  have HN2 := Lib.hid (fun W => impl_none.calls jobs.length (List.replicate jobs.length (-1)) W (by unfold impl_none.f; rw [if_pos (by omega)]; simp))
  have HJ := Lib.hid hj
  have HC := Lib.hid hc
  have HWQ := Lib.hid hW0
  have HB0 := Lib.hid hB0
  have HBX := Lib.hid hbx
  have HRS := Lib.hid hrs
  have HSZ := Lib.hid hsz0
  have H19 := Lib.hid h19
  have HC1 := Lib.hid hc1
  have HC5 := Lib.hid hc5
  clear hr0 hc0 hj hc hleg hcor hW0 hB0 hsz0 hbx hrs h19 hc1 hc5
  go_enter Try.func51, Try.ntmps51
  go_upto_region 1 with (fail)
  rw [← HWQ.out]
  have hcb0 := (blk_cell HBX.out 0).trans rfl
  go_upto_region 4 with (first | (go_at_call 35; refine (HLEG.out _ HB0.out).mono ?_; rintro e w1 ⟨rfl, hb1⟩; have HB1 := Lib.hid hb1; have hcb1 := (hb1.cell (World.block_lt_of_cell? _ _ hcb0)).trans hcb0; clear hb1 hcb0) | (go_at_call 122; refine (HCOR.out _).mono ?_; rintro e w2 ⟨rfl, hd⟩; obtain ⟨md, rfl⟩ := hd.out; clear hd) | (go_at_call 118; refine (HNM.out _).mono ?_; rintro e w3 ⟨g, dv, rfl, hg, hbm, hrd, hb3⟩; obtain ⟨Ad, cd, ed⟩ := Kd.R_slice hrd; rw [show (List.replicate jobs.length (0 : Int)).length = jobs.length from List.length_replicate] at ed; subst ed; have HG := Lib.hid hg; have HBM := Lib.hid hbm; have HRD := Lib.hid hrd; have HB3 := Lib.hid hb3; clear hg hbm hrd hb3))
  have HBW3 := Lib.hid (below_step (pw_below_drewN (below_step HB0.out HB1.out) md) HB3.out)
  have HX3 := Lib.hid (blk_below (blk_drewN (blk_below HBX.out HB1.out) md) HB3.out)
  have HS3 := Lib.hid (blk_below (blk_drewN (blk_below HRS.out HB1.out) md) HB3.out)
  have HGW := Lib.hid (show w.heap.size + 2 ≤ (w1.drewN md).heap.size by have := HB1.out.size; have := HSZ.out; show w.heap.size + 2 ≤ w1.heap.size; omega)
  have hcb0 : w3.cell? ⟨w.heap.size, 0, none⟩ = some (.slice A jobs.length c) := (blk_cell HX3.out 0).trans rfl
  have hn0 : 0 ≤ (jobs.length : Int) := by omega
  have hinfo : (Try.prog.info? 30).map (fun i => (i.zero, i.size, i.bytes)) = some (some (.slice none 0 0), 1, 24) := by kernel_rfl
  have hmk : ∀ W : World, (Instr.makeSlice 33 (.int .i64 120) (.int .i64 120)).run Try.prog W = .ok (.slice (some ⟨W.heap.size, 0, none⟩) 120 120) (W.alloc (.cells (madeCells #[.slice none 0 0] 120) 30)) := fun W => Go.run_make_row' (P := Try.prog) 33 30 (.slice none 0 0) 24 Try.underlying33 hinfo rfl .i64 .i64 120 (by omega) (by omega) W
  clear hinfo
  clear hcb1
  go_cut [8] (fun v8 wc => ∃ (go gr : Nat) (Af : Option Addr) (cf : Nat), v8 = .pointer (some ⟨go, 0, none⟩) ∧ Aside0 (GI w g go (w.heap.size + 1) w.heap.size gr A c jobs (.slice Ad jobs.length cd) (.slice Af jobs.length cf) wc (List.replicate jobs.length 0) (List.replicate jobs.length (-1)) 0 (List.replicate 120 nilV) (List.replicate 120 [])) ∧ Aside0 (GD w g go (w.heap.size + 1) w.heap.size gr (.slice Ad jobs.length cd) (.slice Af jobs.length cf) (List.replicate 120 nilV)))
  case first =>
    have HCB := Lib.hid (fun (V : World) (hV : Below w3.heap.size w3 V) => (hV.cell (World.block_lt_of_cell? _ _ hcb0)).trans hcb0)
    go_region_held3 (fun w' => w'.cell? ⟨w.heap.size, 0, none⟩ = some (.slice A jobs.length c)) (first | go_keep | exact HCB.out _ (by repeat (first | exact Below.refl _ _ | apply below_alloc | apply below_drew | apply pw_below_drewN | refine below_set ?_ (Nat.le_refl _) | refine below_set ?_ (Nat.le_succ _) | refine below_step ?_ HB5.out))) (first | (go_at_call 79; refine (HN2.out _).mono ?_; rintro e w5 ⟨fv, rfl, hrf, hb5⟩; obtain ⟨Af, cf, ef⟩ := Kd.R_slice hrf; rw [show (List.replicate jobs.length (-1 : Int)).length = jobs.length from List.length_replicate] at ef; subst ef; have HRF := Lib.hid hrf; have HB5 := Lib.hid hb5; (try (have hq : w5.heap[w3.heap.size]? = some (.cells #[.slice none 0 0, .slice none 0 0] 80 (0, 0)) := (hb5.block _ (by first | (simp; done) | (simp; omega))).trans (by with_reducible first | exact blk_new _ _ | exact blk_drew (blk_new _ _) | exact blk_alloc (blk_new _ _) _ | exact blk_drew (blk_alloc (blk_new _ _) _)); have hqa0 : ∀ o, (w5.alloc o).cell? ⟨w3.heap.size, 0, none⟩ = some (.slice none 0 0) := fun o => (blk_cell (blk_alloc hq o) 0).trans rfl; have hqa1 : ∀ o, (w5.alloc o).cell? ⟨w3.heap.size, 1, none⟩ = some (.slice none 0 0) := fun o => (blk_cell (blk_alloc hq o) 1).trans rfl; have hqb0 : ∀ o, (w5.alloc o).frozen? ⟨w3.heap.size, 0, none⟩ = false := fun o => blk_frozen (blk_alloc hq o) 0; have hqb1 : ∀ o, (w5.alloc o).frozen? ⟨w3.heap.size, 1, none⟩ = false := fun o => blk_frozen (blk_alloc hq o) 1; have hqc0 : w5.cell? ⟨w3.heap.size, 0, none⟩ = some (.slice none 0 0) := (blk_cell hq 0).trans rfl; have hqc1 : w5.cell? ⟨w3.heap.size, 1, none⟩ = some (.slice none 0 0) := (blk_cell hq 1).trans rfl; have hqf0 := blk_frozen hq 0; have hqf1 := blk_frozen hq 1; have hqn := Lib.hid hq; clear hq)); (try (have hq : w5.heap[w3.heap.size + 1]? = some (.cells #[.slice none 0 0, .slice none 0 0] 80 (0, 0)) := (hb5.block _ (by first | (simp; done) | (simp; omega))).trans (by with_reducible first | exact blk_new1 _ _ _ | exact blk_drew (blk_new1 _ _ _)); have hqa0 : ∀ o, (w5.alloc o).cell? ⟨w3.heap.size + 1, 0, none⟩ = some (.slice none 0 0) := fun o => (blk_cell (blk_alloc hq o) 0).trans rfl; have hqa1 : ∀ o, (w5.alloc o).cell? ⟨w3.heap.size + 1, 1, none⟩ = some (.slice none 0 0) := fun o => (blk_cell (blk_alloc hq o) 1).trans rfl; have hqb0 : ∀ o, (w5.alloc o).frozen? ⟨w3.heap.size + 1, 0, none⟩ = false := fun o => blk_frozen (blk_alloc hq o) 0; have hqb1 : ∀ o, (w5.alloc o).frozen? ⟨w3.heap.size + 1, 1, none⟩ = false := fun o => blk_frozen (blk_alloc hq o) 1; have hqc0 : w5.cell? ⟨w3.heap.size + 1, 0, none⟩ = some (.slice none 0 0) := (blk_cell hq 0).trans rfl; have hqc1 : w5.cell? ⟨w3.heap.size + 1, 1, none⟩ = some (.slice none 0 0) := (blk_cell hq 1).trans rfl; have hqf0 := blk_frozen hq 0; have hqf1 := blk_frozen hq 1; have hqn := Lib.hid hq; clear hq)); (try (have hn5 : w5.heap.size ≠ w3.heap.size := by (have hs5 := hb5.size; simp at hs5; omega); have hn5' := Ne.symm hn5)); (try (have hn6 : w5.heap.size ≠ w3.heap.size + 1 := by (have hs5 := hb5.size; simp at hs5; omega); have hn6' := Ne.symm hn6)); clear hrf hb5))
    all_goals (clear HCB HLEG HCOR HNM HN2 HWQ; go_wp2_with fail; go_meet)
    all_goals have hW3 : w.heap.size + 2 ≤ w3.heap.size := Nat.le_trans HGW.out HB3.out.size
    all_goals have hgw : w.heap.size ≤ g := by (have h1 := HGW.out; have h2 := HG.out; omega)
    all_goals have hB35 : Below w3.heap.size w3 w5 := by repeat (first | exact Below.refl _ _ | refine below_step ?_ HB5.out | apply below_drew | apply below_alloc)
    all_goals have HBW := below_step HBW3.out hB35
    all_goals have hs35 := hB35.size
    all_goals have hs5 := HB5.out.size
    all_goals have hfl := Kd.R_lt HRF.out
    all_goals have hfb := Kd.R_base HRF.out
    all_goals have hb0 : w.heap.size ≤ (w1.drewN md).heap.size := by (have h1 := HGW.out; omega)
    all_goals (try simp at hs5)
    all_goals (try simp at hfb)
    · refine ⟨w5.heap.size, w3.heap.size, Af, cf, rfl, (fun h => ⟨⟨h.1⟩, ⟨h.2⟩⟩) (GI_start (go := w5.heap.size) (gr := w3.heap.size) (w5 := w5) HBW3.out hW3 hB35 ?gB1 ?gF1 HBM.out hgw HX3.out HS3.out HRD.out hb0 HRF.out ?gb1 (by omega) ?gne1 ?gO1 (by omega) ?gR1)⟩; (case gB1 => repeat (first | exact HBW | apply below_alloc | refine below_set ?_ (by omega))); (case gF1 => intro k hk hne; repeat (first | rfl | refine (Below.heap_alloc _ _ _ (by first | omega | (simp; omega))).trans ?_ | refine (Below.heap_setCell _ _ _ _ hne).trans ?_)); (case gb1 => first | exact Nat.le_refl _ | (simp; done) | (simp; omega)); (case gne1 => intro k hke; have q1 := hfl k hke; have q2 := hfb k hke; first | omega | (simp at q2; omega) | exact fun hkg => Kd.R_ne HRF.out hqn.out (by decide) (by rw [← hkg, hke])); (case gO1 => with_reducible first | exact blk_new _ _ | exact blk_alloc (blk_new _ _) _ | exact blk_new1 _ _ _ | exact blk_put (blk_put hqn.out 0 _ rfl) 1 _ rfl | exact blk_put (blk_put (blk_alloc hqn.out _) 0 _ rfl) 1 _ rfl); (case gR1 => with_reducible repeat (first | exact blk_new _ _ | exact blk_new1 _ _ _ | refine blk_far ?_ (by first | omega | (simp; done) | (simp; omega)) _ | refine blk_alloc ?_ _ | refine blk_below ?_ HB5.out | apply blk_drew))
    · refine ⟨(w3.heap.size + 1), w3.heap.size, Af, cf, rfl, (fun h => ⟨⟨h.1⟩, ⟨h.2⟩⟩) (GI_start (go := (w3.heap.size + 1)) (gr := w3.heap.size) (w5 := w5) HBW3.out hW3 hB35 ?gB2 ?gF2 HBM.out hgw HX3.out HS3.out HRD.out hb0 HRF.out ?gb2 (by omega) ?gne2 ?gO2 (by omega) ?gR2)⟩; (case gB2 => repeat (first | exact HBW | apply below_alloc | refine below_set ?_ (by omega))); (case gF2 => intro k hk hne; repeat (first | rfl | refine (Below.heap_alloc _ _ _ (by first | omega | (simp; omega))).trans ?_ | refine (Below.heap_setCell _ _ _ _ hne).trans ?_)); (case gb2 => first | exact Nat.le_refl _ | (simp; done) | (simp; omega)); (case gne2 => intro k hke; have q1 := hfl k hke; have q2 := hfb k hke; first | omega | (simp at q2; omega) | exact fun hkg => Kd.R_ne HRF.out hqn.out (by decide) (by rw [← hkg, hke])); (case gO2 => with_reducible first | exact blk_new _ _ | exact blk_alloc (blk_new _ _) _ | exact blk_new1 _ _ _ | exact blk_put (blk_put hqn.out 0 _ rfl) 1 _ rfl | exact blk_put (blk_put (blk_alloc hqn.out _) 0 _ rfl) 1 _ rfl); (case gR2 => with_reducible repeat (first | exact blk_new _ _ | exact blk_new1 _ _ _ | refine blk_far ?_ (by first | omega | (simp; done) | (simp; omega)) _ | refine blk_alloc ?_ _ | refine blk_below ?_ HB5.out | apply blk_drew))
    · refine ⟨(w5.heap.size + 1), w5.heap.size, Af, cf, rfl, (fun h => ⟨⟨h.1⟩, ⟨h.2⟩⟩) (GI_start (go := (w5.heap.size + 1)) (gr := w5.heap.size) (w5 := w5) HBW3.out hW3 hB35 ?gB3 ?gF3 HBM.out hgw HX3.out HS3.out HRD.out hb0 HRF.out ?gb3 (by omega) ?gne3 ?gO3 (by omega) ?gR3)⟩; (case gB3 => repeat (first | exact HBW | apply below_alloc | refine below_set ?_ (by omega))); (case gF3 => intro k hk hne; repeat (first | rfl | refine (Below.heap_alloc _ _ _ (by first | omega | (simp; omega))).trans ?_ | refine (Below.heap_setCell _ _ _ _ hne).trans ?_)); (case gb3 => first | exact Nat.le_refl _ | (simp; done) | (simp; omega)); (case gne3 => intro k hke; have q1 := hfl k hke; have q2 := hfb k hke; first | omega | (simp at q2; omega) | exact fun hkg => Kd.R_ne HRF.out hqn.out (by decide) (by rw [← hkg, hke])); (case gO3 => with_reducible first | exact blk_new _ _ | exact blk_alloc (blk_new _ _) _ | exact blk_new1 _ _ _ | exact blk_put (blk_put hqn.out 0 _ rfl) 1 _ rfl | exact blk_put (blk_put (blk_alloc hqn.out _) 0 _ rfl) 1 _ rfl); (case gR3 => with_reducible repeat (first | exact blk_new _ _ | exact blk_new1 _ _ _ | refine blk_far ?_ (by first | omega | (simp; done) | (simp; omega)) _ | refine blk_alloc ?_ _ | refine blk_below ?_ HB5.out | apply blk_drew))
    · refine ⟨w5.heap.size, (w5.heap.size + 1), Af, cf, rfl, (fun h => ⟨⟨h.1⟩, ⟨h.2⟩⟩) (GI_start (go := w5.heap.size) (gr := (w5.heap.size + 1)) (w5 := w5) HBW3.out hW3 hB35 ?gB4 ?gF4 HBM.out hgw HX3.out HS3.out HRD.out hb0 HRF.out ?gb4 (by omega) ?gne4 ?gO4 (by omega) ?gR4)⟩; (case gB4 => repeat (first | exact HBW | apply below_alloc | refine below_set ?_ (by omega))); (case gF4 => intro k hk hne; repeat (first | rfl | refine (Below.heap_alloc _ _ _ (by first | omega | (simp; omega))).trans ?_ | refine (Below.heap_setCell _ _ _ _ hne).trans ?_)); (case gb4 => first | exact Nat.le_refl _ | (simp; done) | (simp; omega)); (case gne4 => intro k hke; have q1 := hfl k hke; have q2 := hfb k hke; first | omega | (simp at q2; omega) | exact fun hkg => Kd.R_ne HRF.out hqn.out (by decide) (by rw [← hkg, hke])); (case gO4 => with_reducible first | exact blk_new _ _ | exact blk_alloc (blk_new _ _) _ | exact blk_new1 _ _ _ | exact blk_put (blk_put hqn.out 0 _ rfl) 1 _ rfl | exact blk_put (blk_put (blk_alloc hqn.out _) 0 _ rfl) 1 _ rfl); (case gR4 => with_reducible repeat (first | exact blk_new _ _ | exact blk_new1 _ _ _ | refine blk_far ?_ (by first | omega | (simp; done) | (simp; omega)) _ | refine blk_alloc ?_ _ | refine blk_below ?_ HB5.out | apply blk_drew))
    · refine ⟨w3.heap.size, (w3.heap.size + 1), Af, cf, rfl, (fun h => ⟨⟨h.1⟩, ⟨h.2⟩⟩) (GI_start (go := w3.heap.size) (gr := (w3.heap.size + 1)) (w5 := w5) HBW3.out hW3 hB35 ?gB5 ?gF5 HBM.out hgw HX3.out HS3.out HRD.out hb0 HRF.out ?gb5 (by omega) ?gne5 ?gO5 (by omega) ?gR5)⟩; (case gB5 => repeat (first | exact HBW | apply below_alloc | refine below_set ?_ (by omega))); (case gF5 => intro k hk hne; repeat (first | rfl | refine (Below.heap_alloc _ _ _ (by first | omega | (simp; omega))).trans ?_ | refine (Below.heap_setCell _ _ _ _ hne).trans ?_)); (case gb5 => first | exact Nat.le_refl _ | (simp; done) | (simp; omega)); (case gne5 => intro k hke; have q1 := hfl k hke; have q2 := hfb k hke; first | omega | (simp at q2; omega) | exact fun hkg => Kd.R_ne HRF.out hqn.out (by decide) (by rw [← hkg, hke])); (case gO5 => with_reducible first | exact blk_new _ _ | exact blk_alloc (blk_new _ _) _ | exact blk_new1 _ _ _ | exact blk_put (blk_put hqn.out 0 _ rfl) 1 _ rfl | exact blk_put (blk_put (blk_alloc hqn.out _) 0 _ rfl) 1 _ rfl); (case gR5 => with_reducible repeat (first | exact blk_new _ _ | exact blk_new1 _ _ _ | refine blk_far ?_ (by first | omega | (simp; done) | (simp; omega)) _ | refine blk_alloc ?_ _ | refine blk_below ?_ HB5.out | apply blk_drew))
    · refine ⟨w3.heap.size, w5.heap.size, Af, cf, rfl, (fun h => ⟨⟨h.1⟩, ⟨h.2⟩⟩) (GI_start (go := w3.heap.size) (gr := w5.heap.size) (w5 := w5) HBW3.out hW3 hB35 ?gB6 ?gF6 HBM.out hgw HX3.out HS3.out HRD.out hb0 HRF.out ?gb6 (by omega) ?gne6 ?gO6 (by omega) ?gR6)⟩; (case gB6 => repeat (first | exact HBW | apply below_alloc | refine below_set ?_ (by omega))); (case gF6 => intro k hk hne; repeat (first | rfl | refine (Below.heap_alloc _ _ _ (by first | omega | (simp; omega))).trans ?_ | refine (Below.heap_setCell _ _ _ _ hne).trans ?_)); (case gb6 => first | exact Nat.le_refl _ | (simp; done) | (simp; omega)); (case gne6 => intro k hke; have q1 := hfl k hke; have q2 := hfb k hke; first | omega | (simp at q2; omega) | exact fun hkg => Kd.R_ne HRF.out hqn.out (by decide) (by rw [← hkg, hke])); (case gO6 => with_reducible first | exact blk_new _ _ | exact blk_alloc (blk_new _ _) _ | exact blk_new1 _ _ _ | exact blk_put (blk_put hqn.out 0 _ rfl) 1 _ rfl | exact blk_put (blk_put (blk_alloc hqn.out _) 0 _ rfl) 1 _ rfl); (case gR6 => with_reducible repeat (first | exact blk_new _ _ | exact blk_new1 _ _ _ | refine blk_far ?_ (by first | omega | (simp; done) | (simp; omega)) _ | refine blk_alloc ?_ _ | refine blk_below ?_ HB5.out | apply blk_drew))
  case rest =>
    obtain ⟨go, gr, Af, cf, rfl, HI0, HD0⟩ := hcut
    have HB3w := Below.refl w.heap.size w
    clear HG HBM HRD HB3 HX3 HS3 HGW hcb0 HBW3 HNM HN2 HLEG HCOR HWQ HB0 HBX HRS HSZ HB3w hmk
    go_wp2_with fail
    go_loopg [] 120 (fun kq w' => ∃ (t : Nat) (us : List Value), t + kq = 120 ∧ Aside0 (GI w g go (w.heap.size + 1) w.heap.size gr A c jobs (.slice Ad jobs.length cd) (.slice Af jobs.length cf) w' (gN jobs cores t).1 (gN jobs cores t).2 (t : Int) us (gR jobs cores t)) ∧ Aside0 (GD w g go (w.heap.size + 1) w.heap.size gr (.slice Ad jobs.length cd) (.slice Af jobs.length cf) us))
    case atStart => exact ⟨0, List.replicate 120 nilV, rfl, HI0, HD0⟩
    case round =>
      clear HI0 HD0
      obtain ⟨t, us, ht, HI, HD⟩ := hrel
      obtain ⟨wo, hwo⟩ : ∃ wo, wo = wr := ⟨_, rfl⟩
      subst hwo
      obtain ⟨h1, h2, h3, h4, h5, h6, h7, h8⟩ := HI.out
      have hm2 : wo.cell? ⟨g, 2, none⟩ = some (.int .i64 (t : Int)) := (blk_cell h1 2).trans rfl
      have hfz2 := blk_frozen h1 2
      cases gk with
      | zero =>
        have htt : t = 120 := by omega
        subst htt
        have b1 : decide (((120 : Nat) : Int) < 120) = false := by decide
        have ho0 : wo.cell? ⟨go, 0, none⟩ = some (.slice (some ⟨gr, 0, none⟩) 120 120) := (blk_cell h2 0).trans rfl
        have ho1 : wo.cell? ⟨go, 1, none⟩ = some (.slice Af jobs.length cf) := (blk_cell h2 1).trans rfl
        have hq0 : wo.cell? ⟨w.heap.size + 1, 0, none⟩ = some (.slice none 0 0) := (blk_cell h3 0).trans rfl
        have hq1 : wo.cell? ⟨w.heap.size + 1, 1, none⟩ = some (.slice none 0 0) := (blk_cell h3 1).trans rfl
        have hqf0 := blk_frozen h3 0
        have hqf1 := blk_frozen h3 1
        have hgo := HD.out.2.2.2.2.2.1
        have H3 := Aside0.mk h3
        have hout : Kd.R (Kd.int .i64) 3 ((wo.setCell ⟨w.heap.size + 1, 0, none⟩ (.slice (some ⟨gr, 0, none⟩) 120 120)).setCell ⟨w.heap.size + 1, 1, none⟩ (.slice Af jobs.length cf)) w.heap.size (fun _ => True) (.slice Af jobs.length cf) (gN jobs cores 120).2 :=
          row_stepG h7 (fun k e hlt => (Below.heap_setCell _ _ _ k (fun e' => Kd.R_ne h7 h3 (by decide) (by rw [e, e']))).trans (Below.heap_setCell _ _ _ k (fun e' => Kd.R_ne h7 h3 (by decide) (by rw [e, e']))))
        have hgr : Gr ((wo.setCell ⟨w.heap.size + 1, 0, none⟩ (.slice (some ⟨gr, 0, none⟩) 120 120)).setCell ⟨w.heap.size + 1, 1, none⟩ (.slice Af jobs.length cf)) w.heap.size gr us (gR jobs cores 120) := (h5.far h3 (by decide) (by decide) 0 _).far (blk_put h3 0 _ rfl) (by decide) (by decide) 1 _
        have HGR := Aside0.mk hgr
        clear hgr
        have hob : Below w.heap.size w ((wo.setCell ⟨w.heap.size + 1, 0, none⟩ (.slice (some ⟨gr, 0, none⟩) 120 120)).setCell ⟨w.heap.size + 1, 1, none⟩ (.slice Af jobs.length cf)) := (h8.setCell HD.out.2.2.1 _).setCell HD.out.2.2.1 _
        have HOUT := Aside0.mk hout
        have HOB := Aside0.mk hob
        clear h1 h2 h3 h4 h5 h6 h7 h8 hout hob
        go_wp2
        (try simp only [Exit.inBlock, Exit.then])
        refine bodyPost_ret (results_cell_row rfl _ _ (w.heap.size + 1) 80 #[.slice (some ⟨gr, 0, none⟩) 120 120, .slice Af jobs.length cf] (0, 0) _ rfl (blk_put (blk_put H3.out 0 _ rfl) 1 _ rfl) Try.underlying80 rfl (by kernel_rfl)) rfl ?_
        exact ⟨gr, us, _, rfl, HGR.out, HOUT.out, fun i k hi e => (HD.out.2.2.2.2.2.2.2 i k hi e).2, HD.out.2.2.2.2.1, HOB.out⟩
      | succ k1 =>
        have b1 : decide ((t : Int) < 120) = true := decide_eq_true (by omega)
        have hk0 : wo.cell? ⟨w.heap.size, 0, none⟩ = some (.slice A jobs.length c) := (blk_cell h4 0).trans rfl
        obtain ⟨done, hdone⟩ : ∃ d, d = (gN jobs cores t).1 := ⟨_, rfl⟩
        obtain ⟨fin, hfin⟩ : ∃ d, d = (gN jobs cores t).2 := ⟨_, rfl⟩
        have hgn : gN jobs cores (t + 1) = (takeG jobs cores done t).foldl (gJob jobs t) (done, fin) := by rw [hdone, hfin]; rfl
        have hgr : gR jobs cores (t + 1) = (gR jobs cores t).set t (takeG jobs cores done t) := by rw [hdone]; rfl
        have HGRS := Lib.hid hgr
        clear hgr
        have hlen := gN_len (jobs := jobs) (cores := cores) t
        rw [← hdone, ← hfin] at hlen
        rw [← hdone] at h6
        rw [← hfin] at h7
        rw [← hdone, ← hfin] at HI
        have HGN := Lib.hid hgn
        have HLN := Lib.hid hlen
        have hkj := Kd.C_below HJ.out h8
        have HKJ := Lib.hid hkj
        have HMR : Hid (∀ V, Below wo.heap.size wo V → MachR V g A c jobs Ad cd done (t : Int)) := Lib.hid (fun V hV => ⟨by rw [hlen.1]; exact blk_below h1 hV, Kd.C_below hkj hV, by have := (Kd.R_reads' (Kd.R_below h6 hV)).2.2; exact this, hlen.1⟩)
        have HK0 : Hid (∀ V, Below wo.heap.size wo V → V.cell? ⟨w.heap.size, 0, none⟩ = some (.slice A jobs.length c)) := Lib.hid (fun V hV => (hV.cell (World.block_lt_of_cell? _ _ hk0)).trans hk0)
        have HB := Aside0.mk (Below.refl wo.heap.size wo)
        have hmx : jobs.length ≤ 9223372036854775807 := by have := H19.out; omega
        have hgdl := Kd.R_lt h6
        have hgfl := Kd.R_lt h7
        have hgul : ∀ i k, i < us.length → (us.getD i nilV).ownBlock = some k → k < wo.heap.size := fun i k hi e => Kd.RR_lt (h5.row i (by rw [← h5.len]; exact hi)) k e
        have HGL := Lib.hid (And.intro hgdl (And.intro hgfl hgul))
        have HWS := Lib.hid h8.size
        clear hdone hfin hgn hlen h1 h2 h3 h4 h5 h6 h7 h8 hkj hgdl hgfl hgul
        go_wp2_with fail
        go_loopw [9, 44] (fun v9 v44 w' => ∃ j : Nat, v44 = .int .i64 j ∧ Aside0 (j ≤ jobs.length) ∧ Aside0 (Kd.R (Kd.int .i64) 3 w' wo.heap.size (fun _ => True) v9 (readyL jobs done t j)) ∧ Aside0 (Below wo.heap.size wo w')) (fun v9 v44 _ => jobs.length - (intOf v44).toNat)
        case atStart => exact ⟨0, rfl, ⟨Nat.zero_le _⟩, ⟨Kd.R_nil _ _ _ _ _⟩, HB⟩
        case round =>
          clear HB
          obtain ⟨j, rfl, ⟨HJL⟩, HO, HB⟩ := hrel
          by_cases hlt : j < jobs.length
          · have b2 : decide ((j : Int) < (jobs.length : Int)) = true := decide_eq_true (by omega)
            have hst := readyL_succ jobs done t j
            have hle := readyL_len jobs done t j
            have HLE := Lib.hid hle
            have hr0 := fun V hV => ready_calls g A c jobs Ad cd done t j hlt V (HMR.out V hV)
            clear hle
            cases hr : rdyB jobs done t j with
            | false =>
              have HN : Hid (readyL jobs done t (j + 1) = readyL jobs done t j) := Lib.hid (by rw [hst, hr]; rfl)
              have HRDY : Hid (∀ V, Below wo.heap.size wo V → Calls Try.prog 110 #[.pointer (some ⟨g, 0, none⟩), .int .i64 (j : Int)] V fun e w' => e = .returned (.bool false) ∧ ∃ m, w' = V.drewN m) := Lib.hid (fun V hV => by rw [← hr]; exact hr0 V hV)
              clear hst hr hr0
              go_wp2_with (go_at_call 110; refine (HRDY.out _ (by repeat (first | (with_reducible first | exact HB.out | apply below_alloc | apply pw_below_drewN | apply below_drew1) | exact HB.out))).mono ?_; rintro e w2 ⟨rfl, mm, hw2⟩; have n0_ : Aside0 (Below wo.heap.size wo w2) := ⟨by rw [hw2]; exact (by repeat (first | (with_reducible first | exact HB.out | apply below_alloc | apply pw_below_drewN | apply below_drew1) | exact HB.out))⟩; have n1_ : Aside0 (Kd.R (Kd.int .i64) 3 w2 wo.heap.size (fun _ => True) u9 (readyL jobs done t j)) := ⟨by rw [hw2]; (with_reducible repeat (first | apply Kd.R_alloc | apply Kd.R_drewN | apply Kd.R_drew)); exact HO.out⟩; clear hw2 HB HO; have HB := n0_; have HO := n1_; clear n0_ n1_)
              go_roundw
              case rel => exact ⟨j + 1, by go_num, ⟨by omega⟩, ⟨by rw [HN.out]; (with_reducible repeat (first | apply Kd.R_alloc | apply Kd.R_drewN | apply Kd.R_drew)); exact HO.out⟩, ⟨(by repeat (first | (with_reducible first | exact HB.out | apply below_alloc | apply pw_below_drewN | apply below_drew1) | exact HB.out))⟩⟩
              case measure => simp [intOf]; omega
            | true =>
              have HN : Hid (readyL jobs done t (j + 1) = readyL jobs done t j ++ [(j : Int)]) := Lib.hid (by rw [hst, hr]; rfl)
              have HRDY : Hid (∀ V, Below wo.heap.size wo V → Calls Try.prog 110 #[.pointer (some ⟨g, 0, none⟩), .int .i64 (j : Int)] V fun e w' => e = .returned (.bool true) ∧ ∃ m, w' = V.drewN m) := Lib.hid (fun V hV => by rw [← hr]; exact hr0 V hV)
              clear hst hr hr0
              go_wp2_with (first | (go_at_call 110; refine (HRDY.out _ (by repeat (first | (with_reducible first | exact HB.out | apply below_alloc | apply pw_below_drewN | apply below_drew1) | exact HB.out))).mono ?_; rintro e w2 ⟨rfl, mm, hw2⟩; have n0_ : Aside0 (Below wo.heap.size wo w2) := ⟨by rw [hw2]; exact (by repeat (first | (with_reducible first | exact HB.out | apply below_alloc | apply pw_below_drewN | apply below_drew1) | exact HB.out))⟩; have n1_ : Aside0 (Kd.R (Kd.int .i64) 3 w2 wo.heap.size (fun _ => True) u9 (readyL jobs done t j)) := ⟨by rw [hw2]; (with_reducible repeat (first | apply Kd.R_alloc | apply Kd.R_drewN | apply Kd.R_drew)); exact HO.out⟩; clear hw2 HB HO; have HB := n0_; have HO := n1_; clear n0_ n1_) | ((with_reducible refine gate_builtin (b := .append) (xs := #[.tmp 50, .tmp 52]) rfl ?_); at_builtin; refine Kd.R_append (Kd.int .i64) (w0 := wo) wo.heap.size rfl (.tmp 50) (.tmp 52) 30 3 (.int .i64 0) 8 rfl Try.underlying30 info3 rfl (by decide) (by omega) u9 (readyL jobs done t j) (j : Int) [.int .i64 (j : Int)] (fun _ => True) (fun _ => False) rfl rfl ?aP (fun _ hk => hk.elim) ?aF ?aO ?aB ?aS ?aL ?_; (case aP => exact rfl); (case aB => exact (by repeat (first | (with_reducible first | exact HB.out | apply below_alloc | apply pw_below_drewN | apply below_drew1) | exact HB.out))); (case aF => exact (fun _ _ => trivial)); (case aO => exact (by (with_reducible repeat (first | apply Kd.R_alloc | apply Kd.R_drewN | apply Kd.R_drew)); exact HO.out)); (case aS => exact (below_size (by repeat (first | (with_reducible first | exact HB.out | apply below_alloc | apply pw_below_drewN | apply below_drew1) | exact HB.out)))); (case aL => have := HLE.out; have := H19.out; omega); intro v107 w11 ho hb hg hat; rw [← HN.out] at ho; have n0_ := Aside0.mk (hb); have n1_ := Aside0.mk (ho); clear HB; clear HO; have HB := n0_; have HO := n1_; clear n0_ n1_; clear ho hb hg hat))
              go_roundw
              case rel => exact ⟨j + 1, by go_num, ⟨by omega⟩, ⟨by (with_reducible repeat (first | apply Kd.R_alloc | apply Kd.R_drewN | apply Kd.R_drew)); exact HO.out⟩, ⟨(by repeat (first | (with_reducible first | exact HB.out | apply below_alloc | apply pw_below_drewN | apply below_drew1) | exact HB.out))⟩⟩
              case measure => simp [intOf]; omega
          · have b2 : decide ((j : Int) < (jobs.length : Int)) = false := decide_eq_false (by omega)
            have hje : j = jobs.length := by omega
            subst hje
            have hO2 := HO.out
            have hfl : (readyL jobs done t jobs.length).length ≤ 100 := by
              have h1 := readyL_len jobs done t jobs.length
              have := H19.out
              omega
            have hsrt := sortJobs_calls w.heap.size A c jobs wo wr hk0 HKJ.out u9 (readyL jobs done t jobs.length) hfl (fun x hx => readyL_in hx) HB.out hO2
            obtain ⟨As, cps, es⟩ := Kd.R_slice hO2
            subst es
            obtain ⟨S, hS⟩ : ∃ S, S = stab (keyJ jobs) (readyL jobs done t jobs.length) := ⟨_, rfl⟩
            have hSl : S.length = (readyL jobs done t jobs.length).length := by rw [hS, stab_len]
            have hT : takeG jobs cores done t = S.take cores := by rw [hS]; rfl
            have hTin := fun j h => takeG_in (jobs := jobs) (cores := cores) (done := done) (t := t) (j := j) h
            rw [← hS] at hsrt
            rw [← hSl] at hsrt
            obtain ⟨T, hTe⟩ : ∃ T, T = takeG jobs cores done t := ⟨_, rfl⟩
            rw [← hTe] at hTin hT
            have hgn := HGN.out
            rw [← hTe] at hgn
            have hgrs := HGRS.out
            rw [← hTe] at hgrs
            have HGRT := Lib.hid hgrs
            clear hgrs
            have hcapn : S.length ≤ cps := by have := (Kd.R_reads' hO2).2.1; rw [hSl]; exact this
            have hTm : T = S.take (min cores S.length) := by rw [hT]; exact List.take_eq_take_min
            have hTl : T.length = min cores S.length := by rw [hTm, List.length_take]; omega
            obtain ⟨m, hm⟩ : ∃ m, m = min cores S.length := ⟨_, rfl⟩
            rw [← hm] at hTm hTl
            have hmin : (if (S.length : Int) < (cores : Int) then (S.length : Int) else (cores : Int)) = (m : Int) := by split <;> omega
            have hmin1 : (if S.length < cores then (S.length : Int) else (cores : Int)) = (m : Int) := by split <;> omega
            have hmin3 : (if S.length < cores then S.length else cores) = m := by split <;> omega
            have hmS : m ≤ S.length := by omega
            have q0 : 0 ≤ (m : Int) := by omega
            have q1 : (m : Int) ≤ (cps : Int) := by omega
            have hS19 : S.length ≤ 100 := by omega
            have hcl : ∀ V : World, Kd.C (Kd.int .i64) V As S.length S → Calls Try.prog 126 #[.slice As m cps] V fun e w' => ∃ A cap, e = .returned (.slice A m m) ∧ Kd.R (Kd.int .i64) 3 w' V.heap.size (fun _ => True) (.slice A m cap) T ∧ Below V.heap.size V w' := fun V hV => by
              have := clone_Int As cps T V (by rw [hTm]; exact Kd.C_take hV hmS) (by omega) (by omega)
              rw [hTl] at this
              exact this
            rw [← hSl]
            have HSRT := Lib.hid hsrt
            have HCL := Lib.hid hcl
            have HGT := Lib.hid hgn
            have HTL := Lib.hid hTl
            have HTI := Lib.hid hTin
            clear hO2 hfl hsrt hS hSl hT hTin hTe hgn hcapn hTm hTl hm hmS hcl
            go_wp2_with (first | (go_at_call 123; refine HSRT.out.mono ?_; rintro e w4 ⟨rfl, hs4, hb4⟩; have HS4 := Lib.hid hs4; have HB4 := Lib.hid hb4; clear hs4 hb4) | (go_at_call 126; refine (HCL.out _ (Kd.R_reads' HS4.out).2.2).mono ?_; rintro e w5 ⟨Ac, cc, rfl, hr5, hb5⟩; have HR5 := Lib.hid hr5; have HB5 := Lib.hid hb5; clear hr5 hb5))
            have hI5 := HI.out.keep (below_step HB4.out HB5.out)
            have hnew : ∀ k, (Value.slice Ac m m).ownBlock = some k → wo.heap.size ≤ k := fun k e => Nat.le_trans HB4.out.size (Kd.R_base HR5.out k (by rw [ob_eq Ac m cc m m]; exact e))
            have HNEW := Lib.hid hnew
            have HI5 := Aside0.mk hI5
            have HT5 := Aside0.mk (Kd.R_lower HR5.out HB4.out.size)
            have hm99 : m ≤ 9223372036854775807 := by omega
            clear hI5 hnew HSRT HCL HS4 HB4 HR5 HB5 HO HB HMR HK0 hk0 hm2 hfz2 hmin hmin1 hmin3 b2 q0 q1 HJL hlt hS19
            go_loopw [67] (fun v67 w' => ∃ j : Nat, v67 = .int .i64 j ∧ Aside0 (j ≤ m) ∧ Aside0 (GI w g go (w.heap.size + 1) w.heap.size gr A c jobs (.slice Ad jobs.length cd) (.slice Af jobs.length cf) w' ((T.take j).foldl (gJob jobs t) (done, fin)).1 ((T.take j).foldl (gJob jobs t) (done, fin)).2 (t : Int) us (gR jobs cores t)) ∧ Aside0 (Kd.R (Kd.int .i64) 3 w' wo.heap.size (fun _ => True) (.slice Ac m cc) T)) (fun v67 _ => m - (intOf v67).toNat)
            case atStart => exact ⟨0, rfl, ⟨Nat.zero_le _⟩, HI5, HT5⟩
            case round =>
              clear HI5 HT5
              obtain ⟨j, rfl, ⟨HJL⟩, HI6, HT6⟩ := hrel
              by_cases hlt : j < m
              · have b3 : decide ((j : Int) < (m : Int)) = true := decide_eq_true (by omega)
                have hfold := fold_take (gJob jobs t) 0 T j (done, fin) (by have := HTL.out; omega)
                have hln := gJob_len (jobs := jobs) (t := t) (T.take j) (done, fin) HLN.out.1 HLN.out.2
                have hti := HTI.out j (by have := HTL.out; omega)
                obtain ⟨X, hX⟩ : ∃ X, X = (T.take j).foldl (gJob jobs t) (done, fin) := ⟨_, rfl⟩
                rw [← hX] at hfold hln HI6
                clear hX
                obtain ⟨d1, f1⟩ := X
                simp only at hln HI6
                obtain ⟨x, hx⟩ : ∃ x, x = T.getD j 0 := ⟨_, rfl⟩
                have ht6 := HT6.out
                obtain ⟨gt, ct, et, _⟩ := Kd.R_form ht6 (by have := HTL.out; omega)
                injection et with et1 et2 et3
                subst et1 et3
                clear et2
                have hgt : wo.heap.size ≤ gt := Kd.R_base ht6 gt rfl
                obtain ⟨htc, htf⟩ := Kd.R_celln 0 ht6 (j : Int) (by omega) (by omega)
                have hrt : rdOf 0 T (j : Int) = T.getD j 0 := rfl
                rw [hrt] at htc
                rw [← hx] at htc hfold hti
                simp only [Int.toNat_natCast] at htc
                obtain ⟨n, rfl⟩ : ∃ n : Nat, x = (n : Int) := ⟨x.toNat, by omega⟩
                have hnl : n < jobs.length := by omega
                have q0 : 0 ≤ (j : Int) := by omega
                have q1 : (j : Int) < (m : Int) := by omega
                have q2 : 0 ≤ (n : Int) := by omega
                have q3 : (n : Int) < (jobs.length : Int) := by omega
                obtain ⟨h1, h2, h3, h4, h5, h6, h7, h8⟩ := HI6.out
                have hjp : 0 < jobs.length := by omega
                obtain ⟨gd, cd', ed, _⟩ := Kd.R_form h6 (by omega)
                injection ed with ed1 ed2 ed3
                subst ed1 ed3
                clear ed2
                obtain ⟨gf, cf', ef, _⟩ := Kd.R_form h7 (by omega)
                injection ef with ef1 ef2 ef3
                subst ef1 ef3
                clear ef2
                obtain ⟨hdc, hdf⟩ := Kd.R_celln 0 h6 (n : Int) (by omega) (by omega)
                have hrd : rdOf 0 d1 (n : Int) = d1.getD n 0 := rfl
                rw [hrd] at hdc
                obtain ⟨y, hy⟩ : ∃ y, y = d1.getD n 0 := ⟨_, rfl⟩
                rw [← hy] at hdc
                simp only [Int.toNat_natCast] at hdc hdf
                obtain ⟨z, hz⟩ : ∃ z, z = wrap64 (y + 1) := ⟨_, rfl⟩
                have hzw : IntKind.i64.wrap (y + 1) = z := by rw [i64_w, hz]
                have hm1 : wr.cell? ⟨g, 1, none⟩ = some (.slice (some ⟨gd, 0, none⟩) jobs.length cd) := (blk_cell h1 1).trans rfl
                have hI7 := HI6.out.setDone HD.out (n : Int) z
                have hT7 : Kd.R (Kd.int .i64) 3 (wr.setCell ⟨gd, (n : Int).toNat, none⟩ (.int .i64 z)) wo.heap.size (fun _ => True) (.slice (some ⟨gt, 0, none⟩) m cc) T := row_stepG ht6 (fun k e hlt => Below.heap_setCell _ _ _ k (by have := HGL.out.1 gd rfl; (obtain rfl : gt = k := by simpa [Value.ownBlock] using e); simp; omega))
                simp only [Int.toNat_natCast] at hI7 hT7
                have HI7 := Aside0.mk hI7
                have HT7 := Aside0.mk hT7
                have hgj : (T.take (j + 1)).foldl (gJob jobs t) (done, fin) = (d1.set n z, if z = (jobs.getD n z67).f3 then f1.set n ((t : Int) + 1) else f1) := by
                  rw [hfold]
                  unfold gJob
                  simp only [Int.toNat_natCast]
                  rw [← hy, ← hz]
                have HGJ := Lib.hid hgj
                have HL1 := Lib.hid hln
                clear h1 h2 h3 h4 h5 h6 h7 h8 hI7 hT7 hgj hln hfold hti ht6 hrt hrd hy hz hx HI6 HT6
                go_upto_region 20 with (fail)
                clear hdc hdf htc htf hm1 hzw
                generalize World.setCell wr _ _ = w7 at HI7 HT7 ⊢
                obtain ⟨h1, h2, h3, h4, h5, h6, h7, h8⟩ := HI7.out
                obtain ⟨hdc, hdf⟩ := Kd.R_celln 0 h6 (n : Int) (by omega) (by omega)
                have hrd : rdOf 0 (d1.set n z) (n : Int) = z := by
                  show (d1.set n z).getD (n : Int).toNat 0 = z
                  rw [Int.toNat_natCast, List.getD_eq_getElem?_getD, List.getElem?_set_self (by have := HL1.out.1; omega)]
                  rfl
                rw [hrd] at hdc
                simp only [Int.toNat_natCast] at hdc hdf
                have hm1 : w7.cell? ⟨g, 1, none⟩ = some (.slice (some ⟨gd, 0, none⟩) jobs.length cd) := (blk_cell h1 1).trans rfl
                have hk0 : w7.cell? ⟨w.heap.size, 0, none⟩ = some (.slice A jobs.length c) := (blk_cell h4 0).trans rfl
                obtain ⟨adj, ej, hy0, hy1, hy2, hy3⟩ := at_T67 (Kd.C_below HJ.out h8) (n : Int) (by omega) (by omega)
                cases ej
                simp only [Int.toNat_natCast] at hy0 hy1 hy2 hy3
                have hrj : rd_T67 jobs (n : Int) = jobs.getD n z67 := rfl
                rw [hrj] at hy0 hy1 hy2 hy3
                obtain ⟨y, hy⟩ : ∃ y, y = (jobs.getD n z67).f3 := ⟨_, rfl⟩
                rw [← hy] at hy3
                have HY := Lib.hid hy
                clear hy0 hy1 hy2 hrj hrd hy
                by_cases heq : z = y
                · have heb : (z == y) = true := by rw [beq_iff_eq]; exact heq
                  have hgj : (T.take (j + 1)).foldl (gJob jobs t) (done, fin) = (d1.set n z, f1.set n ((t : Int) + 1)) := by rw [HGJ.out, ← HY.out, if_pos heq]
                  have HGF := Lib.hid hgj
                  have ho1 : w7.cell? ⟨go, 1, none⟩ = some (.slice (some ⟨gf, 0, none⟩) jobs.length cf) := (blk_cell h2 1).trans rfl
                  have hn2 : w7.cell? ⟨g, 2, none⟩ = some (.int .i64 (t : Int)) := (blk_cell h1 2).trans rfl
                  obtain ⟨hfc, hff⟩ := Kd.R_celln 0 h7 (n : Int) (by omega) (by omega)
                  simp only [Int.toNat_natCast] at hfc hff
                  have nf1 : gf ≠ g := fun e => Kd.R_ne h7 h1 (by decide) (by rw [← e]; rfl)
                  have nf2 : gf ≠ go := fun e => Kd.R_ne h7 h2 (by decide) (by rw [← e]; rfl)
                  have hw1 : IntKind.i64.wrap ((t : Int) + 1) = (t : Int) + 1 := by rw [i64_w]; unfold wrap64; omega
                  have q5 : (t : Int) < 120 := by omega
                  clear h1 h2 h3 h4 h5 h6 h7 h8 heq hgj
                  go_wp2_with fail
                  go_quiet (fail)
                  go_wp2_with fail
                  go_region_held3 (fun w' => w'.cell? ⟨go, 1, none⟩ = some (.slice (some ⟨gf, 0, none⟩) jobs.length cf) ∧ w'.cell? ⟨g, 2, none⟩ = some (.int .i64 (t : Int))) (go_keep) (fail)
                  have hI8 := (HI7.out.keep (pw_below_drewN (Below.refl _ _) (nq + 1))).setFin HD.out (n : Int) ((t : Int) + 1)
                  have hT8 : Kd.R (Kd.int .i64) 3 ((w7.drewN (nq + 1)).setCell ⟨gf, (n : Int).toNat, none⟩ (.int .i64 ((t : Int) + 1))) wo.heap.size (fun _ => True) (.slice (some ⟨gt, 0, none⟩) m cc) T := row_stepG (Kd.R_drewN HT7.out (nq + 1)) (fun k e hlt => Below.heap_setCell _ _ _ k (by have := HGL.out.2.1 gf rfl; (obtain rfl : gt = k := by simpa [Value.ownBlock] using e); simp; omega))
                  simp only [Int.toNat_natCast] at hI8 hT8
                  have HI8 := Aside0.mk hI8
                  have HT8 := Aside0.mk hT8
                  clear hI8 hT8 hn2 ho1 hfc hff hdc hdf hm1 hy3 hk0
                  generalize World.setCell (World.drewN w7 _) _ _ = w8 at HI8 HT8 ⊢
                  go_wp2_with fail
                  go_roundw
                  case rel =>
                    exact ⟨j + 1, by go_num, ⟨by omega⟩, ⟨by rw [HGF.out]; exact HI8.out⟩, HT8⟩
                  case measure => simp [intOf]; omega
                · have heb : (z == y) = false := by rw [beq_eq_false_iff_ne]; exact heq
                  have hgj : (T.take (j + 1)).foldl (gJob jobs t) (done, fin) = (d1.set n z, f1) := by rw [HGJ.out, ← HY.out, if_neg heq]
                  have HGF := Lib.hid hgj
                  clear h1 h2 h3 h4 h5 h6 h7 h8 heq hgj
                  go_wp2_with fail
                  go_quiet (fail)
                  have HI8 := Aside0.mk (HI7.out.keep (pw_below_drewN (Below.refl _ _) nq))
                  have HT8 := Aside0.mk (Kd.R_drewN HT7.out nq)
                  go_wp2_with fail
                  go_roundw
                  case rel => exact ⟨j + 1, by go_num, ⟨by omega⟩, ⟨by rw [HGF.out]; exact HI8.out⟩, HT8⟩
                  case measure => simp [intOf]; omega
              · have b3 : decide ((j : Int) < (m : Int)) = false := decide_eq_false (by omega)
                have hje : j = m := by omega
                subst hje
                have hfin : T.take j = T := List.take_of_length_le (by have := HTL.out; omega)
                have hI9 := HI6.out
                rw [hfin, ← HGT.out] at hI9
                have HI9 := Aside0.mk hI9
                obtain ⟨h1, h2, h3, h4, h5, h6, h7, h8⟩ := hI9
                have ho0 : wr.cell? ⟨go, 0, none⟩ = some (.slice (some ⟨gr, 0, none⟩) 120 120) := (blk_cell h2 0).trans rfl
                have hn2 : wr.cell? ⟨g, 2, none⟩ = some (.int .i64 (t : Int)) := (blk_cell h1 2).trans rfl
                have hul : us.length = 120 := by rw [h5.len, gR_len]
                have hrc : ∃ u, wr.cell? ⟨gr, t, none⟩ = some u := ⟨us.toArray[t]'(by simp; omega), by rw [blk_cell h5.blk t]; exact Array.getElem?_eq_getElem (by simp; omega)⟩
                obtain ⟨u0, hrc⟩ := hrc
                have hrf := blk_frozen h5.blk t
                have q5 : (t : Int) < 120 := by omega
                have q6 : 0 ≤ (t : Int) := by omega
                have hu := Kd.RR_lower (Kd.RR_clip HT6.out (Nat.le_refl _)) HWS.out
                have hap : ∀ i k, i < us.length → (us.getD i nilV).ownBlock = some k → (Value.slice Ac j j).ownBlock ≠ some k := fun i k hi e h => by
                  have := HGL.out.2.2 i k hi e
                  have := HNEW.out k h
                  omega
                have hda := HD.out.setRow (t := t) (u := .slice Ac j j) (fun k e => ⟨fun h => by have := HGL.out.1 k h; have := HNEW.out k e; omega, fun h => by have := HGL.out.2.1 k h; have := HNEW.out k e; omega⟩)
                have HDA := Aside0.mk hda
                have HUU := Aside0.mk hu
                have HAP := Aside0.mk hap
                have ng1 : gr ≠ g := Ne.symm (ne_of_type h1 h5.blk (by decide))
                have ng2 : gr ≠ go := Ne.symm (ne_of_type h2 h5.blk (by decide))
                clear h1 h2 h3 h4 h5 h6 h7 h8 hfin HI6 HT6 hu hap hda hul
                go_wp2_with fail
                go_region_held3 (fun w' => w'.cell? ⟨go, 0, none⟩ = some (.slice (some ⟨gr, 0, none⟩) 120 120) ∧ w'.cell? ⟨g, 2, none⟩ = some (.int .i64 (t : Int))) (go_keep) (fail)
                have hIA := (HI9.out.setRow HD.out (t := t) (by rw [gR_len]; omega) HUU.out HAP.out).keep (below_drew (Below.refl _ _))
                rw [← HGRT.out] at hIA
                have HIA := Aside0.mk hIA
                clear hIA hrc hrf hn2 ho0
                generalize World.drew (World.setCell wr _ _) = w9 at HIA ⊢
                have hn2 : w9.cell? ⟨g, 2, none⟩ = some (.int .i64 (t : Int)) := (blk_cell HIA.out.1 2).trans rfl
                have hf2 := blk_frozen HIA.out.1 2
                go_wp2_with fail
                go_roundg k1
                case measure => omega
                case rel => exact ⟨t + 1, _, by omega, ⟨HIA.out.setNow HDA.out _⟩, HDA⟩


set_option maxHeartbeats 2000000 in
set_option maxRecDepth 100000 in
/-- impl.RunGlobal where an argument is not valid. -/
theorem runGlobal_bad (A0 : Option Addr) (c0 : Nat) (l0 : List (S62)) (A : Option Addr) (c : Nat) (jobs : List (S67)) (cores : Int) (b b2 : Bool) (w : World) (hr0 : Kd.C k62 w A0 l0.length l0) (hc0 : l0.length ≤ c0) (hj : Kd.C k67 w A jobs.length jobs) (hc : jobs.length ≤ c)
    (hleg : impl_JobsLegal.f l0 jobs = some b) (hcor : impl_isCores.f cores = some b2) (hbad : ¬ (b = true ∧ b2 = true)) :
    Calls Try.prog 51 #[.slice A0 l0.length c0, .slice A jobs.length c, .int .i64 cores] w fun e w' => e = .returned (.agg #[.slice none 0 0, .slice none 0 0]) ∧ Below w.heap.size w w' := by
  have hu := Try.underlying80
  obtain ⟨W0, hW0⟩ : ∃ W0, W0 = (w.alloc (.cells #[.slice A jobs.length c] 39)).alloc (.cells #[.slice none 0 0, .slice none 0 0] 80) := ⟨_, rfl⟩
  have hB0 : Below w.heap.size w W0 := by rw [hW0]; exact below_alloc (below_alloc (Below.refl _ _) _) _
  have hbx : W0.heap[w.heap.size]? = some (.cells #[.slice A jobs.length c] 39 (0, 0)) := by rw [hW0]; exact blk_alloc (blk_new _ _) _
  have hrs : W0.heap[w.heap.size + 1]? = some (.cells #[.slice none 0 0, .slice none 0 0] 80 (0, 0)) := by rw [hW0]; exact blk_new1 _ _ _
  have HLEG := Lib.hid (fun V (hV : Below w.heap.size w V) => impl_JobsLegal.calls A0 c0 l0 A c jobs b V (Kd.C_below hr0 hV) hc0 (Kd.C_below hj hV) hc hleg)
  have HCOR := Lib.hid (fun V => impl_isCores.calls cores b2 V hcor)
  have HWQ := Lib.hid hW0
  have HB0 := Lib.hid hB0
  have HBX := Lib.hid hbx
  have HRS := Lib.hid hrs
  clear hr0 hc0 hj hc hleg hcor hW0 hB0 hbx hrs
  cases b with
  | false =>
    clear hbad
    go_enter Try.func51, Try.ntmps51
    go_upto_region 1 with (fail)
    rw [← HWQ.out]
    have hcb0 := (blk_cell HBX.out 0).trans rfl
    go_upto_region 2 with (go_at_call 35; refine (HLEG.out _ HB0.out).mono ?_; rintro e w1 ⟨rfl, hb1⟩; have HB1 := Lib.hid hb1; clear hb1 hcb0)
    have h3 := blk_below HRS.out HB1.out
    have hq0 := (blk_cell h3 0).trans rfl
    have hq1 := (blk_cell h3 1).trans rfl
    have hqf0 := blk_frozen h3 0
    have hqf1 := blk_frozen h3 1
    have H3 := Aside0.mk h3
    have HBW := Lib.hid (below_step HB0.out HB1.out)
    clear h3
    go_wp2_with fail
    (try simp only [Exit.inBlock, Exit.then])
    refine bodyPost_ret (results_cell_row rfl _ _ (w.heap.size + 1) 80 #[.slice none 0 0, .slice none 0 0] (0, 0) _ rfl (blk_put (blk_put H3.out 0 _ rfl) 1 _ rfl) Try.underlying80 rfl (by kernel_rfl)) rfl ?_
    exact ⟨rfl, (HBW.out.setCell (Nat.le_succ _) _).setCell (Nat.le_succ _) _⟩
  | true =>
    obtain rfl : b2 = false := by cases b2 with
      | false => rfl
      | true => exact absurd ⟨rfl, rfl⟩ hbad
    clear hbad
    go_enter Try.func51, Try.ntmps51
    go_upto_region 1 with (fail)
    rw [← HWQ.out]
    have hcb0 := (blk_cell HBX.out 0).trans rfl
    go_upto_region 2 with (first | (go_at_call 35; refine (HLEG.out _ HB0.out).mono ?_; rintro e w1 ⟨rfl, hb1⟩; have HB1 := Lib.hid hb1; clear hb1 hcb0) | (go_at_call 122; refine (HCOR.out _).mono ?_; rintro e w2 ⟨rfl, hd⟩; obtain ⟨md, rfl⟩ := hd.out; clear hd))
    have h3 := blk_drewN (blk_below HRS.out HB1.out) md
    have hq0 := (blk_cell h3 0).trans rfl
    have hq1 := (blk_cell h3 1).trans rfl
    have hqf0 := blk_frozen h3 0
    have hqf1 := blk_frozen h3 1
    have H3 := Aside0.mk h3
    have HBW := Lib.hid (pw_below_drewN (below_step HB0.out HB1.out) md)
    clear h3
    go_wp2_with fail
    (try simp only [Exit.inBlock, Exit.then])
    refine bodyPost_ret (results_cell_row rfl _ _ (w.heap.size + 1) 80 #[.slice none 0 0, .slice none 0 0] (0, 0) _ rfl (blk_put (blk_put H3.out 0 _ rfl) 1 _ rfl) Try.underlying80 rfl (by kernel_rfl)) rfl ?_
    exact ⟨rfl, (HBW.out.setCell (Nat.le_succ _) _).setCell (Nat.le_succ _) _⟩


set_option maxHeartbeats 4000000 in
set_option maxRecDepth 100000 in
/-- The law where the arguments are valid; what it computes is given by the plain facts. -/
theorem glaw_valid (kk : Nat) (A0 : Option Addr) (c0 : Nat) (l0 : List (S105)) (A1 : Option Addr) (c1 : Nat) (l1 : List (S107)) (cores : Nat) (w : World) (hr0 : Kd.C k105 w A0 l0.length l0) (hc0 : l0.length ≤ c0) (hr1 : Kd.C k107 w A1 l1.length l1) (hc1 : l1.length ≤ c1)
    (a b : Int) (ha : 0 ≤ a) (hb : 0 ≤ b) (ts : List (S62)) (js : List (S67)) (rows : List (List Int)) (fin : List Int) (mt mj : Int) (ts2 : List (S62)) (js2 : List (S67))
    (hz0 : laws_szTaskS.f l0 1048576 = some a) (hz1 : laws_szJobS.f l1 a = some b) (hT : laws_toTaskS.f kk l0 = some ts) (hJ : laws_toJobS.f kk l1 = some js) (hS : spec_RunGlobal.f kk ts js (cores : Int) = some (rows, fin)) (hET : laws_eqTaskS.f kk ts ts = some true) (hEJ : laws_eqJobS.f kk js js = some true)
    (hER : laws_eqGlobalRun.f kk rows fin rows fin = some true) (hMT : laws_markTaskS.f kk ts 1 = some (mt, ts2)) (hMJ : laws_markJobS.f kk js mt = some (mj, js2)) (hmj : 0 ≤ mj)
    (hleg : impl_JobsLegal.f ts js = some true) (hcor : impl_isCores.f (cores : Int) = some true) (h60 : js.length ≤ 60) (hk1 : 1 ≤ cores) (hk5 : cores ≤ 5) (hrows : rows = gR js cores 120) (hfin : fin = (gN js cores 120).2) (hw : ∀ i, (rows.getD i []).length ≤ 1000) (hfl : fin.length ≤ 1000)
    (hH : laws_heldGlobalRun.f kk (mkR 1 rows rows.length) (mkL (mkN 1 rows rows.length) fin.length) 1 = some (mkN 1 rows rows.length + (fin.length : Int))) :
    Calls Try.prog 12 #[.slice A0 l0.length c0, .slice A1 l1.length c1, .int .i64 (cores : Int)] w fun e w' => e = .returned (.bool true) ∧ Below w.heap.size w w' := by
  have hu80 := Try.underlying80
  have hl120 : rows.length = 120 := by rw [hrows, gR_len]
  have HL := Lib.hid hl120
  have HRW := Lib.hid hrows
  have HFN := Lib.hid hfin
  clear hrows hfin hl120
  have HZ0 := Lib.hid (fun V (hV : Below w.heap.size w V) => laws_szTaskS.calls A0 c0 l0 1048576 a V (Kd.C_below hr0 hV) hc0 hz0)
  have HZ1 := Lib.hid (fun V (hV : Below w.heap.size w V) => laws_szJobS.calls A1 c1 l1 a b V (Kd.C_below hr1 hV) hc1 hz1)
  have HT := Lib.hid (fun V (hV : Below w.heap.size w V) => laws_toTaskS.calls kk A0 c0 l0 ts V (Kd.C_below hr0 hV) hc0 hT)
  have HJ := Lib.hid (fun V (hV : Below w.heap.size w V) => laws_toJobS.calls kk A1 c1 l1 js V (Kd.C_below hr1 hV) hc1 hJ)
  have d0 : decide (a < 0) = false := decide_eq_false (by omega)
  have d1 : decide (b < 0) = false := decide_eq_false (by omega)
  have HB := Aside0.mk (Below.refl w.heap.size w)
  clear hr0 hc0 hr1 hc1 hz0 hz1 hT hJ
  go_enter Try.func12, Try.ntmps12
  go_upto_region 8 with (first | (go_at_call 13; refine (HZ0.out _ HB.out).mono ?_; rintro e w1 ⟨rfl, hd⟩; obtain ⟨m1, rfl⟩ := hd.out; clear hd) | (go_at_call 14; refine (HZ1.out _ (pw_below_drewN HB.out _)).mono ?_; rintro e w1 ⟨rfl, hd⟩; obtain ⟨m2, rfl⟩ := hd.out; clear hd))
  have HB1 := Aside0.mk (pw_below_drewN HB.out (m1 + m2))
  clear HB HZ0 HZ1
  generalize World.drewN w (m1 + m2) = W1 at HB1 ⊢
  have HSP := Lib.hid (fun V At ct Aj cj (h1 : Kd.C k62 V At ts.length ts) (h2 : ts.length ≤ ct) (h3 : Kd.C k67 V Aj js.length js) (h4 : js.length ≤ cj) => spec_RunGlobal.calls kk At ct ts Aj cj js (cores : Int) rows fin V h1 h2 h3 h4 hS)
  go_upto_region 9 with (first | (go_at_call 18; refine (HT.out _ HB1.out).mono ?_; rintro e W2 ⟨vt, rfl, ht, hb⟩; obtain ⟨At, ct, et⟩ := Kd.R_slice ht; subst et; have HTR := Lib.hid (Kd.R_reads' ht); have HB2 := Lib.hid hb; clear ht hb) | (go_at_call 19; refine (HJ.out _ (below_step HB1.out HB2.out)).mono ?_; rintro e W3 ⟨vj, rfl, hj, hb⟩; obtain ⟨Aj, cj, ej⟩ := Kd.R_slice hj; subst ej; have HJR := Lib.hid (Kd.R_reads' hj); have HB3 := Lib.hid hb; clear hj hb) | (go_at_call 63; refine (HSP.out _ _ _ _ _ (Kd.C_below HTR.out.2.2 HB3.out) HTR.out.2.1 HJR.out.2.2 HJR.out.2.1).mono ?_; rintro e W4 ⟨v0, v1, rfl, hs, hf, hb⟩; obtain ⟨As, cs, es⟩ := Kd.S_slice hs; rw [HL.out] at es; subst es; obtain ⟨Af, cf, ef⟩ := Kd.R_slice hf; subst ef; have HSR := Lib.hid (Kd.S_reads' hs); have HFR := Lib.hid (Kd.R_reads' hf); have HB4 := Lib.hid hb; clear hs hf hb))
  obtain ⟨W5, hW5⟩ : ∃ W5, W5 = W4.alloc (.cells #[.slice As 120 cs, .slice Af fin.length cf] 80) := ⟨_, rfl⟩
  have hb5 : Below W4.heap.size W4 W5 := by rw [hW5]; exact below_alloc (Below.refl _ _) _
  have hbx : W5.heap[W4.heap.size]? = some (.cells #[.slice As 120 cs, .slice Af fin.length cf] 80 (0, 0)) := by rw [hW5]; exact blk_new _ _
  have HSR5 := Lib.hid (Kd.C_below HSR.out.2.2 hb5)
  have HFR5 := Lib.hid (Kd.C_below HFR.out.2.2 hb5)
  have HSC := Lib.hid (And.intro HSR.out.2.1 HFR.out.2.1)
  have HBX := Lib.hid hbx
  have HB5 := Aside0.mk (below_step (below_step (below_step (below_step HB1.out HB2.out) HB3.out) HB4.out) hb5)
  rw [← hW5]
  generalize W4.heap.size = g8 at HBX ⊢
  clear hb5 hbx hW5 HSR HFR HTR HJR HB1 HB2 HB3 HB4 HSP hS
  have hIMP : ∀ V At ct Aj cj, Kd.C k62 V At ts.length ts → ts.length ≤ ct → Kd.C k67 V Aj js.length js → js.length ≤ cj → Calls Try.prog 51 #[.slice At ts.length ct, .slice Aj js.length cj, .int .i64 (cores : Int)] V fun e w' => ∃ (gr_ : Nat) (us_ : List Value) (v1_ : Value), e = .returned (.agg #[.slice (some ⟨gr_, 0, none⟩) 120 120, v1_]) ∧ Gr w' V.heap.size gr_ us_ rows ∧ Kd.R (Kd.int .i64) 3 w' V.heap.size (fun _ => True) v1_ fin ∧ (∀ i k, i < us_.length → (us_.getD i nilV).ownBlock = some k → v1_.ownBlock ≠ some k) ∧ V.heap.size ≤ gr_ ∧ Below V.heap.size V w' := fun V At ct Aj cj h1 h2 h3 h4 => by
    rw [HRW.out, HFN.out]
    exact runGlobal_calls At ct ts Aj cj js cores V h1 h2 h3 h4 hleg hcor (by omega) hk1 hk5
  have HIMP := Lib.hid hIMP
  clear hIMP
  go_upto_region 11 with (first | (go_at_call 18; refine (HT.out _ HB5.out).mono ?_; rintro e W6 ⟨vt, rfl, ht, hb⟩; obtain ⟨Ax, cx, et⟩ := Kd.R_slice ht; subst et; have HX0 := Lib.hid ht; have HB6 := Lib.hid hb; clear ht hb) | (go_at_call 19; refine (HJ.out _ (below_step HB5.out HB6.out)).mono ?_; rintro e W7 ⟨vj, rfl, hj, hb⟩; obtain ⟨Ay, cy, ej⟩ := Kd.R_slice hj; subst ej; have HX1 := Lib.hid hj; have HB7 := Lib.hid hb; clear hj hb))
  have HX07 := Lib.hid (Kd.R_below HX0.out HB7.out)
  have HXA := Lib.hid (And.intro (Kd.R_base HX0.out) (Kd.R_lt HX0.out))
  have HXB := Lib.hid (And.intro (Kd.R_base HX1.out) (Kd.R_lt HX1.out))
  go_upto_region 12 with (go_at_call 51; refine (HIMP.out _ _ _ _ _ (Kd.R_reads' HX07.out).2.2 (Kd.R_reads' HX07.out).2.1 (Kd.R_reads' HX1.out).2.2 (Kd.R_reads' HX1.out).2.1).mono ?_; rintro e W8 ⟨gr, us, v1, rfl, hg, hf, hap, hgr, hb⟩; obtain ⟨Ag, cg, eg⟩ := Kd.R_slice hf; subst eg; have HG8 := Lib.hid hg; have HF8 := Lib.hid hf; have HAP := Lib.hid hap; have HGR := Lib.hid hgr; have HB8 := Lib.hid hb; clear hg hf hap hgr hb)
  have HEQ := Lib.hid (fun V (G As Af Ag : Option Addr) (cs cf cg : Nat) (h1 : Kd.C (Kd.slice 3 (Kd.int .i64)) V G rows.length rows) (h2 : Kd.C (Kd.int .i64) V Ag fin.length fin) (h2c : fin.length ≤ cg) (h3 : Kd.C (Kd.slice 3 (Kd.int .i64)) V As rows.length rows) (h3c : 120 ≤ cs) (h4 : Kd.C (Kd.int .i64) V Af fin.length fin) (h4c : fin.length ≤ cf) =>
    (show Calls Try.prog 64 #[.agg #[.slice G 120 120, .slice Ag fin.length cg], .agg #[.slice As 120 cs, .slice Af fin.length cf]] V fun e w' => e = .returned (.bool true) ∧ Below V.heap.size V w' from by
      have := laws_eqGlobalRun.calls kk G 120 rows Ag cg fin As cs rows Af cf fin true V h1 (by rw [HL.out]; exact Nat.le_refl _) h2 h2c h3 (by rw [HL.out]; exact h3c) h4 h4c hER
      rw [HL.out] at this
      exact this))
  have HET := Lib.hid (fun V (A B : Option Addr) (c d : Nat) h1 h2 h3 h4 => laws_eqTaskS.calls kk A c ts B d ts true V h1 h2 h3 h4 hET)
  have HEJ := Lib.hid (fun V (A B : Option Addr) (c d : Nat) h1 h2 h3 h4 => laws_eqJobS.calls kk A c js B d js true V h1 h2 h3 h4 hEJ)
  obtain ⟨W9, hW9⟩ : ∃ W9, W9 = W8.alloc (.cells #[.slice (some ⟨gr, 0, none⟩) 120 120, .slice Ag fin.length cg] 80) := ⟨_, rfl⟩
  have hb9 : Below W8.heap.size W8 W9 := by rw [hW9]; exact below_alloc (Below.refl _ _) _
  have hbx9 : W9.heap[W8.heap.size]? = some (.cells #[.slice (some ⟨gr, 0, none⟩) 120 120, .slice Ag fin.length cg] 80 (0, 0)) := by rw [hW9]; exact blk_new _ _
  have HB59 := Lib.hid (below_step (below_step (below_step HB6.out HB7.out) HB8.out) hb9)
  have HB79 := Lib.hid (below_step HB8.out hb9)
  have HX09 := Lib.hid (Kd.R_below HX07.out HB79.out)
  have HX19 := Lib.hid (Kd.R_below HX1.out HB79.out)
  have HG9 := Lib.hid (HG8.out.below hb9)
  have HF9 := Lib.hid (Kd.R_below HF8.out hb9)
  have HBX9 := Lib.hid hbx9
  have HB09 := Lib.hid (below_step HB5.out HB59.out)
  have HBX8 := Lib.hid (blk_below HBX.out HB59.out)
  rw [← hW9]
  generalize hg11 : W8.heap.size = g11 at HBX9 ⊢
  have HG11 := Lib.hid hg11
  clear hg11 hb9 hbx9 hW9 hER hET hEJ HX0 HX07 HX1 HG8 HF8
  -- the first look
  have c80 := (blk_cell HBX8.out 0).trans rfl
  have c81 := (blk_cell HBX8.out 1).trans rfl
  have c90 := (blk_cell HBX9.out 0).trans rfl
  have c91 := (blk_cell HBX9.out 1).trans rfl
  have HGC := Lib.hid (HG9.out.reads (by rw [HL.out]; omega))
  have HE1 := Lib.hid (HEQ.out W9 (some ⟨gr, 0, none⟩) As Af Ag cs cf cg HGC.out (Kd.R_reads' HF9.out).2.2 (Kd.R_reads' HF9.out).2.1 (Kd.C_below HSR5.out HB59.out) (by have := HSC.out.1; omega) (Kd.C_below HFR5.out HB59.out) HSC.out.2)
  go_upto_region 14 with (go_at_call 64; refine HE1.out.mono ?_; rintro e W10 ⟨rfl, hb⟩; have HB10 := Lib.hid hb; clear hb)
  clear c80 c81 c90 c91
  have HX0A := Lib.hid (fun V (hV : Below W9.heap.size W9 V) => Kd.C_below (Kd.R_reads' HX09.out).2.2 hV)
  have HX1A := Lib.hid (fun V (hV : Below W9.heap.size W9 V) => Kd.C_below (Kd.R_reads' HX19.out).2.2 hV)
  go_upto_region 18 with (first | (go_at_call 18; refine (HT.out _ (below_step HB09.out HB10.out)).mono ?_; rintro e W11 ⟨vt, rfl, ht, hb⟩; obtain ⟨At2, ct2, et⟩ := Kd.R_slice ht; subst et; have HT2 := Lib.hid (Kd.R_reads' ht); have HB11 := Lib.hid (below_step HB10.out hb); clear ht hb) | (go_at_call 24; refine (HET.out _ _ _ _ _ (HX0A.out _ HB11.out) (Kd.R_reads' HX09.out).2.1 HT2.out.2.2 HT2.out.2.1).mono ?_; rintro e W12 ⟨rfl, hb⟩; have HB12 := Lib.hid (below_step HB11.out hb); clear hb) | (go_at_call 19; refine (HJ.out _ (below_step HB09.out HB12.out)).mono ?_; rintro e W13 ⟨vj, rfl, hj, hb⟩; obtain ⟨Aj2, cj2, ej⟩ := Kd.R_slice hj; subst ej; have HJ2 := Lib.hid (Kd.R_reads' hj); have HB13 := Lib.hid (below_step HB12.out hb); clear hj hb) | (go_at_call 25; refine (HEJ.out _ _ _ _ _ (HX1A.out _ HB13.out) (Kd.R_reads' HX19.out).2.1 HJ2.out.2.2 HJ2.out.2.1).mono ?_; rintro e W14 ⟨rfl, hb⟩; have HB14 := Lib.hid (below_step HB13.out hb); clear hb))
  -- the marks of the arguments
  have HB5E := Lib.hid (below_step HB59.out HB14.out)
  have HM0 := Lib.hid (laws_markTaskS.calls kk _ _ ts 1 mt ts2 W5 W14 HB5E.out (Kd.R_tight rfl (Kd.R_below HX09.out HB14.out)) hMT)
  have HM1 := Lib.hid (fun V (hV : Below W5.heap.size W5 V) (hX : Kd.R k67 67 V W5.heap.size (fun k => some k = (Value.slice Ay js.length cy).ownBlock) (.slice Ay js.length cy) js) => laws_markJobS.calls kk _ _ js mt mj js2 W5 V hV hX hMJ)
  go_upto_region 20 with (go_at_call 28; refine HM0.out.mono ?_; rintro e W15 ⟨rfl, _, hb, hk⟩; have HB15 := Lib.hid hb; have HK15 := Lib.hid hk; clear hb hk)
  have HX115 := Lib.hid (Kd.R_kept (Kd.R_tight rfl (Kd.R_lower (Kd.R_below HX19.out HB14.out) HB6.out.size)) HK15.out (fun k h1 h2 => by
    have := HXB.out.1 k h1.symm
    have := HXA.out.2 k h2.symm
    omega))
  have HM1X := Lib.hid (HM1.out W15 HB15.out HX115.out)
  go_upto_region 21 with (go_at_call 29; refine HM1X.out.mono ?_; rintro e W16 ⟨rfl, _, hb, hk⟩; have HB16 := Lib.hid hb; have HK16 := Lib.hid hk; clear hb hk)
  have HSZ := Lib.hid (And.intro HB6.out.size (And.intro HB7.out.size HB8.out.size))
  -- what the marks leave
  have hout : ∀ k, W7.heap.size ≤ k → ¬ (some k = (Value.slice Ax ts.length cx).ownBlock) ∧ ¬ (some k = (Value.slice Ay js.length cy).ownBlock) := fun k hk => ⟨fun h => by
    have := HXA.out.2 k h.symm
    have := HSZ.out.2.1
    omega, fun h => by
    have := HXB.out.2 k h.symm
    omega⟩
  have HOUT := Lib.hid hout
  have hkeep : ∀ k, W7.heap.size ≤ k → k < W14.heap.size → W16.heap[k]? = W14.heap[k]? := fun k h1 h2 => by
    have h3 := HK15.out.2 k h2 (HOUT.out k h1).1
    have h4 := HK16.out.2 k (Nat.lt_of_lt_of_le h2 HK15.out.1) (HOUT.out k h1).2
    rw [h4, h3]
  have HKP := Lib.hid hkeep
  have hG14 := HG9.out.below HB14.out
  have HG16 := Lib.hid (hG14.step (HKP.out gr HGR.out (blk_lt hG14.blk)) (fun i k hi e hlt => HKP.out k (Kd.RR_base (hG14.row i (by rw [← hG14.len]; exact hi)) k e) hlt))
  have hF14 := Kd.R_below HF9.out HB14.out
  have HF16 := Lib.hid (row_stepG hF14 (fun k e hlt => HKP.out k (Kd.R_base hF14 k e) hlt))
  have hbx14 := blk_below HBX9.out HB14.out
  have HBX16 := Lib.hid ((HKP.out g11 (by have := HG11.out; have := HSZ.out.2.2; omega) (blk_lt hbx14)).trans hbx14)
  have HBXS := Lib.hid (blk_below HBX.out HB16.out)
  clear hout hkeep hG14 hF14 hbx14 HM0 HM1 HM1X HX115
  -- the second look
  have d2 : decide (mj < 0) = false := decide_eq_false (by omega)
  have b80 := (blk_cell HBXS.out 0).trans rfl
  have b81 := (blk_cell HBXS.out 1).trans rfl
  have b90 := (blk_cell HBX16.out 0).trans rfl
  have b91 := (blk_cell HBX16.out 1).trans rfl
  have HE2 := Lib.hid (HEQ.out W16 (some ⟨gr, 0, none⟩) As Af Ag cs cf cg (HG16.out.reads (by rw [HL.out]; omega)) (Kd.R_reads' HF16.out).2.2 (Kd.R_reads' HF16.out).2.1 (Kd.C_below HSR5.out HB16.out) (by have := HSC.out.1; omega) (Kd.C_below HFR5.out HB16.out) HSC.out.2)
  go_upto_region 23 with (go_at_call 64; refine HE2.out.mono ?_; rintro e W17 ⟨rfl, hb⟩; have HB17 := Lib.hid hb; clear hb)
  clear b80 b81 b90 b91 HE1 HE2 HGC
  -- the marks of the run
  obtain ⟨Q, hQ⟩ : ∃ Q, Q = mkN 1 rows rows.length + (fin.length : Int) := ⟨_, rfl⟩
  have hQ0 : 0 ≤ Q := by have := (mkN_bound (a := 1) hw (by omega) rows.length).1; omega
  have hG17 := HG16.out.below HB17.out
  have hF17 := Kd.R_below HF16.out HB17.out
  have hbx17 := blk_below HBX16.out HB17.out
  have hmk : Calls Try.prog 65 #[.agg #[.slice (some ⟨gr, 0, none⟩) 120 120, .slice Ag fin.length cg], .int .i64 1] W17 fun e w' => e = .returned (.int .i64 Q) ∧ Gr w' W7.heap.size gr us (mkR 1 rows rows.length) ∧ Kd.R (Kd.int .i64) 3 w' W7.heap.size (fun _ => True) (.slice Ag fin.length cg) (mkL (mkN 1 rows rows.length) fin.length) ∧ Below W7.heap.size W17 w' ∧ Kept W17 w' (fun k => (∃ i, i < us.length ∧ (us.getD i nilV).ownBlock = some k) ∨ (Value.slice Ag fin.length cg).ownBlock = some k) := by
    have h := markRun_calls W7.heap.size W17 gr 120 us rows (.slice Ag fin.length cg) fin 1 W17 (by rw [HL.out]; omega) hw hfl (by omega) (by omega) hG17 hF17 HAP.out (Below.refl _ _) (by have := HGR.out; have := blk_lt hG17.blk; omega)
    rw [hQ]
    have e : (Value.slice (some ⟨gr, 0, none⟩) rows.length 120) = .slice (some ⟨gr, 0, none⟩) 120 120 := by rw [HL.out]
    rw [e] at h
    exact h
  have HMK := Lib.hid hmk
  have HG17 := Lib.hid hG17
  have HF17 := Lib.hid hF17
  have HBX17 := Lib.hid hbx17
  have m0 := (blk_cell hbx17 0).trans rfl
  have m1 := (blk_cell hbx17 1).trans rfl
  have HHH := Lib.hid (show laws_heldGlobalRun.f kk (mkR 1 rows rows.length) (mkL (mkN 1 rows rows.length) fin.length) 1 = some Q from by rw [hQ]; exact hH)
  have HWD := Lib.hid hw
  clear hmk hG17 hF17 hbx17 hQ hH hw hMT hMJ
  go_upto_region 25 with (go_at_call 65; refine HMK.out.mono ?_; rintro e W18 ⟨rfl, hg, hf, hb, hk⟩; have HG18 := Lib.hid hg; have HF18 := Lib.hid hf; have HB18 := Lib.hid hb; have HK18 := Lib.hid hk; clear hg hf hb hk)
  -- what the marks of the run leave
  have hne1 : ∀ i, i < us.length → (us.getD i nilV).ownBlock ≠ some g11 := fun i hi e => Kd.RR_ne (HG17.out.row i (by rw [← HG17.out.len]; exact hi)) HBX17.out (by decide) e.symm
  have hne2 : (Value.slice Ag fin.length cg).ownBlock ≠ some g11 := fun e => Kd.R_ne HF17.out HBX17.out (by decide) e.symm
  have HBX18 := Lib.hid ((HK18.out.2 g11 (blk_lt HBX17.out) (fun h => h.elim (fun ⟨i, hi, e⟩ => hne1 i hi e) hne2)).trans HBX17.out)
  have HB518 := Lib.hid ((below_step HB16.out HB17.out).trans (HB18.out.mono (by have := HSZ.out.1; have := HSZ.out.2.1; omega)))
  have HCG := Lib.hid (Kd.R_reads' HF17.out).2.1
  have HELD := Lib.hid (fun V (hV : Below W18.heap.size W18 V) => (show Calls Try.prog 66 #[.agg #[.slice (some ⟨gr, 0, none⟩) 120 120, .slice Ag fin.length cg], .int .i64 1] V fun e w' => e = .returned (.int .i64 Q) ∧ Below V.heap.size V w' from by
    have hrl := mkR_len 1 rows rows.length
    have hll := mkL_len (mkN 1 rows rows.length) fin.length
    have hR := (HG18.out.below hV).reads (by rw [hrl, HL.out]; omega)
    have hF := Kd.R_reads' (Kd.R_below HF18.out hV)
    have h := laws_heldGlobalRun.calls kk (some ⟨gr, 0, none⟩) 120 (mkR 1 rows rows.length) Ag cg (mkL (mkN 1 rows rows.length) fin.length) 1 Q V hR (by rw [hrl, HL.out]; exact Nat.le_refl _) hF.2.2 (by rw [hll]; exact HCG.out) HHH.out
    rw [hll] at h
    have e : (Value.slice (some ⟨gr, 0, none⟩) (mkR 1 rows rows.length).length 120) = .slice (some ⟨gr, 0, none⟩) 120 120 := by rw [hrl, HL.out]
    rw [e] at h
    exact h))
  have q0 := (blk_cell HBX18.out 0).trans rfl
  have q1 := (blk_cell HBX18.out 1).trans rfl
  have HE3 := Lib.hid (HELD.out W18 (Below.refl _ _))
  have d3 : decide (Q < 0) = false := decide_eq_false (by omega)
  go_upto_region 31 with (go_at_call 66; refine HE3.out.mono ?_; rintro e W19 ⟨rfl, hb⟩; have HB19 := Lib.hid hb; clear hb)
  clear q0 q1 m0 m1 HE3 hne1 hne2
  have HB019 := Lib.hid (below_step (below_step HB5.out HB518.out) HB19.out)
  go_upto_region 32 with (first | (go_at_call 18; refine (HT.out _ HB019.out).mono ?_; rintro e W20 ⟨vt, rfl, ht, hb⟩; obtain ⟨At3, ct3, et⟩ := Kd.R_slice ht; subst et; have HT3 := Lib.hid (Kd.R_reads' ht); have HB20 := Lib.hid hb; clear ht hb) | (go_at_call 19; refine (HJ.out _ (below_step HB019.out HB20.out)).mono ?_; rintro e W21 ⟨vj, rfl, hj, hb⟩; obtain ⟨Aj3, cj3, ej⟩ := Kd.R_slice hj; subst ej; have HJ3 := Lib.hid (Kd.R_reads' hj); have HB21 := Lib.hid hb; clear hj hb) | (go_at_call 51; refine (HIMP.out _ _ _ _ _ (Kd.C_below HT3.out.2.2 HB21.out) HT3.out.2.1 HJ3.out.2.2 HJ3.out.2.1).mono ?_; rintro e W22 ⟨gr2, us2, v2, rfl, hg, hf, hap, hgr, hb⟩; obtain ⟨Ah, ch, eg⟩ := Kd.R_slice hf; subst eg; have HG22 := Lib.hid hg; have HF22 := Lib.hid (Kd.R_reads' hf); have HB22 := Lib.hid hb; clear hg hf hap hgr hb))
  obtain ⟨W23, hW23⟩ : ∃ W23, W23 = W22.alloc (.cells #[.slice (some ⟨gr2, 0, none⟩) 120 120, .slice Ah fin.length ch] 80) := ⟨_, rfl⟩
  have hb23 : Below W22.heap.size W22 W23 := by rw [hW23]; exact below_alloc (Below.refl _ _) _
  have hbx23 : W23.heap[W22.heap.size]? = some (.cells #[.slice (some ⟨gr2, 0, none⟩) 120 120, .slice Ah fin.length ch] 80 (0, 0)) := by rw [hW23]; exact blk_new _ _
  have HB1823 := Lib.hid (below_step (below_step (below_step (below_step HB19.out HB20.out) HB21.out) HB22.out) hb23)
  have HB523 := Lib.hid (below_step HB518.out HB1823.out)
  have HGC := Lib.hid ((HG22.out.below hb23).reads (by rw [HL.out]; omega))
  have HFC := Lib.hid (Kd.C_below HF22.out.2.2 hb23)
  have HBX23 := Lib.hid hbx23
  rw [← hW23]
  generalize W22.heap.size = g15 at HBX23 ⊢
  clear hb23 hbx23 hW23
  have c80 := (blk_cell (blk_below HBX.out HB523.out) 0).trans rfl
  have c81 := (blk_cell (blk_below HBX.out HB523.out) 1).trans rfl
  have c90 := (blk_cell HBX23.out 0).trans rfl
  have c91 := (blk_cell HBX23.out 1).trans rfl
  have HE4 := Lib.hid (HEQ.out W23 (some ⟨gr2, 0, none⟩) As Af Ah cs cf ch HGC.out HFC.out HF22.out.2.1 (Kd.C_below HSR5.out HB523.out) (by have := HSC.out.1; omega) (Kd.C_below HFR5.out HB523.out) HSC.out.2)
  go_upto_region 34 with (go_at_call 64; refine HE4.out.mono ?_; rintro e W24 ⟨rfl, hb⟩; have HB24 := Lib.hid (below_step HB1823.out hb); clear hb)
  clear c80 c81 c90 c91
  have q0 := (blk_cell (blk_below HBX18.out HB24.out) 0).trans rfl
  have q1 := (blk_cell (blk_below HBX18.out HB24.out) 1).trans rfl
  have HE5 := Lib.hid (HELD.out W24 HB24.out)
  go_wp2_with (go_at_call 66; refine HE5.out.mono ?_; rintro e W25 ⟨rfl, hb⟩; have HB25 := Lib.hid hb; clear hb)
  go_ret
  exact ⟨rfl, below_step (below_step (below_step HB5.out HB518.out) HB24.out) HB25.out⟩


set_option maxHeartbeats 2000000 in
set_option maxRecDepth 100000 in
/-- markIntSS where there are no rows. -/
theorem markNilS_calls (A : Option Addr) (c : Nat) (a : Int) (V : World) :
    Calls Try.prog 92 #[.slice A 0 c, .int .i64 a] V fun e w' => e = .returned (.int .i64 a) ∧ w' = V := by
  have hu33 := Try.underlying33
  go_enter Try.func92, Try.ntmps92
  go_wp2_with fail
  go_loopw [1, 5] (fun v1 v5 w' => v5 = .int .i64 0 ∧ v1 = .int .i64 a ∧ w' = V) (fun _ _ _ => 0)
  case atStart => exact ⟨rfl, rfl, rfl⟩
  case round =>
    obtain ⟨rfl, rfl, rfl⟩ := hrel
    go_wp2_with fail
    go_ret
    exact ⟨rfl, rfl⟩
set_option maxHeartbeats 2000000 in
set_option maxRecDepth 100000 in
/-- .. and a run of none. -/
theorem markRunNil_calls (a : Int) (V : World) :
    Calls Try.prog 65 #[.agg #[.slice none 0 0, .slice none 0 0], .int .i64 a] V fun e w' => e = .returned (.int .i64 a) ∧ Below V.heap.size V w' := by
  have hu := Try.underlying80
  obtain ⟨W, hW⟩ : ∃ W, W = V.alloc (.cells #[.slice none 0 0, .slice none 0 0] 80) := ⟨_, rfl⟩
  have hVW : Below V.heap.size V W := by rw [hW]; exact below_alloc (Below.refl _ _) _
  have hbx : W.heap[V.heap.size]? = some (.cells #[.slice none 0 0, .slice none 0 0] 80 (0, 0)) := by rw [hW]; exact blk_new _ _
  have HM := Lib.hid (markNilS_calls none 0 a W)
  have HN := Lib.hid (markNil_calls none 0 a W)
  have HX := Lib.hid hbx
  have HVW := Lib.hid hVW
  have HWQ := Lib.hid hW
  clear hbx hVW hW
  go_enter Try.func65, Try.ntmps65
  go_upto_region 1 with (fail)
  rw [← HWQ.out]
  have hx0 := (blk_cell HX.out 0).trans rfl
  have hx1 := (blk_cell HX.out 1).trans rfl
  go_wp2_with (first | (go_at_call 92; refine HM.out.mono ?_; rintro e w2 ⟨rfl, rfl⟩) | (go_at_call 57; refine HN.out.mono ?_; rintro e w3 ⟨rfl, rfl⟩))
  go_ret
  exact ⟨rfl, HVW.out⟩
theorem nilCI (w : World) : Kd.C (Kd.int .i64) w none ([] : List Int).length [] := ⟨rfl, by decide, fun h => absurd h (by decide)⟩
theorem nilCS (w : World) : Kd.C (Kd.slice 3 (Kd.int .i64)) w none ([] : List (List Int)).length [] := ⟨rfl, by decide, fun h => absurd h (by decide)⟩
set_option maxHeartbeats 4000000 in
set_option maxRecDepth 100000 in
/-- The law where an argument is not valid. -/
theorem glaw_bad (kk : Nat) (A0 : Option Addr) (c0 : Nat) (l0 : List (S105)) (A1 : Option Addr) (c1 : Nat) (l1 : List (S107)) (cores : Int) (w : World) (hr0 : Kd.C k105 w A0 l0.length l0) (hc0 : l0.length ≤ c0) (hr1 : Kd.C k107 w A1 l1.length l1) (hc1 : l1.length ≤ c1)
    (a b : Int) (ha : 0 ≤ a) (hb : 0 ≤ b) (ts : List (S62)) (js : List (S67)) (mt mj : Int) (ts2 : List (S62)) (js2 : List (S67))
    (hz0 : laws_szTaskS.f l0 1048576 = some a) (hz1 : laws_szJobS.f l1 a = some b) (hT : laws_toTaskS.f kk l0 = some ts) (hJ : laws_toJobS.f kk l1 = some js) (hS : spec_RunGlobal.f kk ts js cores = some ([], [])) (hET : laws_eqTaskS.f kk ts ts = some true) (hEJ : laws_eqJobS.f kk js js = some true)
    (hER : laws_eqGlobalRun.f kk [] [] [] [] = some true) (hMT : laws_markTaskS.f kk ts 1 = some (mt, ts2)) (hMJ : laws_markJobS.f kk js mt = some (mj, js2)) (hmj : 0 ≤ mj)
    (b1 b2 : Bool) (hleg : impl_JobsLegal.f ts js = some b1) (hcor : impl_isCores.f cores = some b2) (hbad : ¬ (b1 = true ∧ b2 = true)) (hH : laws_heldGlobalRun.f kk [] [] 1 = some 1) :
    Calls Try.prog 12 #[.slice A0 l0.length c0, .slice A1 l1.length c1, .int .i64 cores] w fun e w' => e = .returned (.bool true) ∧ Below w.heap.size w w' := by
  have hu80 := Try.underlying80
  have HZ0 := Lib.hid (fun V (hV : Below w.heap.size w V) => laws_szTaskS.calls A0 c0 l0 1048576 a V (Kd.C_below hr0 hV) hc0 hz0)
  have HZ1 := Lib.hid (fun V (hV : Below w.heap.size w V) => laws_szJobS.calls A1 c1 l1 a b V (Kd.C_below hr1 hV) hc1 hz1)
  have HT := Lib.hid (fun V (hV : Below w.heap.size w V) => laws_toTaskS.calls kk A0 c0 l0 ts V (Kd.C_below hr0 hV) hc0 hT)
  have HJ := Lib.hid (fun V (hV : Below w.heap.size w V) => laws_toJobS.calls kk A1 c1 l1 js V (Kd.C_below hr1 hV) hc1 hJ)
  have d0 : decide (a < 0) = false := decide_eq_false (by omega)
  have d1 : decide (b < 0) = false := decide_eq_false (by omega)
  have HB := Aside0.mk (Below.refl w.heap.size w)
  clear hr0 hc0 hr1 hc1 hz0 hz1 hT hJ
  go_enter Try.func12, Try.ntmps12
  go_upto_region 8 with (first | (go_at_call 13; refine (HZ0.out _ HB.out).mono ?_; rintro e w1 ⟨rfl, hd⟩; obtain ⟨m1, rfl⟩ := hd.out; clear hd) | (go_at_call 14; refine (HZ1.out _ (pw_below_drewN HB.out _)).mono ?_; rintro e w1 ⟨rfl, hd⟩; obtain ⟨m2, rfl⟩ := hd.out; clear hd))
  have HB1 := Aside0.mk (pw_below_drewN HB.out (m1 + m2))
  clear HB HZ0 HZ1
  generalize World.drewN w (m1 + m2) = W1 at HB1 ⊢
  have HSP := Lib.hid (fun V At ct Aj cj (h1 : Kd.C k62 V At ts.length ts) (h2 : ts.length ≤ ct) (h3 : Kd.C k67 V Aj js.length js) (h4 : js.length ≤ cj) => spec_RunGlobal.calls kk At ct ts Aj cj js cores [] [] V h1 h2 h3 h4 hS)
  go_upto_region 9 with (first | (go_at_call 18; refine (HT.out _ HB1.out).mono ?_; rintro e W2 ⟨vt, rfl, ht, hb⟩; obtain ⟨At, ct, et⟩ := Kd.R_slice ht; subst et; have HTR := Lib.hid (Kd.R_reads' ht); have HB2 := Lib.hid hb; clear ht hb) | (go_at_call 19; refine (HJ.out _ (below_step HB1.out HB2.out)).mono ?_; rintro e W3 ⟨vj, rfl, hj, hb⟩; obtain ⟨Aj, cj, ej⟩ := Kd.R_slice hj; subst ej; have HJR := Lib.hid (Kd.R_reads' hj); have HB3 := Lib.hid hb; clear hj hb) | (go_at_call 63; refine (HSP.out _ _ _ _ _ (Kd.C_below HTR.out.2.2 HB3.out) HTR.out.2.1 HJR.out.2.2 HJR.out.2.1).mono ?_; rintro e W4 ⟨v0, v1, rfl, hs, hf, hb⟩; obtain ⟨As, cs, es⟩ := Kd.S_slice hs; have es' : v0 = .slice As 0 cs := es; subst es'; obtain ⟨Af, cf, ef⟩ := Kd.R_slice hf; have ef' : v1 = .slice Af 0 cf := ef; subst ef'; have HSR := Lib.hid (Kd.S_reads' hs); have HFR := Lib.hid (Kd.R_reads' hf); have HB4 := Lib.hid hb; clear hs hf hb es ef))
  obtain ⟨W5, hW5⟩ : ∃ W5, W5 = W4.alloc (.cells #[.slice As 0 cs, .slice Af 0 cf] 80) := ⟨_, rfl⟩
  have hb5 : Below W4.heap.size W4 W5 := by rw [hW5]; exact below_alloc (Below.refl _ _) _
  have hbx : W5.heap[W4.heap.size]? = some (.cells #[.slice As 0 cs, .slice Af 0 cf] 80 (0, 0)) := by rw [hW5]; exact blk_new _ _
  have HSR5 := Lib.hid (Kd.C_below HSR.out.2.2 hb5)
  have HFR5 := Lib.hid (Kd.C_below HFR.out.2.2 hb5)
  have HBX := Lib.hid hbx
  have HB5 := Aside0.mk (below_step (below_step (below_step (below_step HB1.out HB2.out) HB3.out) HB4.out) hb5)
  rw [← hW5]
  generalize W4.heap.size = g8 at HBX ⊢
  clear hb5 hbx hW5 HSR HFR HTR HJR HB1 HB2 HB3 HB4 HSP hS
  have HIMP := Lib.hid (fun V At ct Aj cj h1 h2 h3 h4 => runGlobal_bad At ct ts Aj cj js cores b1 b2 V h1 h2 h3 h4 hleg hcor hbad)
  go_upto_region 11 with (first | (go_at_call 18; refine (HT.out _ HB5.out).mono ?_; rintro e W6 ⟨vt, rfl, ht, hb⟩; obtain ⟨Ax, cx, et⟩ := Kd.R_slice ht; subst et; have HX0 := Lib.hid ht; have HB6 := Lib.hid hb; clear ht hb) | (go_at_call 19; refine (HJ.out _ (below_step HB5.out HB6.out)).mono ?_; rintro e W7 ⟨vj, rfl, hj, hb⟩; obtain ⟨Ay, cy, ej⟩ := Kd.R_slice hj; subst ej; have HX1 := Lib.hid hj; have HB7 := Lib.hid hb; clear hj hb))
  have HX07 := Lib.hid (Kd.R_below HX0.out HB7.out)
  have HXA := Lib.hid (And.intro (Kd.R_base HX0.out) (Kd.R_lt HX0.out))
  have HXB := Lib.hid (And.intro (Kd.R_base HX1.out) (Kd.R_lt HX1.out))
  go_upto_region 12 with (go_at_call 51; refine (HIMP.out _ _ _ _ _ (Kd.R_reads' HX07.out).2.2 (Kd.R_reads' HX07.out).2.1 (Kd.R_reads' HX1.out).2.2 (Kd.R_reads' HX1.out).2.1).mono ?_; rintro e W8 ⟨rfl, hb⟩; have HB8 := Lib.hid hb; clear hb)
  have HEQ := Lib.hid (fun V (As Af : Option Addr) (cs cf : Nat) (h3 : Kd.C (Kd.slice 3 (Kd.int .i64)) V As ([] : List (List Int)).length []) (h4 : Kd.C (Kd.int .i64) V Af ([] : List Int).length []) =>
    (show Calls Try.prog 64 #[.agg #[.slice none 0 0, .slice none 0 0], .agg #[.slice As 0 cs, .slice Af 0 cf]] V fun e w' => e = .returned (.bool true) ∧ Below V.heap.size V w' from
      laws_eqGlobalRun.calls kk none 0 [] none 0 [] As cs [] Af cf [] true V (nilCS V) (Nat.le_refl _) (nilCI V) (Nat.le_refl _) h3 (Nat.zero_le _) h4 (Nat.zero_le _) hER))
  have HELD := Lib.hid (fun V => (show Calls Try.prog 66 #[.agg #[.slice none 0 0, .slice none 0 0], .int .i64 1] V fun e w' => e = .returned (.int .i64 1) ∧ Below V.heap.size V w' from
      laws_heldGlobalRun.calls kk none 0 [] none 0 [] 1 1 V (nilCS V) (Nat.le_refl _) (nilCI V) (Nat.le_refl _) hH))
  have HET := Lib.hid (fun V (A B : Option Addr) (c d : Nat) h1 h2 h3 h4 => laws_eqTaskS.calls kk A c ts B d ts true V h1 h2 h3 h4 hET)
  have HEJ := Lib.hid (fun V (A B : Option Addr) (c d : Nat) h1 h2 h3 h4 => laws_eqJobS.calls kk A c js B d js true V h1 h2 h3 h4 hEJ)
  obtain ⟨W9, hW9⟩ : ∃ W9, W9 = W8.alloc (.cells #[.slice none 0 0, .slice none 0 0] 80) := ⟨_, rfl⟩
  have hb9 : Below W8.heap.size W8 W9 := by rw [hW9]; exact below_alloc (Below.refl _ _) _
  have hbx9 : W9.heap[W8.heap.size]? = some (.cells #[.slice none 0 0, .slice none 0 0] 80 (0, 0)) := by rw [hW9]; exact blk_new _ _
  have HB59 := Lib.hid (below_step (below_step (below_step HB6.out HB7.out) HB8.out) hb9)
  have HB79 := Lib.hid (below_step HB8.out hb9)
  have HX09 := Lib.hid (Kd.R_below HX07.out HB79.out)
  have HX19 := Lib.hid (Kd.R_below HX1.out HB79.out)
  have HBX9 := Lib.hid hbx9
  have HB09 := Lib.hid (below_step HB5.out HB59.out)
  have HBX8 := Lib.hid (blk_below HBX.out HB59.out)
  rw [← hW9]
  generalize hg11 : W8.heap.size = g11 at HBX9 ⊢
  have HG11 := Lib.hid hg11
  clear hg11 hb9 hbx9 hW9 hER hET hEJ HX0 HX07 HX1 hH
  -- the first look
  have c80 := (blk_cell HBX8.out 0).trans rfl
  have c81 := (blk_cell HBX8.out 1).trans rfl
  have c90 := (blk_cell HBX9.out 0).trans rfl
  have c91 := (blk_cell HBX9.out 1).trans rfl
  have HE1 := Lib.hid (HEQ.out W9 As Af cs cf (Kd.C_below HSR5.out HB59.out) (Kd.C_below HFR5.out HB59.out))
  go_upto_region 14 with (go_at_call 64; refine HE1.out.mono ?_; rintro e W10 ⟨rfl, hb⟩; have HB10 := Lib.hid hb; clear hb)
  clear c80 c81 c90 c91
  have HX0A := Lib.hid (fun V (hV : Below W9.heap.size W9 V) => Kd.C_below (Kd.R_reads' HX09.out).2.2 hV)
  have HX1A := Lib.hid (fun V (hV : Below W9.heap.size W9 V) => Kd.C_below (Kd.R_reads' HX19.out).2.2 hV)
  go_upto_region 18 with (first | (go_at_call 18; refine (HT.out _ (below_step HB09.out HB10.out)).mono ?_; rintro e W11 ⟨vt, rfl, ht, hb⟩; obtain ⟨At2, ct2, et⟩ := Kd.R_slice ht; subst et; have HT2 := Lib.hid (Kd.R_reads' ht); have HB11 := Lib.hid (below_step HB10.out hb); clear ht hb) | (go_at_call 24; refine (HET.out _ _ _ _ _ (HX0A.out _ HB11.out) (Kd.R_reads' HX09.out).2.1 HT2.out.2.2 HT2.out.2.1).mono ?_; rintro e W12 ⟨rfl, hb⟩; have HB12 := Lib.hid (below_step HB11.out hb); clear hb) | (go_at_call 19; refine (HJ.out _ (below_step HB09.out HB12.out)).mono ?_; rintro e W13 ⟨vj, rfl, hj, hb⟩; obtain ⟨Aj2, cj2, ej⟩ := Kd.R_slice hj; subst ej; have HJ2 := Lib.hid (Kd.R_reads' hj); have HB13 := Lib.hid (below_step HB12.out hb); clear hj hb) | (go_at_call 25; refine (HEJ.out _ _ _ _ _ (HX1A.out _ HB13.out) (Kd.R_reads' HX19.out).2.1 HJ2.out.2.2 HJ2.out.2.1).mono ?_; rintro e W14 ⟨rfl, hb⟩; have HB14 := Lib.hid (below_step HB13.out hb); clear hb))
  -- the marks of the arguments
  have HB5E := Lib.hid (below_step HB59.out HB14.out)
  have HM0 := Lib.hid (laws_markTaskS.calls kk _ _ ts 1 mt ts2 W5 W14 HB5E.out (Kd.R_tight rfl (Kd.R_below HX09.out HB14.out)) hMT)
  have HM1 := Lib.hid (fun V (hV : Below W5.heap.size W5 V) (hX : Kd.R k67 67 V W5.heap.size (fun k => some k = (Value.slice Ay js.length cy).ownBlock) (.slice Ay js.length cy) js) => laws_markJobS.calls kk _ _ js mt mj js2 W5 V hV hX hMJ)
  go_upto_region 20 with (go_at_call 28; refine HM0.out.mono ?_; rintro e W15 ⟨rfl, _, hb, hk⟩; have HB15 := Lib.hid hb; have HK15 := Lib.hid hk; clear hb hk)
  have HX115 := Lib.hid (Kd.R_kept (Kd.R_tight rfl (Kd.R_lower (Kd.R_below HX19.out HB14.out) HB6.out.size)) HK15.out (fun k h1 h2 => by
    have := HXB.out.1 k h1.symm
    have := HXA.out.2 k h2.symm
    omega))
  have HM1X := Lib.hid (HM1.out W15 HB15.out HX115.out)
  go_upto_region 21 with (go_at_call 29; refine HM1X.out.mono ?_; rintro e W16 ⟨rfl, _, hb, hk⟩; have HB16 := Lib.hid hb; have HK16 := Lib.hid hk; clear hb hk)
  have HSZ := Lib.hid (And.intro HB6.out.size (And.intro HB7.out.size HB8.out.size))
  -- what the marks leave
  have hout : ∀ k, W7.heap.size ≤ k → ¬ (some k = (Value.slice Ax ts.length cx).ownBlock) ∧ ¬ (some k = (Value.slice Ay js.length cy).ownBlock) := fun k hk => ⟨fun h => by
    have := HXA.out.2 k h.symm
    have := HSZ.out.2.1
    omega, fun h => by
    have := HXB.out.2 k h.symm
    omega⟩
  have HOUT := Lib.hid hout
  have hkeep : ∀ k, W7.heap.size ≤ k → k < W14.heap.size → W16.heap[k]? = W14.heap[k]? := fun k h1 h2 => by
    have h3 := HK15.out.2 k h2 (HOUT.out k h1).1
    have h4 := HK16.out.2 k (Nat.lt_of_lt_of_le h2 HK15.out.1) (HOUT.out k h1).2
    rw [h4, h3]
  have HKP := Lib.hid hkeep
  have hbx14 := blk_below HBX9.out HB14.out
  have HBX16 := Lib.hid ((HKP.out g11 (by have := HG11.out; have := HSZ.out.2.2; omega) (blk_lt hbx14)).trans hbx14)
  have HBXS := Lib.hid (blk_below HBX.out HB16.out)
  clear hout hkeep hbx14 HM0 HM1 HM1X HX115
  -- the second look
  have d2 : decide (mj < 0) = false := decide_eq_false (by omega)
  have b80 := (blk_cell HBXS.out 0).trans rfl
  have b81 := (blk_cell HBXS.out 1).trans rfl
  have b90 := (blk_cell HBX16.out 0).trans rfl
  have b91 := (blk_cell HBX16.out 1).trans rfl
  have HE2 := Lib.hid (HEQ.out W16 As Af cs cf (Kd.C_below HSR5.out HB16.out) (Kd.C_below HFR5.out HB16.out))
  go_upto_region 23 with (go_at_call 64; refine HE2.out.mono ?_; rintro e W17 ⟨rfl, hb⟩; have HB17 := Lib.hid hb; clear hb)
  clear b80 b81 b90 b91 HE1 HE2
  have HB517 := Lib.hid (below_step HB16.out HB17.out)
  have HBX17 := Lib.hid (blk_below HBX16.out HB17.out)
  have m0 := (blk_cell HBX17.out 0).trans rfl
  have m1 := (blk_cell HBX17.out 1).trans rfl
  have HMK := Lib.hid (markRunNil_calls 1 W17)
  go_upto_region 25 with (go_at_call 65; refine HMK.out.mono ?_; rintro e W18 ⟨rfl, hb⟩; have HB18 := Lib.hid hb; clear hb)
  clear m0 m1
  have HBX18 := Lib.hid (blk_below HBX17.out HB18.out)
  have q0 := (blk_cell HBX18.out 0).trans rfl
  have q1 := (blk_cell HBX18.out 1).trans rfl
  have HE3 := Lib.hid (HELD.out W18)
  go_upto_region 31 with (go_at_call 66; refine HE3.out.mono ?_; rintro e W19 ⟨rfl, hb⟩; have HB19 := Lib.hid hb; clear hb)
  clear q0 q1
  have HB519 := Lib.hid (below_step (below_step HB517.out HB18.out) HB19.out)
  have HB019 := Lib.hid (below_step HB5.out HB519.out)
  go_upto_region 32 with (first | (go_at_call 18; refine (HT.out _ HB019.out).mono ?_; rintro e W20 ⟨vt, rfl, ht, hb⟩; obtain ⟨At3, ct3, et⟩ := Kd.R_slice ht; subst et; have HT3 := Lib.hid (Kd.R_reads' ht); have HB20 := Lib.hid hb; clear ht hb) | (go_at_call 19; refine (HJ.out _ (below_step HB019.out HB20.out)).mono ?_; rintro e W21 ⟨vj, rfl, hj, hb⟩; obtain ⟨Aj3, cj3, ej⟩ := Kd.R_slice hj; subst ej; have HJ3 := Lib.hid (Kd.R_reads' hj); have HB21 := Lib.hid hb; clear hj hb) | (go_at_call 51; refine (HIMP.out _ _ _ _ _ (Kd.C_below HT3.out.2.2 HB21.out) HT3.out.2.1 HJ3.out.2.2 HJ3.out.2.1).mono ?_; rintro e W22 ⟨rfl, hb⟩; have HB22 := Lib.hid hb; clear hb))
  obtain ⟨W23, hW23⟩ : ∃ W23, W23 = W22.alloc (.cells #[.slice none 0 0, .slice none 0 0] 80) := ⟨_, rfl⟩
  have hb23 : Below W22.heap.size W22 W23 := by rw [hW23]; exact below_alloc (Below.refl _ _) _
  have hbx23 : W23.heap[W22.heap.size]? = some (.cells #[.slice none 0 0, .slice none 0 0] 80 (0, 0)) := by rw [hW23]; exact blk_new _ _
  have HB1823 := Lib.hid (below_step (below_step (below_step (below_step HB19.out HB20.out) HB21.out) HB22.out) hb23)
  have HB523 := Lib.hid (below_step (below_step HB517.out HB18.out) HB1823.out)
  have HBX23 := Lib.hid hbx23
  rw [← hW23]
  generalize W22.heap.size = g15 at HBX23 ⊢
  clear hb23 hbx23 hW23
  have c80 := (blk_cell (blk_below HBX.out HB523.out) 0).trans rfl
  have c81 := (blk_cell (blk_below HBX.out HB523.out) 1).trans rfl
  have c90 := (blk_cell HBX23.out 0).trans rfl
  have c91 := (blk_cell HBX23.out 1).trans rfl
  have HE4 := Lib.hid (HEQ.out W23 As Af cs cf (Kd.C_below HSR5.out HB523.out) (Kd.C_below HFR5.out HB523.out))
  go_upto_region 34 with (go_at_call 64; refine HE4.out.mono ?_; rintro e W24 ⟨rfl, hb⟩; have HB24 := Lib.hid (below_step HB1823.out hb); clear hb)
  clear c80 c81 c90 c91
  have q0 := (blk_cell (blk_below HBX18.out HB24.out) 0).trans rfl
  have q1 := (blk_cell (blk_below HBX18.out HB24.out) 1).trans rfl
  have HE5 := Lib.hid (HELD.out W24)
  go_wp2_with (go_at_call 66; refine HE5.out.mono ?_; rintro e W25 ⟨rfl, hb⟩; have HB25 := Lib.hid hb; clear hb)
  go_ret
  exact ⟨rfl, below_step (below_step HB5.out (below_step (below_step HB517.out HB18.out) HB24.out)) HB25.out⟩


set_option maxHeartbeats 2000000 in
set_option maxRecDepth 100000 in
/-- The law where the tasks are too many. -/
theorem glaw_e0 (A0 : Option Addr) (c0 : Nat) (l0 : List (S105)) (v1 : Value) (cores : Int) (w : World) (hr0 : Kd.C k105 w A0 l0.length l0) (hc0 : l0.length ≤ c0) (a : Int) (ha : a < 0) (hz0 : laws_szTaskS.f l0 1048576 = some a) :
    Calls Try.prog 12 #[.slice A0 l0.length c0, v1, .int .i64 cores] w fun e w' => e = .returned (.bool true) ∧ Below w.heap.size w w' := by
  have HZ0 := Lib.hid (fun V (hV : Below w.heap.size w V) => laws_szTaskS.calls A0 c0 l0 1048576 a V (Kd.C_below hr0 hV) hc0 hz0)
  have d0 : decide (a < 0) = true := decide_eq_true ha
  have HB := Aside0.mk (Below.refl w.heap.size w)
  clear hr0 hc0 hz0
  go_enter Try.func12, Try.ntmps12
  go_wp2_with (go_at_call 13; refine (HZ0.out _ HB.out).mono ?_; rintro e w1 ⟨rfl, hd⟩; obtain ⟨m1, rfl⟩ := hd.out; clear hd)
  go_ret
  exact ⟨rfl, pw_below_drewN HB.out _⟩
set_option maxHeartbeats 2000000 in
set_option maxRecDepth 100000 in
/-- .. or the jobs. -/
theorem glaw_e1 (A0 : Option Addr) (c0 : Nat) (l0 : List (S105)) (A1 : Option Addr) (c1 : Nat) (l1 : List (S107)) (cores : Int) (w : World) (hr0 : Kd.C k105 w A0 l0.length l0) (hc0 : l0.length ≤ c0) (hr1 : Kd.C k107 w A1 l1.length l1) (hc1 : l1.length ≤ c1)
    (a b : Int) (ha : 0 ≤ a) (hb : b < 0) (hz0 : laws_szTaskS.f l0 1048576 = some a) (hz1 : laws_szJobS.f l1 a = some b) :
    Calls Try.prog 12 #[.slice A0 l0.length c0, .slice A1 l1.length c1, .int .i64 cores] w fun e w' => e = .returned (.bool true) ∧ Below w.heap.size w w' := by
  have HZ0 := Lib.hid (fun V (hV : Below w.heap.size w V) => laws_szTaskS.calls A0 c0 l0 1048576 a V (Kd.C_below hr0 hV) hc0 hz0)
  have HZ1 := Lib.hid (fun V (hV : Below w.heap.size w V) => laws_szJobS.calls A1 c1 l1 a b V (Kd.C_below hr1 hV) hc1 hz1)
  have d0 : decide (a < 0) = false := decide_eq_false (by omega)
  have d1 : decide (b < 0) = true := decide_eq_true hb
  have HB := Aside0.mk (Below.refl w.heap.size w)
  clear hr0 hc0 hr1 hc1 hz0 hz1
  go_enter Try.func12, Try.ntmps12
  go_wp2_with (first | (go_at_call 13; refine (HZ0.out _ HB.out).mono ?_; rintro e w1 ⟨rfl, hd⟩; obtain ⟨m1, rfl⟩ := hd.out; clear hd) | (go_at_call 14; refine (HZ1.out _ (pw_below_drewN HB.out _)).mono ?_; rintro e w1 ⟨rfl, hd⟩; obtain ⟨m2, rfl⟩ := hd.out; clear hd))
  go_ret
  exact ⟨rfl, pw_below_drewN HB.out _⟩

end Go.Proofs.Ytonifhkplniblaa.Print

namespace Go.Proofs.Ytonifhkplniblaa.Print
open Go.RowKit Go.Proofs.YtonifhkplniblaaW.PrintWords Go.Proofs.YtonifhkplniblaaW.PrintMore Go.Proofs.Ytonifhkplniblaa.Evs Go.Proofs.Ytonifhkplniblaa.Opens Go.Proofs.Ytonifhkplniblaa.Walk
set_option linter.unusedSimpArgs false
set_option linter.unusedVariables false
theorem gR_wide (jobs : List S67) (cores : Nat) (hn : jobs.length ≤ 60) : ∀ t i, ((gR jobs cores t).getD i []).length ≤ 60
  | 0, i => by
    unfold gR
    rw [List.getD_eq_getElem?_getD, List.getElem?_replicate]
    split <;> simp
  | t + 1, i => by
    unfold gR
    rw [getD_setR]
    split
    · exact takeG_len jobs cores _ t hn
    · exact gR_wide jobs cores hn t i
theorem impl_in_fG (x a b : Int) : impl_in.f x a b = some (decide (a ≤ x ∧ x ≤ b)) := by
  unfold impl_in.f
  by_cases h : x ≥ a
  · have h' : a ≤ x := h
    simp [h, h']
  · have h' : ¬ a ≤ x := h
    simp [h, h']
theorem impl_isCores_fG (a : Int) : impl_isCores.f a = some (decide (1 ≤ a ∧ a ≤ 5)) := by
  unfold impl_isCores.f
  rw [impl_in_fG]
  rfl
set_option maxHeartbeats 2000000 in
theorem glaw_all (A0 : Option Addr) (c0 : Nat) (l0 : List (S105)) (A1 : Option Addr) (c1 : Nat) (l1 : List (S107)) (cores : Int) (w : World) (hr0 : Kd.C k105 w A0 l0.length l0) (hc0 : l0.length ≤ c0) (hr1 : Kd.C k107 w A1 l1.length l1) (hc1 : l1.length ≤ c1)
    (hw0 : l0.length ≤ 9223372036854775807) (hw1 : l1.length ≤ 9223372036854775807) :
    Calls Try.prog 12 #[.slice A0 l0.length c0, .slice A1 l1.length c1, .int .i64 cores] w fun e w' => e = .returned (.bool true) ∧ Below w.heap.size w w' := by
  have hz0 := szTaskS_f l0 1048576 (by omega) (by omega) hw0
  by_cases g0 : (1048576 : Int) < l0.length
  · rw [if_pos g0] at hz0
    exact glaw_e0 A0 c0 l0 _ cores w hr0 hc0 _ (by omega) hz0
  rw [if_neg g0] at hz0
  have hz1 := szJobS_f l1 (1048576 - l0.length) (by omega) (by omega) hw1
  by_cases g1 : (1048576 - l0.length : Int) < l1.length
  · rw [if_pos g1] at hz1
    exact glaw_e1 A0 c0 l0 A1 c1 l1 cores w hr0 hc0 hr1 hc1 _ _ (by omega) (by omega) hz0 hz1
  rw [if_neg g1] at hz1
  have hl0 : l0.length ≤ 1048576 := by omega
  have hl1 : l1.length ≤ 1048576 := by omega
  have hm0 : (l0.map cvTask).length ≤ 1048576 := by simpa using hl0
  have hm1 : (l1.map cvJob).length ≤ 1048576 := by simpa using hl1
  obtain ⟨kT, hT⟩ := toTaskS_ev l0 hl0
  obtain ⟨kJ, hJ⟩ := toJobS_ev l1 hl1
  obtain ⟨x, hx⟩ : ∃ x, x = l0.map cvTask := ⟨_, rfl⟩
  obtain ⟨y, hy⟩ : ∃ y, y = l1.map cvJob := ⟨_, rfl⟩
  rw [← hx] at hT hm0
  rw [← hy] at hJ hm1
  obtain ⟨kS, hS⟩ := spec_RunGlobal_ev x y cores hm0 hm1
  obtain ⟨kET, hET⟩ := eqTaskS_ev x hm0
  obtain ⟨kEJ, hEJ⟩ := eqJobS_ev y hm1
  obtain ⟨t1, kMT, hMT⟩ := markTaskS_ev x 1 (by omega) (by omega) hm0
  obtain ⟨t2, kMJ, hMJ⟩ := markJobS_ev y (1 + 3 * (x.length : Int)) (by omega) (by omega) hm1
  have hleg := impl_JobsLegal_f x y
  have hcor := impl_isCores_fG cores
  by_cases hv : legal x y = true ∧ (1 ≤ cores ∧ cores ≤ 5)
  · obtain ⟨n, rfl⟩ : ∃ n : Nat, cores = (n : Int) := ⟨cores.toNat, by omega⟩
    have h60 := (legal_okG hv.1).1
    unfold runGlob at hS
    rw [if_pos hv.1, if_pos hv.2, Int.toNat_natCast] at hS
    rw [hv.1] at hleg
    rw [decide_eq_true hv.2] at hcor
    have hfl : (gN y n 120).2.length ≤ 1000 := by rw [(gN_len (jobs := y) (cores := n) 120).2]; omega
    have hwd : ∀ i, ((gR y n 120).getD i []).length ≤ 1000 := fun i => by have := gR_wide y n h60 120 i; omega
    have hrl : (gR y n 120).length = 120 := gR_len y n 120
    obtain ⟨rows, hrows⟩ : ∃ rows, rows = gR y n 120 := ⟨_, rfl⟩
    obtain ⟨fin, hfin⟩ : ∃ fin, fin = (gN y n 120).2 := ⟨_, rfl⟩
    rw [← hrows, ← hfin] at hS
    rw [← hrows] at hwd hrl
    rw [← hfin] at hfl
    obtain ⟨kER, hER⟩ := eqRunG_ev rows fin (by omega) (fun i => by have := hwd i; omega) (by omega)
    obtain ⟨kH, hH⟩ := heldRun_ev 1 rows fin.length (by omega) (by omega) (by omega) hwd hfl
    exact glaw_valid (kT + kJ + kS + kET + kEJ + kMT + kMJ + kER + kH) A0 c0 l0 A1 c1 l1 n w hr0 hc0 hr1 hc1 _ _ (by omega) (by omega) x y rows fin _ _ t1 t2 hz0 hz1 (hT _ (by omega)) (hJ _ (by omega)) (hS _ (by omega)) (hET _ (by omega)) (hEJ _ (by omega)) (hER _ (by omega)) (hMT _ (by omega)) (hMJ _ (by omega)) (by omega) hleg hcor h60 (by omega) (by omega) hrows hfin hwd hfl (hH _ (by omega))
  · have hrg : runGlob x y cores = ([], []) := by
      unfold runGlob
      split
      · rename_i h1
        rw [if_neg (fun h2 => hv ⟨h1, h2⟩)]
      · rfl
    rw [hrg] at hS
    obtain ⟨kER, hER⟩ := eqRunG_ev [] [] (by simp) (fun i => by simp) (by simp)
    obtain ⟨kH, hH⟩ := heldRun_ev 1 [] 0 (by omega) (by omega) (by simp) (fun i => by simp) (by omega)
    exact glaw_bad (kT + kJ + kS + kET + kEJ + kMT + kMJ + kER + kH) A0 c0 l0 A1 c1 l1 cores w hr0 hc0 hr1 hc1 _ _ (by omega) (by omega) x y _ _ t1 t2 hz0 hz1 (hT _ (by omega)) (hJ _ (by omega)) (hS _ (by omega)) (hET _ (by omega)) (hEJ _ (by omega)) (hER _ (by omega)) (hMT _ (by omega)) (hMJ _ (by omega)) (by omega) _ _ hleg hcor (fun h => hv ⟨h.1, of_decide_eq_true h.2⟩) (hH _ (by omega))
end Go.Proofs.Ytonifhkplniblaa.Print
