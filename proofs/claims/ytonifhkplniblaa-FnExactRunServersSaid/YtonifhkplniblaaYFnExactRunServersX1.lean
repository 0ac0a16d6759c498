/- What the program and the reference compute, and that both agree. No condition. -/
import Derived.Test.YtonifhkplniblaaYFnExactRunServersPB
import Derived.Test.YtonifhkplniblaaYFnExactRunServersWalk
import Derived.Lib.Hide
import Derived.Deep.DeepMust
import Derived.Deep.QuietTactic
import Derived.BigQuiet
import Derived.Lib.LazyBuf
import Derived.Deep.RegionHeld3
import Derived.Deep.LoopGhost
import Derived.Test.YtonifhkplniblaaYFnExactRunServersX0
import Derived.Test.YtonifhkplniblaaYFnExactRunServersP3
namespace Go.Proofs.Ytonifhkplniblaa.Print
open Go.RowKit Go.Proofs.YtonifhkplniblaaW.PrintWords Go.Proofs.YtonifhkplniblaaW.PrintLast Go.Proofs.YtonifhkplniblaaW.PrintMore
attribute [local go_sem] max2_int min2_int max_two min_two max_three min_three max_four min_four
set_option linter.unusedVariables false
set_option linter.unusedSimpArgs false
open Go.Proofs.Ytonifhkplniblaa.Walk Go.Proofs.Ytonifhkplniblaa.Evs
/-- What is known of the run behind the out box. -/
theorem SrvO.begin {w W3 W5 Wf : World} {go gr base5 nj c n : Nat} {A : Option Addr} {cv : Value} {rs : List (List (S164))} (h2 : n ≤ 2) (hBW : Below w.heap.size w W3) (hW3 : w.heap.size + 2 ≤ W3.heap.size) (hB5 : Below W3.heap.size W3 W5) (hWB : Below w.heap.size w Wf) (hfar : ∀ k, k < W5.heap.size → k ≠ go → Wf.heap[k]? = W5.heap[k]?)
    (hbx : W3.heap[w.heap.size]? = some (.cells #[.slice A nj c] 39 (0, 0))) (hrs : W3.heap[w.heap.size + 1]? = some (.cells #[.slice none 0 0, .slice none 0 0, .slice none 0 0, .slice none 0 0] 35 (0, 0)))
    (hrf : Kd.R (Kd.int .i64) 3 W5 base5 (fun _ => True) cv (List.replicate 120 (-1))) (hb5 : W3.heap.size ≤ base5)
    (hgo : W3.heap.size ≤ go) (hgfo : ∀ k, cv.ownBlock = some k → k ≠ go) (hO : Wf.heap[go]? = some (.cells #[.slice none 0 0, .slice none 0 0, cv, .slice (some ⟨gr, 0, none⟩) n n] 35 (0, 0))) (hgr : W3.heap.size ≤ gr)
    (hR : Wf.heap[gr]? = some (.cells (madeCells #[.slice none 0 0] n) 30 (0, 0))) : SrvO w Wf w.heap.size w.heap.size (w.heap.size + 1) go gr A nj c rs n cv (List.replicate n nilV) 0 where
  bj := by
    rw [hfar _ (by have := hB5.size; omega) (by omega)]
    exact blk_below hbx hB5
  b4 := by
    rw [hfar _ (by have := hB5.size; omega) (by omega)]
    exact blk_below hrs hB5
  bo := hO
  n4 := by omega
  rows := gr_made_n h2 hR
  chr := row_stepG (Kd.R_lower hrf (by omega)) (fun k e hlt => hfar k hlt (hgfo k e))
  ap := fun i k hi e => by
    rw [repl_getD2] at e
    cases e
  bb := ⟨Nat.le_refl _, by omega, by omega, by omega⟩
  bw0 := hWB
theorem SrvO.begin2 {w W3 W5 Wf : World} {go gr base5 nj c n : Nat} {A : Option Addr} {cv : Value} {rs : List (List (S164))} (h2 : n ≤ 2) (hBW : Below w.heap.size w W3) (hW3 : w.heap.size + 2 ≤ W3.heap.size) (hB5 : Below W3.heap.size W3 W5)
    (hbx : W3.heap[w.heap.size]? = some (.cells #[.slice A nj c] 39 (0, 0))) (hrs : W3.heap[w.heap.size + 1]? = some (.cells #[.slice none 0 0, .slice none 0 0, .slice none 0 0, .slice none 0 0] 35 (0, 0))) (hrf : Kd.R (Kd.int .i64) 3 W5 base5 (fun _ => True) cv (List.replicate 120 (-1)))
    (gO : Wf.heap[go]? = some (.cells #[.slice none 0 0, .slice none 0 0, cv, .slice (some ⟨gr, 0, none⟩) n n] 35 (0, 0))) (gR : Wf.heap[gr]? = some (.cells (madeCells #[.slice none 0 0] n) 30 (0, 0))) (gB : Below w.heap.size w Wf) (gF : ∀ k, k < W5.heap.size → k ≠ go → Wf.heap[k]? = W5.heap[k]?)
    (gb : W3.heap.size ≤ base5) (gg : W3.heap.size ≤ go) (gne : ∀ k, cv.ownBlock = some k → k ≠ go) (gq : W3.heap.size ≤ gr) :
    ∃ (go_ gr_ : Nat) (cv_ : Value), Value.pointer (some ⟨go, 0, none⟩) = .pointer (some ⟨go_, 0, none⟩) ∧ Aside0 (SrvO w Wf w.heap.size w.heap.size (w.heap.size + 1) go_ gr_ A nj c rs n cv_ (List.replicate n nilV) 0) :=
  ⟨go, gr, cv, rfl, ⟨SrvO.begin h2 hBW hW3 hB5 gB gF hbx hrs hrf gb gg gne gO gq gR⟩⟩
set_option maxHeartbeats 8000000 in
set_option maxRecDepth 100000 in
theorem runServers_calls (A0 : Option Addr) (c0 : Nat) (l0 : List (S62)) (A : Option Addr) (c : Nat) (jobs : List (S67)) (As : Option Addr) (cs : Nat) (ss : List (S109)) (Ar : Option Addr) (cr : Nat) (rs : List (List (S164))) (w : World)
    (hr0 : Kd.C k62 w A0 l0.length l0) (hc0 : l0.length ≤ c0) (hj : Kd.C k67 w A jobs.length jobs) (hc : jobs.length ≤ c) (hs : Kd.C k109 w As ss.length ss) (hcs : ss.length ≤ cs) (hr : Kd.C (Kd.slice 164 k164) w Ar rs.length rs) (hcr : rs.length ≤ cr)
    (hleg : impl_JobsLegal.f l0 jobs = some true) (hsv : impl_ServersValid.f ss = some true) (hlen : rs.length = ss.length) (hok : rs.all okArrs = true) (hrl : ∀ x ∈ rs, x.length ≤ 1048576) :
    Calls Try.prog 22 #[.slice A0 l0.length c0, .slice A jobs.length c, .slice As ss.length cs, .slice Ar rs.length cr] w fun e w' => ∃ (gr_ : Nat) (us_ : List Value) (v0_ v1_ v2_ : Value), e = .returned (.agg #[v0_, v1_, v2_, .slice (some ⟨gr_, 0, none⟩) ss.length ss.length]) ∧
      Kd.R (Kd.int .i64) 3 w' w.heap.size (fun _ => True) v0_ (simN jobs (srvPick ss rs jobs) (srv00 ss rs) 120).2.2.1 ∧ Kd.R (Kd.int .i64) 3 w' w.heap.size (fun _ => True) v1_ (simN jobs (srvPick ss rs jobs) (srv00 ss rs) 120).2.2.2 ∧ Kd.R (Kd.int .i64) 3 w' w.heap.size (fun _ => True) v2_ (simN jobs (srvPick ss rs jobs) (srv00 ss rs) 120).1.ch ∧ Gr w' w.heap.size gr_ us_ (simN jobs (srvPick ss rs jobs) (srv00 ss rs) 120).1.sd ∧
      (∀ k, v0_.ownBlock = some k → v1_.ownBlock ≠ some k ∧ v2_.ownBlock ≠ some k) ∧ (∀ k, v1_.ownBlock = some k → v2_.ownBlock ≠ some k) ∧ (∀ i k, i < us_.length → (us_.getD i nilV).ownBlock = some k → v0_.ownBlock ≠ some k ∧ v1_.ownBlock ≠ some k ∧ v2_.ownBlock ≠ some k) ∧ w.heap.size ≤ gr_ ∧ Below w.heap.size w w' := by
  have hu := Try.underlying35
  have huS := Try.underlying109
  have huV := Try.underlying118
  have huC := Try.underlying32
  have huR := Try.underlying33
  have hmf : ∀ (fn : Fn) (first cap : Array Value) (w : World), (Instr.makeFunc fn first cap).run Try.prog w = .ok (.func fn first cap) w := fun _ _ _ _ => rfl
  obtain ⟨W0, hW0⟩ : ∃ W0, W0 = (w.alloc (.cells #[.slice A jobs.length c] 39)).alloc (.cells #[.slice none 0 0, .slice none 0 0, .slice none 0 0, .slice none 0 0] 35) := ⟨_, rfl⟩
  have hB0 : Below w.heap.size w W0 := by rw [hW0]; exact below_alloc (below_alloc (Below.refl _ _) _) _
  have hsz0 : W0.heap.size = w.heap.size + 2 := by rw [hW0]; simp
  have hbx : W0.heap[w.heap.size]? = some (.cells #[.slice A jobs.length c] 39 (0, 0)) := by rw [hW0]; exact blk_alloc (blk_new _ _) _
  have hrs : W0.heap[w.heap.size + 1]? = some (.cells #[.slice none 0 0, .slice none 0 0, .slice none 0 0, .slice none 0 0] 35 (0, 0)) := by
    rw [hW0]
    have := blk_new (w.alloc (.cells #[.slice A jobs.length c] 39)) (.cells #[.slice none 0 0, .slice none 0 0, .slice none 0 0, .slice none 0 0] 35)
    rw [show (w.alloc (.cells #[.slice A jobs.length c] 39)).heap.size = w.heap.size + 1 by simp] at this
    exact this
  have hvb := sv0_ok hsv hlen hok
  have h2 := hvb.1
  have HVB := Lib.hid hvb.2
  have HLEG := Lib.hid (fun V (hV : Below w.heap.size w V) => impl_JobsLegal.calls A0 c0 l0 A c jobs true V (Kd.C_below hr0 hV) hc0 (Kd.C_below hj hV) hc hleg)
  have HSVV := Lib.hid (fun V (hV : Below w.heap.size w V) => impl_ServersValid.calls As cs ss true V (Kd.C_below hs hV) hcs hsv)
  have hcont := fun V (hV : Below w.heap.size w V) => contArr_calls V Ar cr rs (Kd.C_below hr hV) hcr hrl
  rw [hok] at hcont
  have HCONT := Lib.hid hcont
  have HN1 := Lib.hid (fun W => impl_none.calls 120 (List.replicate 120 (-1)) W rfl)
  have hlj : jobs.length ≤ 60 ∧ ∀ i, i < jobs.length → (jobs.getD i z67).f3 ≤ 8 := by
    have hsv : impl_SetValid.f l0 = some true ∧ legalB l0 jobs = true := by
      unfold impl_JobsLegal.f at hleg
      cases hs : impl_SetValid.f l0 with
      | none => rw [hs] at hleg; cases hleg
      | some b => rw [hs, Option.bind_some] at hleg; have := Option.some.inj hleg; rw [Bool.and_eq_true] at this; rw [this.1]; exact ⟨rfl, this.2⟩
    exact legal_jobs hsv.1 hsv.2
  have HLJ := Lib.hid hlj
  obtain ⟨RV, _, hRV⟩ := exists_list (fun i v => ∃ (ad : Addr) (B : Option Addr) (d : Nat), Ar = some ad ∧ v = .slice B (svA rs i).length d ∧ w.cell? (ad.add i) = some v ∧ Kd.C k164 w B (svA rs i).length (svA rs i)) ss.length (fun i hi => by
    obtain ⟨ad, B, d, e, h1, h2, h3⟩ := rowA_at hr i (by omega)
    exact ⟨_, ad, B, d, e, rfl, h1, h3⟩)
  have HRV := Lib.hid hRV
  have HJ := Lib.hid hj
  have HC := Lib.hid hc
  have HS := Lib.hid hs
  have HR := Lib.hid hr
  have HWQ := Lib.hid hW0
  have HB0 := Lib.hid hB0
  have HBX := Lib.hid hbx
  have HRS := Lib.hid hrs
  have HSZ := Lib.hid hsz0
  have bl : (((ss.length : Nat) : Int) != (ss.length : Int)) = false := by simp
  rw [hlen] at HCONT HR ⊢
  clear hr0 hc0 hj hc hs hcs hr hcr hleg hsv hok hW0 hB0 hsz0 hbx hrs hvb hcont hlj hRV
  go_enter Try.func22, Try.ntmps22
  go_upto_region 1 with (fail)
  rw [← HWQ.out]
  have hcb0 : W0.cell? ⟨w.heap.size, 0, none⟩ = some (.slice A jobs.length c) := (blk_cell HBX.out 0).trans rfl
  go_upto_region 3 with (first | (go_at_call 35; refine (HLEG.out _ HB0.out).mono ?_; rintro e w1 ⟨rfl, hb1⟩; have HB1 := Lib.hid hb1; have HBA := Lib.hid (below_step HB0.out hb1); clear hb1 hcb0) | (go_at_call 75; refine (HSVV.out _ HBA.out).mono ?_; rintro e w2 ⟨rfl, hb2⟩; have HB2 := Lib.hid (below_step HB1.out hb2); have HBB := Lib.hid (below_step HBA.out hb2); clear hb2) | (go_at_call 76; refine (HCONT.out _ HBB.out).mono ?_; rintro e w3 ⟨rfl, hb3⟩; have HB3 := Lib.hid (below_step HB2.out hb3); have HBC := Lib.hid (below_step HBB.out hb3); clear hb3))
  have hX3 := blk_below HBX.out HB3.out
  have hS3 := blk_below HRS.out HB3.out
  have HX3 := Lib.hid hX3
  have HS3 := Lib.hid hS3
  have HW3 := Lib.hid (show w.heap.size + 2 ≤ w3.heap.size by have := HB3.out.size; have := HSZ.out; omega)
  have hinfo : (Try.prog.info? 30).map (fun i => (i.zero, i.size, i.bytes)) = some (some (.slice none 0 0), 1, 24) := by kernel_rfl
  have hmk : ∀ W : World, (Instr.makeSlice 33 (.int .i64 (ss.length : Int)) (.int .i64 (ss.length : Int))).run Try.prog W = .ok (.slice (some ⟨W.heap.size, 0, none⟩) ss.length ss.length) (W.alloc (.cells (madeCells #[.slice none 0 0] ss.length) 30)) := fun W => Go.run_make_row' (P := Try.prog) 33 30 (.slice none 0 0) 24 Try.underlying33 hinfo rfl .i64 .i64 ss.length (by omega) (by omega) W
  have hn0 : 0 ≤ (ss.length : Int) := by omega
  clear hinfo hX3 hS3 HBA HBB HB1 HB2 HB3 HLEG HSVV HCONT HWQ HB0 HBX HRS HSZ bl
  go_cut [9] (fun v9 wc => ∃ (go gr : Nat) (cv : Value), v9 = .pointer (some ⟨go, 0, none⟩) ∧ Aside0 (SrvO w wc w.heap.size w.heap.size (w.heap.size + 1) go gr A jobs.length c rs ss.length cv (List.replicate ss.length nilV) 0))
  case first =>
    go_region_held3 (fun _ => True) (trivial) (first | (go_at_call 79; refine (HN1.out _).mono ?_; rintro e w5 ⟨fv, rfl, hrf, hb5⟩; obtain ⟨Af, cf, ef⟩ := Kd.R_slice hrf; rw [show (List.replicate 120 (-1 : Int)).length = 120 from List.length_replicate] at ef; subst ef; have HRF := Lib.hid hrf; have HB5 := Lib.hid hb5; (try (have hq : w5.heap[w3.heap.size]? = some (.cells #[.slice none 0 0, .slice none 0 0, .slice none 0 0, .slice none 0 0] 35 (0, 0)) := (hb5.block _ (by first | (simp; done) | (simp; omega))).trans (by with_reducible first | exact blk_new _ _ | exact blk_drew (blk_new _ _) | exact blk_alloc (blk_new _ _) _ | exact blk_drew (blk_alloc (blk_new _ _) _)); have hqa := fun o => nil4 (blk_alloc hq o); have hqc := nil4 hq; have hqn := Lib.hid hq; clear hq)); (try (have hq : w5.heap[w3.heap.size + 1]? = some (.cells #[.slice none 0 0, .slice none 0 0, .slice none 0 0, .slice none 0 0] 35 (0, 0)) := (hb5.block _ (by first | (simp; done) | (simp; omega))).trans (by with_reducible first | exact blk_new1 _ _ _ | exact blk_drew (blk_new1 _ _ _)); have hqa := fun o => nil4 (blk_alloc hq o); have hqc := nil4 hq; have hqn := Lib.hid hq; clear hq)); (try (have hn5 : w5.heap.size ≠ w3.heap.size := by (have hs5 := hb5.size; simp at hs5; omega); have hn5' := Ne.symm hn5)); (try (have hn6 : w5.heap.size ≠ w3.heap.size + 1 := by (have hs5 := hb5.size; simp at hs5; omega); have hn6' := Ne.symm hn6)); clear hrf hb5))
    all_goals (clear HN1; go_wp2_with fail; go_meet)
    all_goals have hB35 : Below w3.heap.size w3 w5 := by repeat (first | exact Below.refl _ _ | refine below_step ?_ HB5.out | apply below_drew | apply below_alloc)
    all_goals have HBW := below_step HBC.out hB35
    all_goals have hs35 := hB35.size
    all_goals have hs5 := HB5.out.size
    all_goals have hfl := Kd.R_lt HRF.out
    all_goals have hfb := Kd.R_base HRF.out
    all_goals have hw3 := HW3.out
    all_goals (try simp at hs5)
    all_goals (try simp at hfb)
    all_goals apply SrvO.begin2 h2 HBC.out HW3.out hB35 HX3.out HS3.out HRF.out
    all_goals (try (case gO => with_reducible first | exact blk_new _ _ | exact blk_alloc (blk_new _ _) _ | exact blk_new1 _ _ _ | exact blk_put (blk_put (blk_put (blk_put hqn.out 0 _ rfl) 1 _ rfl) 2 _ rfl) 3 _ rfl | exact blk_put (blk_put (blk_put (blk_put (blk_alloc hqn.out _) 0 _ rfl) 1 _ rfl) 2 _ rfl) 3 _ rfl))
    all_goals (try (case gR => with_reducible repeat (first | exact blk_new _ _ | exact blk_new1 _ _ _ | refine blk_far ?_ (by first | omega | (simp; done) | (simp; omega)) _ | refine blk_alloc ?_ _ | refine blk_below ?_ HB5.out | apply blk_drew)))
    all_goals (try (case gB => repeat (first | exact HBW | apply below_alloc | refine below_set ?_ (by omega))))
    all_goals (try (case gF => intro k hk hne; with_reducible repeat (first | refine (Below.heap_setCell _ _ _ _ hne).trans ?_ | refine (Below.heap_alloc _ _ _ (by first | omega | (simp; omega))).trans ?_ | rfl)))
    all_goals (try (case gb => first | exact Nat.le_refl _ | (simp; done) | (simp; omega)))
    all_goals (try (case gg => omega))
    all_goals (try (case gq => omega))
    all_goals (try (case gne => intro k hke; have q1 := hfl k hke; have q2 := hfb k hke; first | omega | (simp at q2; omega) | exact fun hkg => Kd.R_ne HRF.out hqn.out (by decide) (by rw [← hkg, hke])))
  case rest =>
    obtain ⟨go, gr, cv, rfl, HO⟩ := hcut
    obtain ⟨Ac, cc, ec⟩ := Kd.R_slice HO.out.chr
    rw [show (List.replicate 120 (-1 : Int)).length = 120 from List.length_replicate] at ec
    subst ec
    have hinfo : (Try.prog.info? 116).map (fun i => (i.zero, i.size, i.bytes)) = some (some (.pointer none), 1, 8) := by kernel_rfl
    have hmk : ∀ W : World, (Instr.makeSlice 115 (.int .i64 (ss.length : Int)) (.int .i64 (ss.length : Int))).run Try.prog W = .ok (.slice (some ⟨W.heap.size, 0, none⟩) ss.length ss.length) (W.alloc (.cells (madeCells #[.pointer none] ss.length) 116)) := fun W => Go.run_make_row' (P := Try.prog) 115 116 (.pointer none) 8 Try.underlying115 hinfo rfl .i64 .i64 ss.length (by omega) (by omega) W
    clear hinfo
    go_upto_region 5 with (fail)
    have hO1 := HO.out.same (below_alloc (below_alloc HO.out.bw0 (.cells (madeCells #[.pointer none] ss.length) 116)) (.cells #[.slice (some ⟨wc.heap.size, 0, none⟩) ss.length ss.length] 115)) (fun k hk => (Below.heap_alloc _ _ _ (by simp; omega)).trans (Below.heap_alloc _ _ _ hk))
    have hW1 : SrvW ((wc.alloc (.cells (madeCells #[.pointer none] ss.length) 116)).alloc (.cells #[.slice (some ⟨wc.heap.size, 0, none⟩) ss.length ss.length] 115)) w.heap.size (wc.heap.size + 1) wc.heap.size [] ss RV 0 := by
      refine ⟨blk_new1 _ _ _, ⟨_, blk_alloc (blk_new _ _) _, fun j hj => absurd hj (by omega), by rw [made_n h2]; simp⟩, fun j hj => absurd hj (by omega), rfl, fun j hj => absurd hj (by omega), fun j k hj => absurd hj (by omega), ?_⟩
      have := HO.out.bw0.size
      omega
    have HO1 := Aside0.mk hO1
    have HW1 := Aside0.mk hW1
    clear hO1 hW1 HO hmk
    generalize wc.heap.size + 1 = wb at HO1 HW1 ⊢
    generalize wc.heap.size = gw at HO1 HW1 ⊢
    generalize World.alloc _ _ = w4 at HO1 HW1 ⊢
    go_wp2_with fail
    go_loopw [44] (fun v44 w' => ∃ (i : Nat) (us : List Value) (qs : List Nat), v44 = .int .i64 (i : Int) ∧ i ≤ ss.length ∧ Aside0 (SrvO w w' w.heap.size w.heap.size (w.heap.size + 1) go gr A jobs.length c rs ss.length (.slice Ac 120 cc) us i) ∧ Aside0 (SrvW w' w.heap.size wb gw qs ss RV i)) (fun v44 _ => ss.length - (intOf v44).toNat)
    case atStart => exact ⟨0, _, _, rfl, Nat.zero_le _, HO1, HW1⟩
    case round =>
      clear HO1 HW1
      obtain ⟨i, us, qs, rfl, hi, HO, HW⟩ := hrel
      by_cases hlt : i < ss.length
      · have b1 : decide ((i : Int) < (ss.length : Int)) = true := decide_eq_true (by omega)
        obtain ⟨ads, es, hx0, hx1⟩ := at_T109 (Kd.C_below HS.out HO.out.bw0) (i : Int) (by omega) (by omega)
        cases es
        simp only [Int.toNat_natCast] at hx0 hx1
        have hrd : rd_T109 ss (i : Int) = svX ss i := rfl
        rw [hrd] at hx0 hx1
        obtain ⟨x, hx⟩ : ∃ x, x = svX ss i := ⟨_, rfl⟩
        rw [← hx] at hx0 hx1
        have HX := Lib.hid hx
        have p0 : 0 ≤ (i : Int) := by omega
        have p1 : (i : Int) < (ss.length : Int) := by omega
        clear hx hrd
        go_upto_region 8 with (fail)
        have hb8 : Below wr.heap.size wr (wr.alloc (.cells #[.int .i64 x.f0, .int .i64 x.f1] 109)) := below_alloc (Below.refl _ _) _
        have hn8 := blk_new wr (.cells #[.int .i64 x.f0, .int .i64 x.f1] 109)
        have hO8 := HO.out.same (below_then HO.out.bw0 HO.out.bw0.size hb8) hb8.block
        have hW8 := HW.out.same hb8.block
        obtain ⟨ad, B, d, er, hv, hcv, hK⟩ := HRV.out i hlt
        cases er
        have hbx : gw ≠ wr.heap.size := by
          obtain ⟨cs, k1, _⟩ := HW.out.bp
          have := blk_lt k1
          omega
        have hbx2 : w.heap.size ≤ wr.heap.size := HO.out.bw0.size
        have HN8 := Lib.hid hn8
        have HO8 := Aside0.mk hO8
        have HW8 := Aside0.mk hW8
        clear hn8 hO8 hW8 HO HW hx0 hx1 hb8
        generalize wr.heap.size = bx at HN8 hbx hbx2 ⊢
        generalize World.alloc wr _ = V at HN8 HO8 HW8 ⊢
        have y0 : V.cell? ⟨bx, 0, none⟩ = some (.int .i64 x.f0) := (blk_cell HN8.out 0).trans rfl
        have y1 : V.cell? ⟨bx, 1, none⟩ = some (.int .i64 x.f1) := (blk_cell HN8.out 1).trans rfl
        have y2 : V.cell? ⟨wb, 0, none⟩ = some (.slice (some ⟨gw, 0, none⟩) ss.length ss.length) := (blk_cell HW8.out.bw 0).trans rfl
        have hadl := World.block_lt_of_cell? _ _ hcv
        have y3 : V.cell? (ad.add i) = some (.slice B (svA rs i).length d) := by rw [← hv]; exact (HO8.out.bw0.cell hadl).trans hcv
        have y4 : ∃ u, V.cell? ⟨gw, i, none⟩ = some u ∧ ∀ o, (V.alloc o).cell? ⟨gw, i, none⟩ = some u ∧ (V.alloc o).frozen? ⟨gw, i, none⟩ = false := by
          obtain ⟨cs, k1, _, k3⟩ := HW8.out.bp
          exact ⟨cs[i]'(by omega), (blk_cell k1 i).trans (by rw [Array.getElem?_eq_getElem]), fun o => ⟨(blk_cell (blk_alloc k1 o) i).trans (by rw [Array.getElem?_eq_getElem]), blk_frozen (blk_alloc k1 o) i⟩⟩
        obtain ⟨u4, y4, y5⟩ := y4
        have e1 : gw ≠ wb := by
          obtain ⟨cs, k1, _⟩ := HW8.out.bp
          exact ne_of_type k1 HW8.out.bw (by decide)
        have e2 : gw ≠ (ad.add i).block := by
          have := HW8.out.bb.2
          omega
        have n0 := World.new_ne V _ y0
        have n2 := World.new_ne V _ y2
        have n3 := World.new_ne V _ y3
        have n4 := World.new_ne V _ y4
        obtain ⟨L, hL⟩ : ∃ L, L = (svA rs i).length := ⟨_, rfl⟩
        rw [← hL] at y3
        have HK8 := Lib.hid hK
        have HCV := Lib.hid hcv
        have HV8 := Lib.hid hv
        have HLL := Lib.hid hL
        have HBX := Lib.hid hbx2
        clear hadl hK hv hL hcv hbx2
        go_wp2_with fail
        go_region_held3 (fun w' => w'.cell? ⟨bx, 0, none⟩ = some (.int .i64 x.f0) ∧ w'.cell? ⟨bx, 1, none⟩ = some (.int .i64 x.f1) ∧ w'.cell? ⟨wb, 0, none⟩ = some (.slice (some ⟨gw, 0, none⟩) ss.length ss.length) ∧ w'.cell? (ad.add i) = some (.slice B L d)) (go_keep) (fail)
        have hbV : w.heap.size ≤ V.heap.size := HO8.out.bw0.size
        have hW9 := (HW8.out.put hlt hbV).drew
        rw [← HX.out, HV8.out, ← HLL.out] at hW9
        have hO9 : SrvO w (World.drew ((V.alloc (.cells #[.int .i64 x.f0, .int .i64 x.f1, .int .i64 x.f0, .int .i64 0, .slice B L d, .int .i64 0, .int .i64 0, .int .i64 0] 118)).setCell ⟨gw, i, none⟩ (.pointer (some ⟨V.heap.size, 0, none⟩)))) w.heap.size w.heap.size (w.heap.size + 1) go gr A jobs.length c rs ss.length (.slice Ac 120 cc) us i := by
          obtain ⟨cs, k1, _⟩ := HW8.out.bp
          have h1 := (HO8.out.same (W2 := V.alloc (.cells #[.int .i64 x.f0, .int .i64 x.f1, .int .i64 x.f0, .int .i64 0, .slice B L d, .int .i64 0, .int .i64 0, .int .i64 0] 118)) (below_then HO8.out.bw0 hbV (below_alloc (Below.refl _ _) _)) (below_alloc (Below.refl _ _) _).block).far (blk_alloc k1 _) (by decide) (by decide) (by decide) (by decide) HW8.out.bb.2 i (.pointer (some ⟨V.heap.size, 0, none⟩))
          exact h1.drew
        have HW9 := Aside0.mk hW9
        have HO9 := Aside0.mk hO9
        clear hW9 hO9 y0 y1 y2 y3 y4 y5 e1 e2 n0 n2 n3 n4 HW8 HO8 HN8 hbx
        generalize World.drew _ = V9 at HW9 HO9 ⊢
        generalize qs ++ [V.heap.size] = qs2 at HW9
        have hL20 : L ≤ 20 := by rw [HLL.out]; exact (HVB.out i hlt).rl
        have HNL := Lib.hid (fun W => impl_none.calls (L : Int) (List.replicate L (-1)) W (by unfold impl_none.f; rw [if_pos (by omega)]; simp))
        have y6 : V9.cell? ⟨go, 3, none⟩ = some (.slice (some ⟨gr, 0, none⟩) ss.length ss.length) := (blk_cell HO9.out.bo 3).trans rfl
        have hadl := World.block_lt_of_cell? _ _ HCV.out
        have y7 : V9.cell? (ad.add i) = some (.slice B L d) := by rw [HLL.out, ← HV8.out]; exact (HO9.out.bw0.cell hadl).trans HCV.out
        have HCB := Lib.hid (fun (U : World) (hU : Below V9.heap.size V9 U) => And.intro ((hU.cell (World.block_lt_of_cell? _ _ y6)).trans y6) ((hU.cell (World.block_lt_of_cell? _ _ y7)).trans y7))
        have e2 : gr ≠ (ad.add i).block := by
          have := HO9.out.bb.2.2.2
          omega
        clear hadl hL20
        have y8 : ∃ u, V9.cell? ⟨gr, i, none⟩ = some u := by
          have k1 := HO9.out.rows.blk
          have k2 := HO9.out.rows.len
          rw [rowI_len] at k2
          exact ⟨us[i]'(by omega), (blk_cell k1 i).trans (by rw [List.getElem?_toArray, List.getElem?_eq_getElem])⟩
        obtain ⟨u8, y8⟩ := y8
        have hfr8 := fun (U : World) (hU : Below V9.heap.size V9 U) => blk_frozen (blk_below HO9.out.rows.blk hU) i
        have HFR := Lib.hid (fun (U : World) (hU : Below V9.heap.size V9 U) => And.intro ((hU.cell (World.block_lt_of_cell? _ _ y8)).trans y8) (hfr8 U hU))
        have e1 : gr ≠ go := ne_of_type HO9.out.rows.blk HO9.out.bo (by decide)
        clear hfr8
        go_upto_region 9 with (fail)
        go_region_held3 (fun w' => w'.cell? ⟨go, 3, none⟩ = some (.slice (some ⟨gr, 0, none⟩) ss.length ss.length) ∧ w'.cell? (ad.add i) = some (.slice B L d)) (first | go_keep | exact HCB.out _ (by repeat (first | exact Below.refl _ _ | apply below_drew | apply pw_below_drewN | exact HB10.out | refine below_step ?_ HB10.out))) (first | (go_at_call 79; refine (HNL.out _).mono ?_; rintro e w10 ⟨rv, rfl, hrr, hb10⟩; obtain ⟨Ag, cg, eg⟩ := Kd.R_slice hrr; rw [show (List.replicate L (-1 : Int)).length = L from List.length_replicate] at eg; subst eg; have hb10' : Below V9.heap.size V9 w10 := (by repeat (first | exact Below.refl _ _ | refine below_step ?_ hb10 | apply below_drew | apply pw_below_drewN)); have HRR := Lib.hid hrr; have HB10 := Lib.hid hb10'; have hfc := HFR.out w10 hb10'; clear hrr hb10 hb10'))
        have hO10 := HO9.out.same (below_then HO9.out.bw0 HO9.out.bw0.size HB10.out) HB10.out.block
        have hW10 := HW9.out.same HB10.out.block
        have hO11 := hO10.put hlt (u := .slice Ag L cg) (by rw [← HLL.out]; exact Kd.RR_of_R (Kd.R_lower HRR.out (show w.heap.size ≤ V9.heap.size from HO9.out.bw0.size))) (fun k e => by
          have hk : V9.heap.size ≤ k := Kd.R_base HRR.out k e
          refine ⟨fun e2 => ?_, fun j hj e2 => ?_⟩
          · have := Kd.R_lt HO9.out.chr k e2
            omega
          · have := Kd.RR_lt (HO9.out.rows.row j (by rw [← HO9.out.rows.len]; exact hj)) k e2
            omega)
        have hW11 := hW10.far hO10.rows.blk (by decide) (by decide) (by decide) i (.slice Ag L cg)
        have HO11 := Aside0.mk hO11
        have HW11 := Aside0.mk hW11
        clear hO10 hW10 hO11 hW11 HCB HFR HNL HRR HB10 hfc
        go_wp2_with fail
        go_roundw
        case rel => exact ⟨i + 1, _, _, by go_num, by omega, HO11, HW11⟩
        case measure => simp [intOf]; omega
      · have b1 : decide ((i : Int) < (ss.length : Int)) = false := decide_eq_false (by omega)
        obtain rfl : i = ss.length := by omega
        have hI0 := SrvI.start HO.out HW.out HVB.out
        have hNb := hI0.nb
        have hD0 : SrvD w w.heap.size qs ss rs RV (.slice Ac 120 cc) us := ⟨Nat.le_refl _, HW.out.lq, hlen, h2, HW.out.qb, HW.out.qn, fun i hi => by
          obtain ⟨ad, B, d, _, e, _, hK⟩ := HRV.out i hi
          exact ⟨B, d, e, hK⟩, HO.out.ap⟩
        have hsim := simulate_calls (fun U x => SrvI U w.heap.size w.heap.size wb gw go gr A c jobs qs ss rs RV (.slice Ac 120 cc) us x) (srvPick ss rs jobs) (srv00 ss rs) (SrvS qs ss.length (.slice Ac 120 cc) us) w wr HO.out.bw0 hNb.ofS A c jobs HJ.out HC.out HLJ.out.1 HLJ.out.2 81 #[] #[.pointer (some ⟨wb, 0, none⟩), .pointer (some ⟨w.heap.size, 0, none⟩), .pointer (some ⟨go, 0, none⟩)] Try.func81 (by kernel_rfl) rfl hI0
          (fun U U' x hU hk _ => hU.sameN hNb hk) (srvPick_ok ss rs jobs)
          (fun g D cd U s done t ht hU hM hg hB hz => srvPick_calls w w.heap.size w.heap.size wb gw go gr g A c jobs qs ss rs RV (.slice Ac 120 cc) us s D cd done t U hD0 hM hU hB ht HJ.out)
        have hnS : ¬ SrvS qs ss.length (.slice Ac 120 cc) us (w.heap.size + 1) := by
          intro hS
          rcases hS with ⟨i, hi, e⟩ | e | ⟨i, hi, e⟩
          · exact ne_of_type HO.out.b4 (HW.out.sv i hi) (by decide) e
          · exact Kd.R_ne HO.out.chr HO.out.b4 (by decide) e.symm
          · exact Kd.RR_ne (HO.out.rows.row i (by rw [← HO.out.rows.len]; exact hi)) HO.out.b4 (by decide) e.symm
        obtain ⟨X, hX⟩ : ∃ X, X = simN jobs (srvPick ss rs jobs) (srv00 ss rs) 120 := ⟨_, rfl⟩
        rw [← hX] at hsim
        have hxd := simN_len (jobs := jobs) (pick := srvPick ss rs jobs) (s0 := srv00 ss rs) 120
        rw [← hX] at hxd
        have HSIM := Lib.hid hsim
        have HXE := Lib.hid hX
        have HNS := Lib.hid hnS
        have HNB := Lib.hid hNb
        have y1 : wr.cell? ⟨w.heap.size, 0, none⟩ = some (.slice A jobs.length c) := (blk_cell HO.out.bj 0).trans rfl
        have ne1 : w.heap.size + 1 ≠ go := HO.out.n4
        have ne2 : go ≠ w.heap.size + 1 := Ne.symm ne1
        clear hI0 hNb hD0 hsim hX hnS hxd
        go_upto_region 12 with (go_at_call 80; refine HSIM.out.mono ?_; rintro e w6 ⟨v0, v1, rfl, hr0, hr1, hb6, hk6, hi6⟩; obtain ⟨Aa, ca, ea⟩ := Kd.R_slice hr0; obtain ⟨Ab, cb, eb⟩ := Kd.R_slice hr1; subst ea eb; have hb46 := blk_kept HO.out.b4 hk6 HNS.out; have HR0 := Aside0.mk hr0; have HR1 := Aside0.mk hr1; have HB6 := Aside0.mk hb6; have HK6 := Aside0.mk hk6; have HI6 := Aside0.mk hi6; have H46 := Aside0.mk hb46; have z0 : w6.cell? ⟨go, 0, none⟩ = some (.slice none 0 0) := (blk_cell hi6.bo 0).trans rfl; have z1 : w6.cell? ⟨go, 1, none⟩ = some (.slice none 0 0) := (blk_cell hi6.bo 1).trans rfl; have z2 : w6.cell? ⟨go, 2, none⟩ = some (.slice Ac 120 cc) := (blk_cell hi6.bo 2).trans rfl; have z3 : w6.cell? ⟨go, 3, none⟩ = some (.slice (some ⟨gr, 0, none⟩) ss.length ss.length) := (blk_cell hi6.bo 3).trans rfl; have zf := (fun k => blk_frozen hi6.bo k); have zf0 := zf 0; have zf1 := zf 1; have zn := nil4 hb46; clear zf hr0 hr1 hb6 hk6 hi6 hb46)
        go_wp2_with fail
        (try simp only [Exit.inBlock, Exit.then])
        refine bodyPost_ret (results_cell_row rfl _ _ (w.heap.size + 1) 35 #[.slice Aa X.2.2.1.length ca, .slice Ab X.2.2.2.length cb, (.slice Ac 120 cc), .slice (some ⟨gr, 0, none⟩) ss.length ss.length] (0, 0) _ rfl (blk_put (blk_put (blk_put (blk_put (blk_far (blk_far H46.out ne1 _) ne1 _) 0 _ rfl) 1 _ rfl) 2 _ rfl) 3 _ rfl) Try.underlying35 rfl (by kernel_rfl)) rfl ?_
        rw [← HXE.out]
        have far : ∀ k, k ≠ go → k ≠ w.heap.size + 1 → ((((((w6.setCell ⟨go, 0, none⟩ (.slice Aa X.2.2.1.length ca)).setCell ⟨go, 1, none⟩ (.slice Ab X.2.2.2.length cb)).setCell ⟨w.heap.size + 1, 0, none⟩ (.slice Aa X.2.2.1.length ca)).setCell ⟨w.heap.size + 1, 1, none⟩ (.slice Ab X.2.2.2.length cb)).setCell ⟨w.heap.size + 1, 2, none⟩ (.slice Ac 120 cc)).setCell ⟨w.heap.size + 1, 3, none⟩ (.slice (some ⟨gr, 0, none⟩) ss.length ss.length)).heap[k]? = w6.heap[k]? := fun k h1 h2 =>
          (Below.heap_setCell _ _ _ k h2).trans ((Below.heap_setCell _ _ _ k h2).trans ((Below.heap_setCell _ _ _ k h2).trans ((Below.heap_setCell _ _ _ k h2).trans ((Below.heap_setCell _ _ _ k h1).trans (Below.heap_setCell _ _ _ k h1)))))
        have hbw := HO.out.bw0.size
        have hnb := HNB.out
        have hba := Kd.R_base HR0.out
        have hbb := Kd.R_base HR1.out
        have hap := HO.out.ap
        have hbo := HI6.out.bo
        have h4 := H46.out
        refine ⟨gr, us, _, _, _, rfl, ?_, ?_, ?_, ?_, fun k e => ⟨fun h => HR0.out.1 k e h.symm, fun h => ?_⟩, fun k e h => ?_, fun i k hi e => ⟨fun h => ?_, fun h => ?_, hap i k hi e⟩, HO.out.bb.2.2.2, ?_⟩
        · exact row_stepG (Kd.R_lower (Kd.R_mono HR0.out (fun _ _ => trivial)) hbw) (fun k e _ => far k (fun e2 => Kd.R_ne HR0.out hbo (by decide) (by rw [e, e2])) (fun e2 => Kd.R_ne HR0.out h4 (by decide) (by rw [e, e2])))
        · exact row_stepG (Kd.R_lower (Kd.R_mono HR1.out (fun _ _ => trivial)) hbw) (fun k e _ => far k (fun e2 => Kd.R_ne HR1.out hbo (by decide) (by rw [e, e2])) (fun e2 => Kd.R_ne HR1.out h4 (by decide) (by rw [e, e2])))
        · exact row_stepG HI6.out.chr (fun k e _ => far k (fun e2 => Kd.R_ne HI6.out.chr hbo (by decide) (by rw [e, e2])) (fun e2 => Kd.R_ne HI6.out.chr h4 (by decide) (by rw [e, e2])))
        · exact HI6.out.rows.step (far gr (ne_of_type HI6.out.rows.blk hbo (by decide)) (ne_of_type HI6.out.rows.blk h4 (by decide))) (fun i k hi e _ => far k (fun e2 => Kd.RR_ne (HI6.out.rows.row i (by rw [← HI6.out.rows.len]; exact hi)) hbo (by decide) (by rw [e, e2])) (fun e2 => Kd.RR_ne (HI6.out.rows.row i (by rw [← HI6.out.rows.len]; exact hi)) h4 (by decide) (by rw [e, e2])))
        · have := hba k e
          have := hnb.2.2.1 k h
          omega
        · have := hbb k e
          have := hnb.2.2.1 k h
          omega
        · have := hba k h
          have := hnb.2.2.2 i k hi e
          omega
        · have := hbb k h
          have := hnb.2.2.2 i k hi e
          omega
        · have hgo := HO.out.bb.2.2.1
          have hg4 := HO.out.bb.2.1
          exact (((((HB6.out.setCell hgo _).setCell hgo _).setCell hg4 _).setCell hg4 _).setCell hg4 _).setCell hg4 _


set_option maxHeartbeats 4000000 in
set_option maxRecDepth 100000 in
/-- impl.RunServers where an argument is not valid. -/
theorem runServers_bad (A0 : Option Addr) (c0 : Nat) (l0 : List (S62)) (A : Option Addr) (c : Nat) (jobs : List (S67)) (As : Option Addr) (cs : Nat) (ss : List (S109)) (Ar : Option Addr) (cr : Nat) (rs : List (List (S164))) (a b : Bool) (w : World)
    (hr0 : Kd.C k62 w A0 l0.length l0) (hc0 : l0.length ≤ c0) (hj : Kd.C k67 w A jobs.length jobs) (hc : jobs.length ≤ c) (hs : Kd.C k109 w As ss.length ss) (hcs : ss.length ≤ cs) (hr : Kd.C (Kd.slice 164 k164) w Ar rs.length rs) (hcr : rs.length ≤ cr)
    (hleg : impl_JobsLegal.f l0 jobs = some a) (hsv : impl_ServersValid.f ss = some b) (hrl : ∀ x ∈ rs, x.length ≤ 1048576) (hbad : ¬ (a = true ∧ b = true ∧ rs.length = ss.length ∧ rs.all okArrs = true)) :
    Calls Try.prog 22 #[.slice A0 l0.length c0, .slice A jobs.length c, .slice As ss.length cs, .slice Ar rs.length cr] w fun e w' => e = .returned (.agg #[.slice none 0 0, .slice none 0 0, .slice none 0 0, .slice none 0 0]) ∧ Below w.heap.size w w' := by
  have hu := Try.underlying35
  obtain ⟨W0, hW0⟩ : ∃ W0, W0 = (w.alloc (.cells #[.slice A jobs.length c] 39)).alloc (.cells #[.slice none 0 0, .slice none 0 0, .slice none 0 0, .slice none 0 0] 35) := ⟨_, rfl⟩
  have hB0 : Below w.heap.size w W0 := by rw [hW0]; exact below_alloc (below_alloc (Below.refl _ _) _) _
  have hbx : W0.heap[w.heap.size]? = some (.cells #[.slice A jobs.length c] 39 (0, 0)) := by rw [hW0]; exact blk_alloc (blk_new _ _) _
  have hrs : W0.heap[w.heap.size + 1]? = some (.cells #[.slice none 0 0, .slice none 0 0, .slice none 0 0, .slice none 0 0] 35 (0, 0)) := by rw [hW0]; exact blk_new1 _ _ _
  have HLEG := Lib.hid (fun V (hV : Below w.heap.size w V) => impl_JobsLegal.calls A0 c0 l0 A c jobs a V (Kd.C_below hr0 hV) hc0 (Kd.C_below hj hV) hc hleg)
  have HSVV := Lib.hid (fun V (hV : Below w.heap.size w V) => impl_ServersValid.calls As cs ss b V (Kd.C_below hs hV) hcs hsv)
  have HCONT := Lib.hid (fun V (hV : Below w.heap.size w V) => contArr_calls V Ar cr rs (Kd.C_below hr hV) hcr hrl)
  have HWQ := Lib.hid hW0
  have HB0 := Lib.hid hB0
  have HRS := Lib.hid hrs
  have hcb0 : W0.cell? ⟨w.heap.size, 0, none⟩ = some (.slice A jobs.length c) := (blk_cell hbx 0).trans rfl
  have hway : a = false ∨ (a = true ∧ b = false) ∨ (a = true ∧ b = true ∧ (((rs.length : Nat) : Int) != (ss.length : Int)) = true) ∨ (a = true ∧ b = true ∧ (((rs.length : Nat) : Int) != (ss.length : Int)) = false ∧ rs.all okArrs = false) := by
    cases a with
    | false => exact .inl rfl
    | true =>
      cases b with
      | false => exact .inr (.inl ⟨rfl, rfl⟩)
      | true =>
        by_cases hl : rs.length = ss.length
        · refine .inr (.inr (.inr ⟨rfl, rfl, by rw [hl]; simp, ?_⟩))
          cases h : rs.all okArrs with
          | false => rfl
          | true => exact absurd ⟨rfl, rfl, hl, h⟩ hbad
        · exact .inr (.inr (.inl ⟨rfl, rfl, by simp; omega⟩))
  clear hr0 hc0 hj hc hs hcs hr hcr hleg hsv hW0 hB0 hbx hrs hbad
  rcases hway with rfl | ⟨rfl, rfl⟩ | ⟨rfl, rfl, g1⟩ | ⟨rfl, rfl, g1, g2⟩
  rotate_right
  · rw [g2] at HCONT
    clear g2
    go_enter Try.func22, Try.ntmps22
    go_upto_region 1 with (fail)
    rw [← HWQ.out]
    ((go_upto_region 2 with (first | (go_at_call 35; refine (HLEG.out _ HB0.out).mono ?_; rintro e w1 ⟨rfl, hb1⟩; have HZ := Lib.hid hb1; have HY := Lib.hid (below_step HB0.out hb1); clear hb1 hcb0) | (go_at_call 75; refine (HSVV.out _ HY.out).mono ?_; rintro e w2 ⟨rfl, hb2⟩; have HZ2 := Lib.hid (below_step HZ.out hb2); have HY2 := Lib.hid (below_step HY.out hb2); clear hb2 HZ HY; have HZ := HZ2; have HY := HY2; clear HZ2 HY2) | (go_at_call 76; refine (HCONT.out _ HY.out).mono ?_; rintro e w3 ⟨rfl, hb3⟩; have HZ2 := Lib.hid (below_step HZ.out hb3); have HY2 := Lib.hid (below_step HY.out hb3); clear hb3 HZ HY; have HZ := HZ2; have HY := HY2; clear HZ2 HY2)); have H3 := Aside0.mk (blk_below HRS.out HZ.out); have hq := nil4 H3.out; go_wp2_with fail; (try simp only [Exit.inBlock, Exit.then]); refine bodyPost_ret (results_cell_row rfl _ _ (w.heap.size + 1) 35 #[.slice none 0 0, .slice none 0 0, .slice none 0 0, .slice none 0 0] (0, 0) _ rfl (blk_put (blk_put (blk_put (blk_put H3.out 0 _ rfl) 1 _ rfl) 2 _ rfl) 3 _ rfl) Try.underlying35 rfl (by kernel_rfl)) rfl ?_; exact ⟨rfl, (((HY.out.setCell (Nat.le_succ _) _).setCell (Nat.le_succ _) _).setCell (Nat.le_succ _) _).setCell (Nat.le_succ _) _⟩))
  all_goals
    go_enter Try.func22, Try.ntmps22
    go_upto_region 1 with (fail)
    rw [← HWQ.out]
    ((go_upto_region 2 with (first | (go_at_call 35; refine (HLEG.out _ HB0.out).mono ?_; rintro e w1 ⟨rfl, hb1⟩; have HZ := Lib.hid hb1; have HY := Lib.hid (below_step HB0.out hb1); clear hb1 hcb0) | (go_at_call 75; refine (HSVV.out _ HY.out).mono ?_; rintro e w2 ⟨rfl, hb2⟩; have HZ2 := Lib.hid (below_step HZ.out hb2); have HY2 := Lib.hid (below_step HY.out hb2); clear hb2 HZ HY; have HZ := HZ2; have HY := HY2; clear HZ2 HY2) | (go_at_call 76; refine (HCONT.out _ HY.out).mono ?_; rintro e w3 ⟨rfl, hb3⟩; have HZ2 := Lib.hid (below_step HZ.out hb3); have HY2 := Lib.hid (below_step HY.out hb3); clear hb3 HZ HY; have HZ := HZ2; have HY := HY2; clear HZ2 HY2)); have H3 := Aside0.mk (blk_below HRS.out HZ.out); have hq := nil4 H3.out; go_wp2_with fail; (try simp only [Exit.inBlock, Exit.then]); refine bodyPost_ret (results_cell_row rfl _ _ (w.heap.size + 1) 35 #[.slice none 0 0, .slice none 0 0, .slice none 0 0, .slice none 0 0] (0, 0) _ rfl (blk_put (blk_put (blk_put (blk_put H3.out 0 _ rfl) 1 _ rfl) 2 _ rfl) 3 _ rfl) Try.underlying35 rfl (by kernel_rfl)) rfl ?_; exact ⟨rfl, (((HY.out.setCell (Nat.le_succ _) _).setCell (Nat.le_succ _) _).setCell (Nat.le_succ _) _).setCell (Nat.le_succ _) _⟩))

end Go.Proofs.Ytonifhkplniblaa.Print

namespace Go.Proofs.Ytonifhkplniblaa.Print
open Go.RowKit Go.Proofs.YtonifhkplniblaaW.PrintWords Go.Proofs.YtonifhkplniblaaW.PrintLast Go.Proofs.YtonifhkplniblaaW.PrintMore
attribute [local go_sem] max2_int min2_int max_two min_two max_three min_three max_four min_four
set_option linter.unusedVariables false
set_option linter.unusedSimpArgs false
open Go.Proofs.Ytonifhkplniblaa.Walk
/-- What is left of the request at the head, as the reference counts it. -/
def l5R (rs : List (S164)) (s : Sv) : Int := if s.hd < s.came then (rd_T164 rs s.hd).f1 - s.dn else 0
/-- A server's state, as the reference keeps it. -/
def l5S (rs : List (S164)) (s : Sv) : S167 := ⟨s.left, s.dl, s.came, s.hd, l5R rs s⟩
/-- The reference's state in its block. -/
def L5I (w W : World) (q : Nat) (b p l d c h r : Int) : Prop :=
  W.heap[q]? = some (.cells #[.int .i64 l, .int .i64 d, .int .i64 c, .int .i64 h, .int .i64 r] 167 (0, 0)) ∧ W.heap[q + 1]? = some (.cells #[.int .i64 b, .int .i64 p] 109 (0, 0)) ∧ W.heap[q + 1 + 1]? = some (.cells #[.int .i64 0, .int .i64 0, .int .i64 0, .int .i64 0, .int .i64 0] 167 (0, 0)) ∧ Below q w W ∧ w.heap.size = q
theorem L5I.put {w W : World} {q : Nat} {b p l d c h r l2 d2 c2 h2 r2 : Int} (hI : L5I w W q b p l d c h r) (j : Nat) (x : Int)
    (he : (#[Value.int .i64 l, .int .i64 d, .int .i64 c, .int .i64 h, .int .i64 r] : Array Value).setIfInBounds j (.int .i64 x) = #[.int .i64 l2, .int .i64 d2, .int .i64 c2, .int .i64 h2, .int .i64 r2]) : L5I w (W.setCell ⟨q, j, none⟩ (.int .i64 x)) q b p l2 d2 c2 h2 r2 := by
  obtain ⟨h1, h2, h3, h4, h5⟩ := hI
  have := blk_set h1 j (.int .i64 x)
  rw [he] at this
  exact ⟨this, blk_far h2 (by show q + 1 ≠ q; omega) _, blk_far h3 (by show q + 1 + 1 ≠ q; omega) _, h4.setCell (Nat.le_refl _) _, h5⟩
theorem L5I.all {w W : World} {q : Nat} {b p l d c h r : Int} (hI : L5I w W q b p l d c h r) : (W.cell? ⟨q, 0, none⟩ = some (.int .i64 l) ∧ W.cell? ⟨q, 1, none⟩ = some (.int .i64 d) ∧ W.cell? ⟨q, 2, none⟩ = some (.int .i64 c) ∧ W.cell? ⟨q, 3, none⟩ = some (.int .i64 h) ∧ W.cell? ⟨q, 4, none⟩ = some (.int .i64 r)) ∧ (W.cell? ⟨q + 1, 0, none⟩ = some (.int .i64 b) ∧ W.cell? ⟨q + 1, 1, none⟩ = some (.int .i64 p)) ∧ W.frozen? ⟨q, 0, none⟩ = false ∧ W.frozen? ⟨q, 1, none⟩ = false ∧ W.frozen? ⟨q, 2, none⟩ = false ∧ W.frozen? ⟨q, 3, none⟩ = false ∧ W.frozen? ⟨q, 4, none⟩ = false :=
  ⟨⟨(blk_cell hI.1 0).trans rfl, (blk_cell hI.1 1).trans rfl, (blk_cell hI.1 2).trans rfl, (blk_cell hI.1 3).trans rfl, (blk_cell hI.1 4).trans rfl⟩, ⟨(blk_cell hI.2.1 0).trans rfl, (blk_cell hI.2.1 1).trans rfl⟩, blk_frozen hI.1 0, blk_frozen hI.1 1, blk_frozen hI.1 2, blk_frozen hI.1 3, blk_frozen hI.1 4⟩
theorem L5I.start (w : World) (b p l d c h r : Int) : L5I w (((w.alloc (.cells #[.int .i64 l, .int .i64 d, .int .i64 c, .int .i64 h, .int .i64 r] 167)).alloc (.cells #[.int .i64 b, .int .i64 p] 109)).alloc (.cells #[.int .i64 0, .int .i64 0, .int .i64 0, .int .i64 0, .int .i64 0] 167)) w.heap.size b p l d c h r := by
  have s1 : (w.alloc (.cells #[.int .i64 l, .int .i64 d, .int .i64 c, .int .i64 h, .int .i64 r] 167)).heap.size = w.heap.size + 1 := by simp
  have h2 := blk_new1 (w.alloc (.cells #[.int .i64 l, .int .i64 d, .int .i64 c, .int .i64 h, .int .i64 r] 167)) (.cells #[.int .i64 b, .int .i64 p] 109) (.cells #[.int .i64 0, .int .i64 0, .int .i64 0, .int .i64 0, .int .i64 0] 167)
  rw [s1] at h2
  exact ⟨blk_alloc (blk_alloc (blk_new _ _) _) _, blk_alloc (blk_new1 _ _ _) _, h2, below_alloc (below_alloc (below_alloc (Below.refl _ _) _) _) _, rfl⟩
/-- The state is handed back. -/
theorem L5I.back {w W : World} {q : Nat} {b p l d c h r : Int} (hI : L5I w W q b p l d c h r) (x0 x1 x2 x3 x4 : Int) : (((((W.setCell ⟨q + 1 + 1, 0, none⟩ (.int .i64 x0)).setCell ⟨q + 1 + 1, 1, none⟩ (.int .i64 x1)).setCell ⟨q + 1 + 1, 2, none⟩ (.int .i64 x2)).setCell ⟨q + 1 + 1, 3, none⟩ (.int .i64 x3)).setCell ⟨q + 1 + 1, 4, none⟩ (.int .i64 x4)).heap[q + 1 + 1]? = some (.cells #[.int .i64 x0, .int .i64 x1, .int .i64 x2, .int .i64 x3, .int .i64 x4] 167 (0, 0)) ∧ Below q w (((((W.setCell ⟨q + 1 + 1, 0, none⟩ (.int .i64 x0)).setCell ⟨q + 1 + 1, 1, none⟩ (.int .i64 x1)).setCell ⟨q + 1 + 1, 2, none⟩ (.int .i64 x2)).setCell ⟨q + 1 + 1, 3, none⟩ (.int .i64 x3)).setCell ⟨q + 1 + 1, 4, none⟩ (.int .i64 x4)) := by
  have hq : q ≤ q + 1 + 1 := by omega
  exact ⟨blk_put (blk_put (blk_put (blk_put (blk_put hI.2.2.1 0 _ rfl) 1 _ rfl) 2 _ rfl) 3 _ rfl) 4 _ rfl, ((((hI.2.2.2.1.setCell hq _).setCell hq _).setCell hq _).setCell hq _).setCell hq _⟩
theorem L5I.nil {w W : World} {q : Nat} {b p l d c h r : Int} (hI : L5I w W q b p l d c h r) : (W.cell? ⟨q + 1 + 1, 0, none⟩ = some (.int .i64 0) ∧ W.cell? ⟨q + 1 + 1, 1, none⟩ = some (.int .i64 0) ∧ W.cell? ⟨q + 1 + 1, 2, none⟩ = some (.int .i64 0) ∧ W.cell? ⟨q + 1 + 1, 3, none⟩ = some (.int .i64 0) ∧ W.cell? ⟨q + 1 + 1, 4, none⟩ = some (.int .i64 0)) ∧ (W.frozen? ⟨q + 1 + 1, 0, none⟩ = false ∧ W.frozen? ⟨q + 1 + 1, 1, none⟩ = false ∧ W.frozen? ⟨q + 1 + 1, 2, none⟩ = false ∧ W.frozen? ⟨q + 1 + 1, 3, none⟩ = false ∧ W.frozen? ⟨q + 1 + 1, 4, none⟩ = false) :=
  ⟨⟨(blk_cell hI.2.2.1 0).trans rfl, (blk_cell hI.2.2.1 1).trans rfl, (blk_cell hI.2.2.1 2).trans rfl, (blk_cell hI.2.2.1 3).trans rfl, (blk_cell hI.2.2.1 4).trans rfl⟩, blk_frozen hI.2.2.1 0, blk_frozen hI.2.2.1 1, blk_frozen hI.2.2.1 2, blk_frozen hI.2.2.1 3, blk_frozen hI.2.2.1 4⟩
set_option maxHeartbeats 4000000 in
set_option maxRecDepth 100000 in
theorem l5Arrive_calls (b p now : Int) (A : Option Addr) (c : Nat) (rs : List (S164)) (s : Sv) (w : World) (hb : SvB b p rs s) (hr : Kd.C k164 w A rs.length rs) (h0 : 0 ≤ now) (h1 : now ≤ 200) :
    Calls Try.prog 139 #[.agg #[.int .i64 s.left, .int .i64 s.dl, .int .i64 s.came, .int .i64 s.hd, .int .i64 (l5R rs s)], .agg #[.int .i64 b, .int .i64 p], .slice A rs.length c, .int .i64 now] w fun e w' =>
      e = .returned (.agg #[.int .i64 (adm b p now rs s).left, .int .i64 (adm b p now rs s).dl, .int .i64 (adm b p now rs s).came, .int .i64 (adm b p now rs s).hd, .int .i64 (l5R rs (adm b p now rs s))]) ∧ Below w.heap.size w w' := by
  have hu := Try.underlying167
  have huS := Try.underlying109
  have huA := Try.underlying164
  have HR := Lib.hid hr
  have hfu : s.came + ((rs.length - s.came.toNat : Nat) : Int) = rs.length := by have := hb.h0; have := hb.h1; have := hb.c1; omega
  have HFIN := Lib.hid (show adm b p now rs s = admN b p now rs (rs.length - s.came.toNat) s from rfl)
  have HB := Lib.hid hb
  have hst := L5I.start w b p s.left s.dl s.came s.hd (l5R rs s)
  have HST := Lib.hid hst
  generalize adm b p now rs s = S at HFIN ⊢
  generalize rs.length - s.came.toNat = n0 at HFIN hfu
  clear hr hb hst
  go_enter Try.func139, Try.ntmps139
  go_upto_region 1 with (fail)
  have HI0 : Aside0 (∃ s' : Sv, L5I w (((w.alloc (.cells #[.int .i64 s.left, .int .i64 s.dl, .int .i64 s.came, .int .i64 s.hd, .int .i64 (l5R rs s)] 167)).alloc (.cells #[.int .i64 b, .int .i64 p] 109)).alloc (.cells #[.int .i64 0, .int .i64 0, .int .i64 0, .int .i64 0, .int .i64 0] 167)) w.heap.size b p s'.left s'.dl s'.came s'.hd (l5R rs s') ∧ S = admN b p now rs n0 s' ∧ SvB b p rs s' ∧ s'.came + (n0 : Int) = rs.length) := ⟨⟨s, HST.out, HFIN.out, HB.out, hfu⟩⟩
  clear HST HFIN HB hfu
  generalize World.alloc _ _ = w3 at HI0 ⊢
  obtain ⟨q, hq⟩ : ∃ q, q = w.heap.size := ⟨_, rfl⟩
  rw [← hq] at HI0
  try rw [← hq]
  have HQ := Lib.hid hq
  clear hq
  go_loopg [] n0 (fun kq w' => Aside0 (∃ s' : Sv, L5I w w' q b p s'.left s'.dl s'.came s'.hd (l5R rs s') ∧ S = admN b p now rs kq s' ∧ SvB b p rs s' ∧ s'.came + (kq : Int) = rs.length))
  case atStart => exact HI0
  case round =>
    clear HI0
    obtain ⟨s', hI, hS, hB, hk⟩ := hrel.out
    clear hrel
    have HI := Aside0.mk hI
    clear hI
    obtain ⟨sl, sd, sc, sh, sn⟩ := s'
    obtain ⟨a1, a2, a3, a4, a5, a6, a7, a8, a9, b1, b2, b3, b4, b5, b6⟩ := id hB
    simp only at a6 a7 a8 a9 b1 b2 b3 b4 hk HI
    have hr2 := Kd.C_below HR.out (by rw [← HQ.out]; exact HI.out.2.2.2.1)
    obtain ⟨r, hr⟩ : ∃ r, r = l5R rs ⟨sl, sd, sc, sh, sn⟩ := ⟨_, rfl⟩
    rw [← hr] at HI
    ((obtain ⟨⟨z0, z1, z2, z3, z4⟩, ⟨zb, zp⟩, zf0, zf1, zf2, zf3, zf4⟩ := HI.out.all))
    have b7 : sn ≤ 20 := by
      by_cases h : sh < sc
      · have h2 : sn < (rd_T164 rs sh).f1 := b5 h; have := a5 sh b1 (by omega); omega
      · have h2 : sn = 0 := b6 (show sh = sc by omega); omega
    cases gk with
    | zero =>
      have hlt : decide (sc < (rs.length : Int)) = false := decide_eq_false (by omega)
      have HS : Hid (S = ⟨sl, sd, sc, sh, sn⟩) := Lib.hid hS
      have HRR := Lib.hid hr
      clear hS hB hr2 hr a5 b5 b6
      ((have HBK := Lib.hid (HI.out.back sl sd sc sh r); have zn := HI.out.nil; clear HI; go_wp2_with fail; (try simp only [Exit.inBlock, Exit.then]); refine bodyPost_ret (results_cell_row rfl _ _ (q + 1 + 1) 167 #[.int .i64 sl, .int .i64 sd, .int .i64 sc, .int .i64 sh, .int .i64 r] (0, 0) _ rfl HBK.out.1 Try.underlying167 rfl (by kernel_rfl)) rfl ?_))
      rw [HS.out]
      exact ⟨by rw [← HRR.out], by rw [← HQ.out]; exact HBK.out.2⟩
    | succ k1 =>
      have hlt : decide (sc < (rs.length : Int)) = true := decide_eq_true (by omega)
      obtain ⟨ad, e0, hx0, hx1⟩ := at_T164 hr2 sc (by omega) (by omega)
      cases e0
      have hne : (ad.add (sc.toNat * 2)).block ≠ q := by
        obtain ⟨ad', e', hy0, _⟩ := at_T164 HR.out sc (by omega) (by omega)
        cases e'
        have := World.block_lt_of_cell? _ _ hy0
        have := HQ.out
        omega
      have hne2 := Ne.symm hne
      have hstp : admN b p now rs (k1 + 1) ⟨sl, sd, sc, sh, sn⟩ = if (rd_T164 rs sc).f0 = now then admN b p now rs k1 (adm1 b p now ⟨sl, sd, sc, sh, sn⟩) else ⟨sl, sd, sc, sh, sn⟩ := rfl
      rw [hstp] at hS
      obtain ⟨tm, htm⟩ : ∃ tm, tm = (rd_T164 rs sc).f0 := ⟨_, rfl⟩
      obtain ⟨ex, hex⟩ : ∃ ex, ex = (rd_T164 rs sc).f1 := ⟨_, rfl⟩
      rw [← htm] at hx0 hS
      rw [← hex] at hx1
      have q0 : 0 ≤ sc := by omega
      have q1 : sc < (rs.length : Int) := by omega
      by_cases he : tm = now
      · have heb : (tm == now) = true := by rw [beq_iff_eq]; exact he
        rw [if_pos he] at hS
        have HN1 := hB.adm1 (now := now) q1 h0 h1
        have n1 : 0 ≤ sl * p ∧ sl * p ≤ 144 := ⟨Int.mul_nonneg (by omega) (by omega), by have := Int.mul_le_mul (show sl ≤ 12 by omega) (show p ≤ 12 by omega) (by omega) (by omega); omega⟩
        have n2 : (sd - now) * b ≤ 1000000 := by have := Int.mul_le_mul (show sd - now ≤ 50000 by omega) (show b ≤ 12 by omega) (by omega) (by omega); omega
        have n3 : -1000000 ≤ (sd - now) * b := by have := Int.mul_le_mul (show -(sd - now) ≤ 50000 by omega) (show b ≤ 12 by omega) (by omega) (by omega); rw [Int.neg_mul] at this; omega
        have W1 := Lib.hid (show IntKind.i64.wrap (sl * p) = sl * p from i64_sm (by omega) (by omega))
        have W2 := Lib.hid (show IntKind.i64.wrap ((sd - now) * b) = (sd - now) * b from i64_sm (by omega) (by omega))
        have W3 := Lib.hid (show IntKind.i64.wrap (sd - now) = sd - now from i64_sm (by omega) (by omega))
        have W4 := Lib.hid (show IntKind.i64.wrap (now + p) = now + p from i64_sm (by omega) (by omega))
        have W5 := Lib.hid (show IntKind.i64.wrap (sc + 1) = sc + 1 from i64_sm (by omega) (by omega))
        have hsc2 : sc + 1 + (k1 : Int) = rs.length := by omega
        clear n1 n2 n3 hB hr2 hstp
        by_cases hp : sh < sc
        · have hpb : (sh == sc) = false := by rw [beq_eq_false_iff_ne]; omega
          have had : adm1 b p now ⟨sl, sd, sc, sh, sn⟩ = ⟨sl, sd, sc + 1, sh, sn⟩ := by unfold adm1; rw [if_pos hp]
          have hr3 : l5R rs ⟨sl, sd, sc + 1, sh, sn⟩ = r := by
            rw [hr]
            unfold l5R
            rw [if_pos (show sh < sc + 1 by omega), if_pos hp]
          rw [had] at hS HN1
          have HS := Lib.hid hS
          have HN := Lib.hid HN1
          have HR3 := Lib.hid hr3
          have w5 := W5.out
          clear hS HN1 had hp hr hr3 htm hex a5 b5 b6
          go_wp2_with fail
          go_roundg k1
          case measure => omega
          case rel => exact ⟨⟨sl, sd, sc + 1, sh, sn⟩, by rw [HR3.out]; exact HI.out.put 2 (sc + 1) rfl, HS.out, HN.out, hsc2⟩
        · have hpe : sh = sc := by omega
          have hsn : sn = 0 := b6 hpe
          have hpb : (sh == sc) = true := by rw [beq_iff_eq]; exact hpe
          have hr3 : ∀ l d, l5R rs ⟨l, d, sc + 1, sh, sn⟩ = ex := fun l d => by
            unfold l5R
            rw [if_pos (show sh < sc + 1 by omega)]
            show (rd_T164 rs sh).f1 - sn = ex
            rw [hpe, hsn, hex]
            omega
          have HR3 := Lib.hid hr3
          by_cases hg : sl * p ≥ (sd - now) * b
          · have hgb : decide (sl * p ≥ (sd - now) * b) = true := decide_eq_true hg
            have had : adm1 b p now ⟨sl, sd, sc, sh, sn⟩ = ⟨b, now + p, sc + 1, sh, sn⟩ := by unfold adm1; rw [if_neg hp, if_pos hg]
            rw [had] at hS HN1
            have HS := Lib.hid hS
            have HN := Lib.hid HN1
            have w1_ := W1.out
            have w2_ := W2.out
            have w3_ := W3.out
            have w4_ := W4.out
            have w5_ := W5.out
            clear hS HN1 had hp hg hpe hsn hr hr3 htm hex a5 b5 b6
            go_wp2_with fail
            go_roundg k1
            case measure => omega
            case rel => exact ⟨⟨b, now + p, sc + 1, sh, sn⟩, by rw [HR3.out]; exact ((((HI.out.put (l2 := sl) (d2 := now + p) (c2 := sc) (h2 := sh) (r2 := r) 1 (now + p) rfl).put (l2 := b) (d2 := now + p) (c2 := sc) (h2 := sh) (r2 := r) 0 b rfl).put (l2 := b) (d2 := now + p) (c2 := sc) (h2 := sh) (r2 := ex) 4 ex rfl).put 2 (sc + 1) rfl), HS.out, HN.out, hsc2⟩
          · have hgb : decide (sl * p ≥ (sd - now) * b) = false := decide_eq_false hg
            have had : adm1 b p now ⟨sl, sd, sc, sh, sn⟩ = ⟨sl, sd, sc + 1, sh, sn⟩ := by unfold adm1; rw [if_neg hp, if_neg hg]
            rw [had] at hS HN1
            have HS := Lib.hid hS
            have HN := Lib.hid HN1
            have w1_ := W1.out
            have w2_ := W2.out
            have w3_ := W3.out
            have w5_ := W5.out
            clear hS HN1 had hp hg hpe hsn hr hr3 htm hex a5 b5 b6
            go_wp2_with fail
            go_roundg k1
            case measure => omega
            case rel => exact ⟨⟨sl, sd, sc + 1, sh, sn⟩, by rw [HR3.out]; exact ((HI.out.put (l2 := sl) (d2 := sd) (c2 := sc) (h2 := sh) (r2 := ex) 4 ex rfl).put 2 (sc + 1) rfl), HS.out, HN.out, hsc2⟩
      · have heb : (tm == now) = false := by rw [beq_eq_false_iff_ne]; exact he
        rw [if_neg he] at hS
        have HS := Lib.hid hS
        have HRR := Lib.hid hr
        clear hS hB hr2 he htm hex hx1 hstp hr a5 b5 b6
        ((have HBK := Lib.hid (HI.out.back sl sd sc sh r); have zn := HI.out.nil; clear HI; go_wp2_with fail; (try simp only [Exit.inBlock, Exit.then]); refine bodyPost_ret (results_cell_row rfl _ _ (q + 1 + 1) 167 #[.int .i64 sl, .int .i64 sd, .int .i64 sc, .int .i64 sh, .int .i64 r] (0, 0) _ rfl HBK.out.1 Try.underlying167 rfl (by kernel_rfl)) rfl ?_))
        rw [HS.out]
        exact ⟨by rw [← HRR.out], by rw [← HQ.out]; exact HBK.out.2⟩


set_option maxHeartbeats 4000000 in
set_option maxRecDepth 100000 in
theorem l5Serve_calls (b p : Int) (A : Option Addr) (c : Nat) (rs : List (S164)) (s : Sv) (w : World) (hb : SvB b p rs s) (hr : Kd.C k164 w A rs.length rs) (hp : s.hd < s.came) :
    Calls Try.prog 142 #[.agg #[.int .i64 s.left, .int .i64 s.dl, .int .i64 s.came, .int .i64 s.hd, .int .i64 (l5R rs s)], .agg #[.int .i64 b, .int .i64 p], .slice A rs.length c] w fun e w' =>
      e = .returned (.agg #[.int .i64 (srvS b p rs s).left, .int .i64 (srvS b p rs s).dl, .int .i64 (srvS b p rs s).came, .int .i64 (srvS b p rs s).hd, .int .i64 (l5R rs (srvS b p rs s))]) ∧ Below w.heap.size w w' := by
  have hu := Try.underlying167
  have huS := Try.underlying109
  have huA := Try.underlying164
  obtain ⟨sl, sd, sc, sh, sn⟩ := s
  obtain ⟨a1, a2, a3, a4, a5, a6, a7, a8, a9, b1, b2, b3, b4, b5, b6⟩ := hb
  simp only at a6 a7 a8 a9 b1 b2 b3 b4 hp
  have b5 := b5 hp
  have hx := a5 sh b1 (by omega)
  simp only at b5
  have hrr : l5R rs ⟨sl, sd, sc, sh, sn⟩ = (rd_T164 rs sh).f1 - sn := by unfold l5R; rw [if_pos hp]
  have hres : srvS b p rs ⟨sl, sd, sc, sh, sn⟩ = if sn + 1 < (rd_T164 rs sh).f1 then ⟨if sl - 1 = 0 then b else sl - 1, if sl - 1 = 0 then sd + p else sd, sc, sh, sn + 1⟩ else ⟨if sl - 1 = 0 then b else sl - 1, if sl - 1 = 0 then sd + p else sd, sc, sh + 1, 0⟩ := rfl
  have hst := L5I.start w b p sl sd sc sh (l5R rs ⟨sl, sd, sc, sh, sn⟩)
  obtain ⟨r, hr0⟩ : ∃ r, r = l5R rs ⟨sl, sd, sc, sh, sn⟩ := ⟨_, rfl⟩
  show Calls Try.prog 142 #[.agg #[.int .i64 sl, .int .i64 sd, .int .i64 sc, .int .i64 sh, .int .i64 (l5R rs ⟨sl, sd, sc, sh, sn⟩)], .agg #[.int .i64 b, .int .i64 p], .slice A rs.length c] w _
  rw [← hr0] at hst ⊢
  have hre : r = (rd_T164 rs sh).f1 - sn := hr0.trans hrr
  obtain ⟨ex, hex⟩ : ∃ ex, ex = (rd_T164 rs sh).f1 := ⟨_, rfl⟩
  rw [← hex] at hres hre b5 hx
  obtain ⟨l1, hl1⟩ : ∃ l1, l1 = sl - 1 := ⟨_, rfl⟩
  rw [← hl1] at hres
  have w1_ : IntKind.i64.wrap (sl - 1) = l1 := (i64_sm (by omega) (by omega)).trans hl1.symm
  have w2_ : IntKind.i64.wrap (sd + p) = sd + p := i64_sm (by omega) (by omega)
  have w3_ : IntKind.i64.wrap (r - 1) = r - 1 := i64_sm (by omega) (by omega)
  have w4_ : IntKind.i64.wrap (sh + 1) = sh + 1 := i64_sm (by omega) (by omega)
  obtain ⟨S, hSS⟩ : ∃ S, S = srvS b p rs ⟨sl, sd, sc, sh, sn⟩ := ⟨_, rfl⟩
  rw [← hSS] at hres ⊢
  have HR := Lib.hid hr
  have HI := Aside0.mk hst
  obtain ⟨q, hq⟩ : ∃ q, q = w.heap.size := ⟨_, rfl⟩
  have HQ := Lib.hid hq
  by_cases c2 : sn + 1 < ex
  · rw [if_pos c2] at hres
    have hrb : (r - 1 == 0) = false := by rw [beq_eq_false_iff_ne]; omega
    have hnr : ∀ l d, l5R rs ⟨l, d, sc, sh, sn + 1⟩ = r - 1 := fun l d => by
      unfold l5R
      rw [if_pos hp]
      show (rd_T164 rs sh).f1 - (sn + 1) = r - 1
      omega
    have hleft : (l1 = 0 ∧ (Value.agg #[.int .i64 S.left, .int .i64 S.dl, .int .i64 S.came, .int .i64 S.hd, .int .i64 (l5R rs S)]) = .agg #[.int .i64 b, .int .i64 (sd + p), .int .i64 sc, .int .i64 sh, .int .i64 (r - 1)]) ∨ ((l1 == 0) = false ∧ (Value.agg #[.int .i64 S.left, .int .i64 S.dl, .int .i64 S.came, .int .i64 S.hd, .int .i64 (l5R rs S)]) = .agg #[.int .i64 l1, .int .i64 sd, .int .i64 sc, .int .i64 sh, .int .i64 (r - 1)]) := by
      by_cases c1 : l1 = 0
      · rw [if_pos c1, if_pos c1] at hres
        exact .inl ⟨c1, by rw [hres, hnr]⟩
      · rw [if_neg c1, if_neg c1] at hres
        exact .inr ⟨by rw [beq_eq_false_iff_ne]; exact c1, by rw [hres, hnr]⟩
    clear hr a1 a2 a3 a4 a5 a6 a7 a8 a9 b1 b2 b3 b4 b5 b6 hp hx hrr hres hst hr0 hre hex hl1 hSS hq c2 hnr
    go_enter Try.func142, Try.ntmps142
    go_upto_region 1 with (fail)
    rw [← HQ.out] at HI
    try rw [← HQ.out]
    generalize World.alloc _ _ = wv at HI ⊢
    ((obtain ⟨⟨z0, z1, z2, z3, z4⟩, ⟨zb, zp⟩, zf0, zf1, zf2, zf3, zf4⟩ := HI.out.all))
    go_upto_region 2 with (fail)
    ((have HIx := Aside0.mk (HI.out.put (l2 := l1) (d2 := sd) (c2 := sc) (h2 := sh) (r2 := r) 0 l1 rfl); clear z0 z1 z2 z3 z4 zb zp zf0 zf1 zf2 zf3 zf4 HI; generalize World.setCell wv _ _ = wv at HIx ⊢; have HI := HIx; clear HIx; ((obtain ⟨⟨z0, z1, z2, z3, z4⟩, ⟨zb, zp⟩, zf0, zf1, zf2, zf3, zf4⟩ := HI.out.all))))
    go_upto_region 3 with (fail)
    ((have HIx := Aside0.mk (HI.out.put (l2 := l1) (d2 := sd) (c2 := sc) (h2 := sh) (r2 := (r - 1)) 4 (r - 1) rfl); clear z0 z1 z2 z3 z4 zb zp zf0 zf1 zf2 zf3 zf4 HI; generalize World.setCell wv _ _ = wv at HIx ⊢; have HI := HIx; clear HIx; ((obtain ⟨⟨z0, z1, z2, z3, z4⟩, ⟨zb, zp⟩, zf0, zf1, zf2, zf3, zf4⟩ := HI.out.all))))
    ((go_upto_region 7 with (fail); rcases hleft with ⟨rfl, hS⟩ | ⟨c1b, hS⟩; (· have HS := Lib.hid hS; clear hS; go_upto_region 9 with (fail); ((have HIx := Aside0.mk (HI.out.put (l2 := b) (d2 := sd) (c2 := sc) (h2 := sh) (r2 := (r - 1)) 0 b rfl); clear z0 z1 z2 z3 z4 zb zp zf0 zf1 zf2 zf3 zf4 HI; generalize World.setCell wv _ _ = wv at HIx ⊢; have HI := HIx; clear HIx; ((obtain ⟨⟨z0, z1, z2, z3, z4⟩, ⟨zb, zp⟩, zf0, zf1, zf2, zf3, zf4⟩ := HI.out.all)))); go_upto_region 10 with (fail); ((have HIx := Aside0.mk (HI.out.put (l2 := b) (d2 := (sd + p)) (c2 := sc) (h2 := sh) (r2 := (r - 1)) 1 (sd + p) rfl); clear z0 z1 z2 z3 z4 zb zp zf0 zf1 zf2 zf3 zf4 HI; generalize World.setCell wv _ _ = wv at HIx ⊢; have HI := HIx; clear HIx; ((obtain ⟨⟨z0, z1, z2, z3, z4⟩, ⟨zb, zp⟩, zf0, zf1, zf2, zf3, zf4⟩ := HI.out.all)))); ((have HBK := Lib.hid (HI.out.back b (sd + p) sc sh (r - 1)); have zn := HI.out.nil; clear HI; go_wp2_with fail; (try simp only [Exit.inBlock, Exit.then]); refine bodyPost_ret (results_cell_row rfl _ _ (q + 1 + 1) 167 #[.int .i64 b, .int .i64 (sd + p), .int .i64 sc, .int .i64 sh, .int .i64 (r - 1)] (0, 0) _ rfl HBK.out.1 Try.underlying167 rfl (by kernel_rfl)) rfl ?_; exact ⟨by rw [HS.out], by rw [← HQ.out]; exact HBK.out.2⟩))); (· have HS := Lib.hid hS; clear hS; go_upto_region 10 with (fail); ((have HBK := Lib.hid (HI.out.back l1 sd sc sh (r - 1)); have zn := HI.out.nil; clear HI; go_wp2_with fail; (try simp only [Exit.inBlock, Exit.then]); refine bodyPost_ret (results_cell_row rfl _ _ (q + 1 + 1) 167 #[.int .i64 l1, .int .i64 sd, .int .i64 sc, .int .i64 sh, .int .i64 (r - 1)] (0, 0) _ rfl HBK.out.1 Try.underlying167 rfl (by kernel_rfl)) rfl ?_; exact ⟨by rw [HS.out], by rw [← HQ.out]; exact HBK.out.2⟩)))))
  · rw [if_neg c2] at hres
    have hr1 : r = 1 := by omega
    subst hr1
    have hex1 : ∀ ad, A = some ad → ∀ W, Below q w W → sh + 1 < sc → W.cell? ⟨(ad.add ((sh + 1).toNat * 2)).block, (ad.add ((sh + 1).toNat * 2)).off + 1, none⟩ = some (.int .i64 (rd_T164 rs (sh + 1)).f1) ∧ (ad.add ((sh + 1).toNat * 2)).block ≠ q := fun ad hA W hW hd => by
      obtain ⟨ad', e', _, hy1⟩ := at_T164 (Kd.C_below hr (by rw [← hq]; exact hW)) (sh + 1) (by omega) (by omega)
      obtain ⟨ad2, e2, hy0, _⟩ := at_T164 hr (sh + 1) (by omega) (by omega)
      rw [hA] at e' e2
      cases e'
      cases e2
      refine ⟨hy1, ?_⟩
      have := World.block_lt_of_cell? _ _ hy0
      omega
    obtain ⟨ad, hA, _⟩ := at_T164 hr sh b1 (by omega)
    subst hA
    have HEX := Lib.hid (hex1 ad rfl)
    have q0 : 0 ≤ sh + 1 := by omega
    by_cases hd : sh + 1 < sc
    · have hdb : decide (sh + 1 < sc) = true := decide_eq_true hd
      have q1 : sh + 1 < (rs.length : Int) := by omega
      obtain ⟨e2, he2⟩ : ∃ e2, e2 = (rd_T164 rs (sh + 1)).f1 := ⟨_, rfl⟩
      have hnr : ∀ l d, l5R rs ⟨l, d, sc, sh + 1, 0⟩ = e2 := fun l d => by
        unfold l5R
        rw [if_pos hd, he2]
        exact Int.sub_zero _
      have hleft : (l1 = 0 ∧ (Value.agg #[.int .i64 S.left, .int .i64 S.dl, .int .i64 S.came, .int .i64 S.hd, .int .i64 (l5R rs S)]) = .agg #[.int .i64 b, .int .i64 (sd + p), .int .i64 sc, .int .i64 (sh + 1), .int .i64 e2]) ∨ ((l1 == 0) = false ∧ (Value.agg #[.int .i64 S.left, .int .i64 S.dl, .int .i64 S.came, .int .i64 S.hd, .int .i64 (l5R rs S)]) = .agg #[.int .i64 l1, .int .i64 sd, .int .i64 sc, .int .i64 (sh + 1), .int .i64 e2]) := by
        by_cases c1 : l1 = 0
        · rw [if_pos c1, if_pos c1] at hres
          exact .inl ⟨c1, by rw [hres, hnr]⟩
        · rw [if_neg c1, if_neg c1] at hres
          exact .inr ⟨by rw [beq_eq_false_iff_ne]; exact c1, by rw [hres, hnr]⟩
      have HEY := Lib.hid (fun W hW => HEX.out W hW hd)
      rw [← he2] at HEY
      clear hex1 HEX hr a1 a2 a3 a4 a5 a6 a7 a8 a9 b1 b2 b3 b4 b5 b6 hp hx hrr hres hst hr0 hre hex hl1 hSS hq c2 hnr he2 hd
      go_enter Try.func142, Try.ntmps142
      go_upto_region 1 with (fail)
      rw [← HQ.out] at HI
      try rw [← HQ.out]
      generalize World.alloc _ _ = wv at HI ⊢
      ((obtain ⟨⟨z0, z1, z2, z3, z4⟩, ⟨zb, zp⟩, zf0, zf1, zf2, zf3, zf4⟩ := HI.out.all))
      go_upto_region 2 with (fail)
      ((have HIx := Aside0.mk (HI.out.put (l2 := l1) (d2 := sd) (c2 := sc) (h2 := sh) (r2 := 1) 0 l1 rfl); clear z0 z1 z2 z3 z4 zb zp zf0 zf1 zf2 zf3 zf4 HI; generalize World.setCell wv _ _ = wv at HIx ⊢; have HI := HIx; clear HIx; ((obtain ⟨⟨z0, z1, z2, z3, z4⟩, ⟨zb, zp⟩, zf0, zf1, zf2, zf3, zf4⟩ := HI.out.all))))
      go_upto_region 3 with (fail)
      ((have HIx := Aside0.mk (HI.out.put (l2 := l1) (d2 := sd) (c2 := sc) (h2 := sh) (r2 := 0) 4 0 rfl); clear z0 z1 z2 z3 z4 zb zp zf0 zf1 zf2 zf3 zf4 HI; generalize World.setCell wv _ _ = wv at HIx ⊢; have HI := HIx; clear HIx; ((obtain ⟨⟨z0, z1, z2, z3, z4⟩, ⟨zb, zp⟩, zf0, zf1, zf2, zf3, zf4⟩ := HI.out.all))))
      go_upto_region 5 with (fail)
      ((have HIx := Aside0.mk (HI.out.put (l2 := l1) (d2 := sd) (c2 := sc) (h2 := (sh + 1)) (r2 := 0) 3 (sh + 1) rfl); clear z0 z1 z2 z3 z4 zb zp zf0 zf1 zf2 zf3 zf4 HI; generalize World.setCell wv _ _ = wv at HIx ⊢; have HI := HIx; clear HIx; ((obtain ⟨⟨z0, z1, z2, z3, z4⟩, ⟨zb, zp⟩, zf0, zf1, zf2, zf3, zf4⟩ := HI.out.all))))
      obtain ⟨hy, hny⟩ := HEY.out wv HI.out.2.2.2.1
      go_upto_region 7 with (fail)
      ((have HIx := Aside0.mk (HI.out.put (l2 := l1) (d2 := sd) (c2 := sc) (h2 := (sh + 1)) (r2 := e2) 4 e2 rfl); clear z0 z1 z2 z3 z4 zb zp zf0 zf1 zf2 zf3 zf4 HI; generalize World.setCell wv _ _ = wv at HIx ⊢; have HI := HIx; clear HIx; ((obtain ⟨⟨z0, z1, z2, z3, z4⟩, ⟨zb, zp⟩, zf0, zf1, zf2, zf3, zf4⟩ := HI.out.all))))
      ((go_upto_region 7 with (fail); rcases hleft with ⟨rfl, hS⟩ | ⟨c1b, hS⟩; (· have HS := Lib.hid hS; clear hS; go_upto_region 9 with (fail); ((have HIx := Aside0.mk (HI.out.put (l2 := b) (d2 := sd) (c2 := sc) (h2 := (sh + 1)) (r2 := e2) 0 b rfl); clear z0 z1 z2 z3 z4 zb zp zf0 zf1 zf2 zf3 zf4 HI; generalize World.setCell wv _ _ = wv at HIx ⊢; have HI := HIx; clear HIx; ((obtain ⟨⟨z0, z1, z2, z3, z4⟩, ⟨zb, zp⟩, zf0, zf1, zf2, zf3, zf4⟩ := HI.out.all)))); go_upto_region 10 with (fail); ((have HIx := Aside0.mk (HI.out.put (l2 := b) (d2 := (sd + p)) (c2 := sc) (h2 := (sh + 1)) (r2 := e2) 1 (sd + p) rfl); clear z0 z1 z2 z3 z4 zb zp zf0 zf1 zf2 zf3 zf4 HI; generalize World.setCell wv _ _ = wv at HIx ⊢; have HI := HIx; clear HIx; ((obtain ⟨⟨z0, z1, z2, z3, z4⟩, ⟨zb, zp⟩, zf0, zf1, zf2, zf3, zf4⟩ := HI.out.all)))); ((have HBK := Lib.hid (HI.out.back b (sd + p) sc (sh + 1) e2); have zn := HI.out.nil; clear HI; go_wp2_with fail; (try simp only [Exit.inBlock, Exit.then]); refine bodyPost_ret (results_cell_row rfl _ _ (q + 1 + 1) 167 #[.int .i64 b, .int .i64 (sd + p), .int .i64 sc, .int .i64 (sh + 1), .int .i64 e2] (0, 0) _ rfl HBK.out.1 Try.underlying167 rfl (by kernel_rfl)) rfl ?_; exact ⟨by rw [HS.out], by rw [← HQ.out]; exact HBK.out.2⟩))); (· have HS := Lib.hid hS; clear hS; go_upto_region 10 with (fail); ((have HBK := Lib.hid (HI.out.back l1 sd sc (sh + 1) e2); have zn := HI.out.nil; clear HI; go_wp2_with fail; (try simp only [Exit.inBlock, Exit.then]); refine bodyPost_ret (results_cell_row rfl _ _ (q + 1 + 1) 167 #[.int .i64 l1, .int .i64 sd, .int .i64 sc, .int .i64 (sh + 1), .int .i64 e2] (0, 0) _ rfl HBK.out.1 Try.underlying167 rfl (by kernel_rfl)) rfl ?_; exact ⟨by rw [HS.out], by rw [← HQ.out]; exact HBK.out.2⟩)))))
    · have hdb : decide (sh + 1 < sc) = false := decide_eq_false hd
      have hnr : ∀ l d, l5R rs ⟨l, d, sc, sh + 1, 0⟩ = 0 := fun l d => by
        unfold l5R
        rw [if_neg hd]
      have hleft : (l1 = 0 ∧ (Value.agg #[.int .i64 S.left, .int .i64 S.dl, .int .i64 S.came, .int .i64 S.hd, .int .i64 (l5R rs S)]) = .agg #[.int .i64 b, .int .i64 (sd + p), .int .i64 sc, .int .i64 (sh + 1), .int .i64 0]) ∨ ((l1 == 0) = false ∧ (Value.agg #[.int .i64 S.left, .int .i64 S.dl, .int .i64 S.came, .int .i64 S.hd, .int .i64 (l5R rs S)]) = .agg #[.int .i64 l1, .int .i64 sd, .int .i64 sc, .int .i64 (sh + 1), .int .i64 0]) := by
        by_cases c1 : l1 = 0
        · rw [if_pos c1, if_pos c1] at hres
          exact .inl ⟨c1, by rw [hres, hnr]⟩
        · rw [if_neg c1, if_neg c1] at hres
          exact .inr ⟨by rw [beq_eq_false_iff_ne]; exact c1, by rw [hres, hnr]⟩
      clear hex1 HEX hr a1 a2 a3 a4 a5 a6 a7 a8 a9 b1 b2 b3 b4 b5 b6 hp hx hrr hres hst hr0 hre hex hl1 hSS hq c2 hnr hd
      go_enter Try.func142, Try.ntmps142
      go_upto_region 1 with (fail)
      rw [← HQ.out] at HI
      try rw [← HQ.out]
      generalize World.alloc _ _ = wv at HI ⊢
      ((obtain ⟨⟨z0, z1, z2, z3, z4⟩, ⟨zb, zp⟩, zf0, zf1, zf2, zf3, zf4⟩ := HI.out.all))
      go_upto_region 2 with (fail)
      ((have HIx := Aside0.mk (HI.out.put (l2 := l1) (d2 := sd) (c2 := sc) (h2 := sh) (r2 := 1) 0 l1 rfl); clear z0 z1 z2 z3 z4 zb zp zf0 zf1 zf2 zf3 zf4 HI; generalize World.setCell wv _ _ = wv at HIx ⊢; have HI := HIx; clear HIx; ((obtain ⟨⟨z0, z1, z2, z3, z4⟩, ⟨zb, zp⟩, zf0, zf1, zf2, zf3, zf4⟩ := HI.out.all))))
      go_upto_region 3 with (fail)
      ((have HIx := Aside0.mk (HI.out.put (l2 := l1) (d2 := sd) (c2 := sc) (h2 := sh) (r2 := 0) 4 0 rfl); clear z0 z1 z2 z3 z4 zb zp zf0 zf1 zf2 zf3 zf4 HI; generalize World.setCell wv _ _ = wv at HIx ⊢; have HI := HIx; clear HIx; ((obtain ⟨⟨z0, z1, z2, z3, z4⟩, ⟨zb, zp⟩, zf0, zf1, zf2, zf3, zf4⟩ := HI.out.all))))
      go_upto_region 5 with (fail)
      ((have HIx := Aside0.mk (HI.out.put (l2 := l1) (d2 := sd) (c2 := sc) (h2 := (sh + 1)) (r2 := 0) 3 (sh + 1) rfl); clear z0 z1 z2 z3 z4 zb zp zf0 zf1 zf2 zf3 zf4 HI; generalize World.setCell wv _ _ = wv at HIx ⊢; have HI := HIx; clear HIx; ((obtain ⟨⟨z0, z1, z2, z3, z4⟩, ⟨zb, zp⟩, zf0, zf1, zf2, zf3, zf4⟩ := HI.out.all))))
      ((go_upto_region 7 with (fail); rcases hleft with ⟨rfl, hS⟩ | ⟨c1b, hS⟩; (· have HS := Lib.hid hS; clear hS; go_upto_region 9 with (fail); ((have HIx := Aside0.mk (HI.out.put (l2 := b) (d2 := sd) (c2 := sc) (h2 := (sh + 1)) (r2 := 0) 0 b rfl); clear z0 z1 z2 z3 z4 zb zp zf0 zf1 zf2 zf3 zf4 HI; generalize World.setCell wv _ _ = wv at HIx ⊢; have HI := HIx; clear HIx; ((obtain ⟨⟨z0, z1, z2, z3, z4⟩, ⟨zb, zp⟩, zf0, zf1, zf2, zf3, zf4⟩ := HI.out.all)))); go_upto_region 10 with (fail); ((have HIx := Aside0.mk (HI.out.put (l2 := b) (d2 := (sd + p)) (c2 := sc) (h2 := (sh + 1)) (r2 := 0) 1 (sd + p) rfl); clear z0 z1 z2 z3 z4 zb zp zf0 zf1 zf2 zf3 zf4 HI; generalize World.setCell wv _ _ = wv at HIx ⊢; have HI := HIx; clear HIx; ((obtain ⟨⟨z0, z1, z2, z3, z4⟩, ⟨zb, zp⟩, zf0, zf1, zf2, zf3, zf4⟩ := HI.out.all)))); ((have HBK := Lib.hid (HI.out.back b (sd + p) sc (sh + 1) 0); have zn := HI.out.nil; clear HI; go_wp2_with fail; (try simp only [Exit.inBlock, Exit.then]); refine bodyPost_ret (results_cell_row rfl _ _ (q + 1 + 1) 167 #[.int .i64 b, .int .i64 (sd + p), .int .i64 sc, .int .i64 (sh + 1), .int .i64 0] (0, 0) _ rfl HBK.out.1 Try.underlying167 rfl (by kernel_rfl)) rfl ?_; exact ⟨by rw [HS.out], by rw [← HQ.out]; exact HBK.out.2⟩))); (· have HS := Lib.hid hS; clear hS; go_upto_region 10 with (fail); ((have HBK := Lib.hid (HI.out.back l1 sd sc (sh + 1) 0); have zn := HI.out.nil; clear HI; go_wp2_with fail; (try simp only [Exit.inBlock, Exit.then]); refine bodyPost_ret (results_cell_row rfl _ _ (q + 1 + 1) 167 #[.int .i64 l1, .int .i64 sd, .int .i64 sc, .int .i64 (sh + 1), .int .i64 0] (0, 0) _ rfl HBK.out.1 Try.underlying167 rfl (by kernel_rfl)) rfl ?_; exact ⟨by rw [HS.out], by rw [← HQ.out]; exact HBK.out.2⟩)))))


def x5 (xs : List (S167)) (i : Nat) : S167 := rd_T167 xs (i : Int)
def ok5 (xs : List (S167)) (limit : Int) (i : Nat) : Bool := decide ((x5 xs i).f3 < (x5 xs i).f2) && decide ((x5 xs i).f1 < limit)
def dl5 (xs : List (S167)) (i : Nat) : Int := (x5 xs i).f1
set_option maxHeartbeats 4000000 in
set_option maxRecDepth 100000 in
theorem l5Pick_calls (A : Option Addr) (c : Nat) (xs : List (S167)) (limit : Int) (w : World) (hr : Kd.C k167 w A xs.length xs) (hl : xs.length ≤ 2) :
    Calls Try.prog 141 #[.slice A xs.length c, .int .i64 limit] w fun e w' => e = .returned (.int .i64 (bestN (ok5 xs limit) (dl5 xs) xs.length)) ∧ Below w.heap.size w w' := by
  have hu := Try.underlying167
  have HR := Lib.hid hr
  have HB := Aside0.mk (Below.refl w.heap.size w)
  clear hr
  go_enter Try.func141, Try.ntmps141
  go_wp2_with fail
  go_loopw [5, 6] (fun v5 v6 w' => ∃ j : Nat, v6 = .int .i64 j ∧ j ≤ xs.length ∧ v5 = .int .i64 (bestN (ok5 xs limit) (dl5 xs) j) ∧ Aside0 (Below w.heap.size w w')) (fun _ v6 _ => xs.length - (intOf v6).toNat)
  case atStart => exact ⟨0, rfl, Nat.zero_le _, rfl, HB⟩
  case round =>
    clear HB
    obtain ⟨j, rfl, hj, rfl, HB⟩ := hrel
    by_cases hlt : j < xs.length
    · have b1 : decide ((j : Int) < (xs.length : Int)) = true := decide_eq_true (by omega)
      have hrw := Kd.C_below HR.out HB.out
      obtain ⟨ad, e0, hx0, hx1, hx2, hx3, hx4⟩ := at_T167 hrw (j : Int) (by omega) (by omega)
      cases e0
      have hst : bestN (ok5 xs limit) (dl5 xs) (j + 1) = if (decide ((x5 xs j).f3 < (x5 xs j).f2) && decide ((x5 xs j).f1 < limit)) && (decide (bestN (ok5 xs limit) (dl5 xs) j < 0) || decide ((x5 xs j).f1 < (rd_T167 xs ((bestN (ok5 xs limit) (dl5 xs) j).toNat : Nat)).f1)) then (j : Int) else bestN (ok5 xs limit) (dl5 xs) j := rfl
      have hk := bestN_in (ok5 xs limit) (dl5 xs) j
      have hrd : rd_T167 xs (j : Int) = x5 xs j := rfl
      rw [hrd] at hx0 hx1 hx2 hx3 hx4
      obtain ⟨x, hx⟩ : ∃ x, x = x5 xs j := ⟨_, rfl⟩
      rw [← hx] at hx0 hx1 hx2 hx3 hx4 hst
      obtain ⟨k, hk0⟩ : ∃ k, k = bestN (ok5 xs limit) (dl5 xs) j := ⟨_, rfl⟩
      rw [← hk0] at hst hk ⊢
      simp only [Int.toNat_natCast] at hx0 hx1 hx2 hx3 hx4
      obtain ⟨xl, xd, xc, xh, xr⟩ := x
      simp only at hx0 hx1 hx2 hx3 hx4 hst
      have p0 : 0 ≤ (j : Int) := by omega
      have p1 : (j : Int) < (xs.length : Int) := by omega
      have hB3 : Below wr.heap.size wr (wr.alloc (.cells #[.int .i64 xl, .int .i64 xd, .int .i64 xc, .int .i64 xh, .int .i64 xr] 167)) := below_alloc (Below.refl _ _) _
      have BS := blk_new wr (.cells #[.int .i64 xl, .int .i64 xd, .int .i64 xc, .int .i64 xh, .int .i64 xr] 167)
      have HBS := Lib.hid BS
      have HB3 := Aside0.mk (below_step HB.out hB3)
      clear hx hk0 hrd BS hB3 hrw
      go_upto_region 6 with (fail)
      clear hx0 hx1 hx2 hx3 hx4
      generalize World.alloc wr _ = w3 at HBS HB3 ⊢
      generalize wr.heap.size = bx at HBS ⊢
      have z1 : w3.cell? ⟨bx, 1, none⟩ = some (.int .i64 xd) := (blk_cell HBS.out 1).trans rfl
      have z2 : w3.cell? ⟨bx, 2, none⟩ = some (.int .i64 xc) := (blk_cell HBS.out 2).trans rfl
      have z3 : w3.cell? ⟨bx, 3, none⟩ = some (.int .i64 xh) := (blk_cell HBS.out 3).trans rfl
      by_cases c1 : xh < xc
      · have c1b : decide (xh < xc) = true := decide_eq_true c1
        rw [c1b] at hst
        by_cases c2 : xd < limit
        · have c2b : decide (xd < limit) = true := decide_eq_true c2
          rw [c2b, Bool.and_self, Bool.true_and] at hst
          by_cases h0 : k < 0
          · have h0b : decide (k < 0) = true := decide_eq_true h0
            have HC : Hid (bestN (ok5 xs limit) (dl5 xs) (j + 1) = (j : Int)) := Lib.hid (by rw [hst, h0b]; rfl)
            clear hst h0 c1 c2 hk
            ((go_wp2_with fail; go_quiet (fail); go_wp2_with fail; go_roundw; (case rel => exact ⟨j + 1, by go_num, by omega, by rw [HC.out], ⟨pw_below_drewN HB3.out _⟩⟩); (case measure => simp [intOf]; omega)))
          · have h0b : decide (k < 0) = false := decide_eq_false h0
            rw [h0b, Bool.false_or] at hst
            obtain ⟨kk, rfl⟩ : ∃ n : Nat, k = (n : Int) := ⟨k.toNat, by omega⟩
            rw [Int.toNat_natCast] at hst
            obtain ⟨ad2, e2, _, hy1, _, _, _⟩ := at_T167 (Kd.C_below HR.out HB3.out) (kk : Int) (by omega) (by omega)
            cases e2
            simp only [Int.toNat_natCast] at hy1
            obtain ⟨dk, hdk⟩ : ∃ dk, dk = (rd_T167 xs (kk : Int)).f1 := ⟨_, rfl⟩
            rw [← hdk] at hy1 hst
            have p2 : 0 ≤ (kk : Int) := by omega
            have p3 : (kk : Int) < (xs.length : Int) := by omega
            by_cases hd : xd < dk
            · have hdb : decide (xd < dk) = true := decide_eq_true hd
              have HC : Hid (bestN (ok5 xs limit) (dl5 xs) (j + 1) = (j : Int)) := Lib.hid (by rw [hst, hdb]; rfl)
              clear hst h0 c1 c2 hk hd hdk
              ((go_wp2_with fail; go_quiet (fail); go_wp2_with fail; go_roundw; (case rel => exact ⟨j + 1, by go_num, by omega, by rw [HC.out], ⟨pw_below_drewN HB3.out _⟩⟩); (case measure => simp [intOf]; omega)))
            · have hdb : decide (xd < dk) = false := decide_eq_false hd
              have HC : Hid (bestN (ok5 xs limit) (dl5 xs) (j + 1) = (kk : Int)) := Lib.hid (by rw [hst, hdb]; rfl)
              clear hst h0 c1 c2 hk hd hdk
              ((go_wp2_with fail; go_quiet (fail); go_wp2_with fail; go_roundw; (case rel => exact ⟨j + 1, by go_num, by omega, by rw [HC.out], ⟨pw_below_drewN HB3.out _⟩⟩); (case measure => simp [intOf]; omega)))
        · have c2b : decide (xd < limit) = false := decide_eq_false c2
          have HC : Hid (bestN (ok5 xs limit) (dl5 xs) (j + 1) = k) := Lib.hid (by rw [hst, c2b]; rfl)
          clear hst c1 c2 hk
          ((go_wp2_with fail; go_quiet (fail); go_wp2_with fail; go_roundw; (case rel => exact ⟨j + 1, by go_num, by omega, by rw [HC.out], ⟨pw_below_drewN HB3.out _⟩⟩); (case measure => simp [intOf]; omega)))
      · have c1b : decide (xh < xc) = false := decide_eq_false c1
        have HC : Hid (bestN (ok5 xs limit) (dl5 xs) (j + 1) = k) := Lib.hid (by rw [hst, c1b]; rfl)
        clear hst c1 hk
        ((go_wp2_with fail; go_quiet (fail); go_wp2_with fail; go_roundw; (case rel => exact ⟨j + 1, by go_num, by omega, by rw [HC.out], ⟨pw_below_drewN HB3.out _⟩⟩); (case measure => simp [intOf]; omega)))
    · have b1 : decide ((j : Int) < (xs.length : Int)) = false := decide_eq_false (by omega)
      obtain rfl : j = xs.length := by omega
      go_wp2
      go_ret
      exact ⟨rfl, HB.out⟩


/-- Rows of numbers, no two of one block. -/
structure Fam (W : World) (base : Nat) (vs : List Value) (xss : List (List Int)) : Prop where
  len : vs.length = xss.length
  row : ∀ i, i < vs.length → Kd.R (Kd.int .i64) 3 W base (fun _ => True) (vs.getD i nilV) (xss.getD i [])
  apart : ∀ i j k, i < vs.length → j < vs.length → i ≠ j → (vs.getD i nilV).ownBlock = some k → (vs.getD j nilV).ownBlock ≠ some k
def okF (vs : List Value) (k : Nat) : Prop := ∀ j, j < vs.length → some k ≠ (vs.getD j nilV).ownBlock
section
variable {w0 W W2 : World} {base go g6 : Nat} {bs : Array Value} {vs : List Value} {xss : List (List Int)} {v11 vS : Value} {xs : List (S167)} {sd : List (List Int)}
theorem Fam.step (h : Fam W base vs xss) (hm : ∀ i k, i < vs.length → (vs.getD i nilV).ownBlock = some k → k < W.heap.size → W2.heap[k]? = W.heap[k]?) : Fam W2 base vs xss :=
  ⟨h.len, fun i hi => row_stepG (h.row i hi) (fun k e hlt => hm i k hi e hlt), h.apart⟩
theorem fam_ap {v' : Value} {i : Nat} {N : Nat} (h : Fam W base vs xss) (hi : i < vs.length) (hN : W.heap.size ≤ N) (hat : v'.ownBlock = (vs.getD i nilV).ownBlock ∨ (∃ b, v'.ownBlock = some b ∧ N ≤ b) ∨ v'.ownBlock = none) : ∀ j k l, j < (vs.set i v').length → k < (vs.set i v').length → j ≠ k → ((vs.set i v').getD j nilV).ownBlock = some l → ((vs.set i v').getD k nilV).ownBlock ≠ some l := by
  intro j k l hj hk hjk e
  rw [List.length_set] at hj hk
  rw [getD_setV] at e ⊢
  have hlt : ∀ a, a < vs.length → ∀ q, (vs.getD a nilV).ownBlock = some q → q < W.heap.size := fun a ha q he => Kd.R_lt (h.row a ha) q he
  by_cases e1 : i = j
  · subst e1
    rw [if_pos ⟨rfl, hi⟩] at e
    rw [if_neg (by omega)]
    rcases hat with hat | ⟨b, hb, hle⟩ | hn
    · rw [hat] at e
      exact h.apart _ _ _ hi hk hjk e
    · rw [hb] at e
      injection e with e
      intro e2
      have := hlt k hk _ e2
      omega
    · rw [hn] at e; cases e
  · rw [if_neg (by omega)] at e
    by_cases e2 : i = k
    · subst e2
      rw [if_pos ⟨rfl, hi⟩]
      rcases hat with hat | ⟨b, hb, hle⟩ | hn
      · rw [hat]; exact h.apart _ _ _ hj hi hjk e
      · rw [hb]
        intro e3
        injection e3 with e3
        have := hlt j hj _ e
        omega
      · rw [hn]; exact fun h => by cases h
    · rw [if_neg (by omega)]
      exact h.apart _ _ _ hj hk hjk e
theorem fam_set {v' : Value} {ys : List Int} {i : Nat} (h : Fam W base vs xss) (hi : i < vs.length) (hv : Kd.R (Kd.int .i64) 3 W2 base (fun _ => True) v' ys) (hm : ∀ j k, j < vs.length → j ≠ i → (vs.getD j nilV).ownBlock = some k → k < W.heap.size → W2.heap[k]? = W.heap[k]?) (hap : ∀ j k l, j < (vs.set i v').length → k < (vs.set i v').length → j ≠ k → ((vs.set i v').getD j nilV).ownBlock = some l → ((vs.set i v').getD k nilV).ownBlock ≠ some l) : Fam W2 base (vs.set i v') (xss.set i ys) := by
  refine ⟨by rw [List.length_set, List.length_set, h.len], fun j hj => ?_, hap⟩
  rw [List.length_set] at hj
  rw [getD_setV, getD_setR]
  by_cases e : i = j
  · subst e; rw [if_pos ⟨rfl, hi⟩, if_pos ⟨rfl, by rw [← h.len]; exact hi⟩]; exact hv
  · rw [if_neg (by omega), if_neg (by omega)]
    exact row_stepG (h.row j hj) (fun k e2 hlt => hm j k hj (Ne.symm e) e2 hlt)
/-- What the reference's run holds in memory. -/
structure L5M (w0 W : World) (go : Nat) (bs : Array Value) (g6 : Nat) (vs : List Value) (xss : List (List Int)) (v11 : Value) (xs : List (S167)) (vS : Value) (sd : List (List Int)) : Prop where
  bo : W.heap[go]? = some (.cells bs 35 (0, 0))
  b6 : W.heap[g6]? = some (.cells #[.slice none 0 0, .slice none 0 0, .slice none 0 0, .slice none 0 0] 35 (0, 0))
  n6 : g6 ≠ go
  bg : w0.heap.size ≤ go ∧ w0.heap.size ≤ g6
  fam : Fam W w0.heap.size vs xss
  sts : Kd.R k167 167 W w0.heap.size (fun _ => True) v11 xs
  sd : Kd.S (Kd.slice 3 (Kd.int .i64)) 30 W w0.heap.size (okF vs) vS sd
  bw : Below w0.heap.size w0 W
theorem L5M.below (h : L5M w0 W go bs g6 vs xss v11 xs vS sd) (hb : Below W.heap.size W W2) : L5M w0 W2 go bs g6 vs xss v11 xs vS sd where
  bo := blk_below h.bo hb
  b6 := blk_below h.b6 hb
  n6 := h.n6
  bg := h.bg
  fam := h.fam.step (fun _ k _ _ hlt => hb.block k hlt)
  sts := Kd.R_below h.sts hb
  sd := Kd.S_below h.sd hb
  bw := below_then h.bw h.bw.size hb
theorem L5M.drew (h : L5M w0 W go bs g6 vs xss v11 xs vS sd) : L5M w0 W.drew go bs g6 vs xss v11 xs vS sd := h.below (below_drew (Below.refl _ _))
theorem L5M.drewN (h : L5M w0 W go bs g6 vs xss v11 xs vS sd) (n : Nat) : L5M w0 (W.drewN n) go bs g6 vs xss v11 xs vS sd := h.below (pw_below_drewN (Below.refl _ _) n)
/-- A slice is laid into the out box. -/
theorem L5M.box (h : L5M w0 W go bs g6 vs xss v11 xs vS sd) (j : Nat) (u : Value) : L5M w0 (W.setCell ⟨go, j, none⟩ u) go (bs.setIfInBounds j u) g6 vs xss v11 xs vS sd where
  bo := blk_set h.bo j u
  b6 := blk_far h.b6 h.n6 _
  n6 := h.n6
  bg := h.bg
  fam := h.fam.step (fun i k hi e _ => Below.heap_setCell _ _ _ k (fun e2 => Kd.R_ne (h.fam.row i hi) h.bo (by decide) (by rw [e, e2])))
  sts := Kd.R_mono (Kd.R_step (Kd.R_types h.sts h.bo (by decide)) (fun k hk _ => Below.heap_setCell _ _ _ k hk.2)) (fun _ _ => trivial)
  sd := Kd.S_set h.sd h.bo (by decide) j u
  bw := h.bw.setCell h.bg.1 _
/-- A row has grown. -/
theorem L5M.app {i : Nat} {v' : Value} {ys : List Int} (h : L5M w0 W go bs g6 vs xss v11 xs vS sd) (hi : i < vs.length) (hv : Kd.R (Kd.int .i64) 3 W2 w0.heap.size (fun _ => True) v' ys) (hb : Below w0.heap.size w0 W2) (hg : W.grownBy W2 (vs.getD i nilV).ownBlock) (hat : v'.ownBlock = (vs.getD i nilV).ownBlock ∨ ∃ b, v'.ownBlock = some b ∧ W.heap.size ≤ b) :
    L5M w0 W2 go bs g6 (vs.set i v') (xss.set i ys) v11 xs vS sd where
  bo := blk_grown h.bo hg (Kd.R_ne (h.fam.row i hi) h.bo (by decide))
  b6 := blk_grown h.b6 hg (Kd.R_ne (h.fam.row i hi) h.b6 (by decide))
  n6 := h.n6
  bg := h.bg
  fam := fam_set h.fam hi hv (fun j k hj hji e hlt => hg.block k hlt (fun e2 => h.fam.apart j i k hj hi hji e e2.symm)) (fam_ap h.fam hi (Nat.le_refl _) (hat.elim .inl (fun h => .inr (.inl h))))
  sts := Kd.R_over' h.sts (Kd.R_typed (h.fam.row i hi)) (by decide) hg
  sd := by
    have h1 : Kd.S (Kd.slice 3 (Kd.int .i64)) 30 W w0.heap.size (fun k => (∀ j, j < vs.length → j ≠ i → some k ≠ (vs.getD j nilV).ownBlock) ∧ some k ≠ (vs.getD i nilV).ownBlock) vS sd := Kd.S_mono h.sd (fun k hk => ⟨fun j hj _ => hk j hj, hk i hi⟩)
    refine Kd.S_mono (Kd.S_after h1 hg hat) (fun k hk j hj => ?_)
    rw [List.length_set] at hj
    rw [getD_setV]
    by_cases e : i = j
    · subst e; rw [if_pos ⟨rfl, hi⟩]; exact hk.2
    · rw [if_neg (by omega)]; exact hk.1 j hj (Ne.symm e)
  bw := hb
/-- A fresh row comes in. -/
theorem L5M.fresh {i : Nat} {v' : Value} {ys : List Int} (h : L5M w0 W go bs g6 vs xss v11 xs vS sd) (hi : i < vs.length) (hv : Kd.R (Kd.int .i64) 3 W2 W.heap.size (fun _ => True) v' ys) (hb : Below W.heap.size W W2) (hn : vs.getD i nilV = nilV) : L5M w0 W2 go bs g6 (vs.set i v') (xss.set i ys) v11 xs vS sd := by
  have h2 := h.below hb
  have hbase := Kd.R_base hv
  have hat : v'.ownBlock = (vs.getD i nilV).ownBlock ∨ (∃ b, v'.ownBlock = some b ∧ W.heap.size ≤ b) ∨ v'.ownBlock = none := by
    cases e : v'.ownBlock with
    | none => exact .inr (.inr rfl)
    | some b => exact .inr (.inl ⟨b, rfl, hbase b e⟩)
  refine ⟨h2.bo, h2.b6, h2.n6, h2.bg, fam_set h.fam hi (Kd.R_lower hv h.bw.size) (fun j k hj _ e hlt => hb.block k hlt) (fam_ap h.fam hi (Nat.le_refl _) hat), h2.sts, ?_, h2.bw⟩
  refine Kd.S_mono (Kd.S_elder' h.sd hbase hb) (fun k hk j hj => ?_)
  rw [List.length_set] at hj
  rw [getD_setV]
  by_cases e : i = j
  · subst e; rw [if_pos ⟨rfl, hi⟩]; exact hk.2
  · rw [if_neg (by omega)]; exact hk.1 j hj
/-- A row's number is written. -/
theorem L5M.put {i g n c : Nat} (h : L5M w0 W go bs g6 vs xss v11 xs vS sd) (hi : i < vs.length) (hu : vs.getD i nilV = .slice (some ⟨g, 0, none⟩) n c) (t x : Int) : L5M w0 (W.setCell ⟨g, t.toNat, none⟩ (.int .i64 x)) go bs g6 vs (xss.set i ((xss.getD i []).set t.toNat x)) v11 xs vS sd := by
  have hr := h.fam.row i hi
  have hob : (vs.getD i nilV).ownBlock = some g := by rw [hu]; rfl
  rw [hu] at hr
  obtain ⟨p1, p2⟩ := Kd.R_putg hr t x
  have hg : W.grownBy (W.setCell ⟨g, t.toNat, none⟩ (.int .i64 x)) (vs.getD i nilV).ownBlock := by rw [hob]; exact p2
  have h1 := h.app hi (v' := vs.getD i nilV) (ys := (xss.getD i []).set t.toNat x) (by rw [hu]; exact p1) (h.bw.setCell (Kd.R_base hr g rfl) _) hg (.inl rfl)
  have e : vs.set i (vs.getD i nilV) = vs := by
    apply List.ext_getElem?
    intro j
    rw [List.getElem?_set]
    split
    · rename_i e
      subst e
      rw [List.getD_eq_getElem?_getD, List.getElem?_eq_getElem hi]
      rfl
    · rfl
  rw [e] at h1
  exact h1
/-- The states have grown. -/
theorem L5M.sapp {v' : Value} {ys : List (S167)} (h : L5M w0 W go bs g6 vs xss v11 xs vS sd) (hv : Kd.R k167 167 W2 w0.heap.size (fun _ => True) v' ys) (hb : Below w0.heap.size w0 W2) (hg : W.grownBy W2 v11.ownBlock) : L5M w0 W2 go bs g6 vs xss v' ys vS sd where
  bo := blk_grown h.bo hg (Kd.R_ne h.sts h.bo (by decide))
  b6 := blk_grown h.b6 hg (Kd.R_ne h.sts h.b6 (by decide))
  n6 := h.n6
  bg := h.bg
  fam := ⟨h.fam.len, fun i hi => Kd.R_over' (h.fam.row i hi) (Kd.R_typed h.sts) (by decide) hg, h.fam.apart⟩
  sts := hv
  sd := Kd.S_over' h.sd (Kd.R_typed h.sts) (by decide) hg
  bw := hb
theorem setCells5 (W : World) (g o : Nat) (a b c d e : Value) : W.setCells g o [a, b, c, d, e] = ((((W.setCell ⟨g, o, none⟩ a).setCell ⟨g, o + 1, none⟩ b).setCell ⟨g, o + 2, none⟩ c).setCell ⟨g, o + 3, none⟩ d).setCell ⟨g, o + 4, none⟩ e := by rfl
/-- A state is written. -/
theorem L5M.sput {g n c k : Nat} (h : L5M w0 W go bs g6 vs xss (.slice (some ⟨g, 0, none⟩) n c) xs vS sd) (hk : k < n) (y : S167) : L5M w0 (((((W.setCell ⟨g, k * 5, none⟩ (.int .i64 y.f0)).setCell ⟨g, k * 5 + 1, none⟩ (.int .i64 y.f1)).setCell ⟨g, k * 5 + 2, none⟩ (.int .i64 y.f2)).setCell ⟨g, k * 5 + 3, none⟩ (.int .i64 y.f3)).setCell ⟨g, k * 5 + 4, none⟩ (.int .i64 y.f4)) go bs g6 vs xss (.slice (some ⟨g, 0, none⟩) n c) (xs.set k y) vS sd := by
  obtain ⟨ce, hcl, hM, hcc, _⟩ := Kd.R_elem h.sts z167 (k : Int) (by omega) (by omega)
  have hs := Kd.R_seg (okp := fun _ => False) h.sts (k : Int) (by omega) (by omega) (seg := [.int .i64 y.f0, .int .i64 y.f1, .int .i64 y.f2, .int .i64 y.f3, .int .i64 y.f4]) (j := 0) hcl hcc (show 5 ≤ 5 from by decide) (x' := y) (by
    have e : ce.drop 5 = [] := List.drop_eq_nil_of_le (by rw [hcl]; exact Nat.le_refl 5)
    show k167.M W w0.heap.size (fun _ => False) y (([] : List Value) ++ [.int .i64 y.f0, .int .i64 y.f1, .int .i64 y.f2, .int .i64 y.f3, .int .i64 y.f4] ++ ce.drop 5)
    rw [e, List.append_nil]
    exact k167_mkM _ _ _ y) (fun _ hk => hk.elim)
  rw [setCells5] at hs
  simp only [Int.toNat_natCast, Nat.add_zero] at hs
  have e : k * k167.sz = k * 5 := rfl
  rw [e] at hs
  have hgb := Kd.R_base h.sts g rfl
  exact h.sapp hs.1 (((((h.bw.setCell hgb _).setCell hgb _).setCell hgb _).setCell hgb _).setCell hgb _) hs.2
end

end Go.Proofs.Ytonifhkplniblaa.Print

namespace Go.Proofs.Ytonifhkplniblaa.Print
open Go.RowKit Go.Proofs.YtonifhkplniblaaW.PrintWords Go.Proofs.YtonifhkplniblaaW.PrintLast Go.Proofs.YtonifhkplniblaaW.PrintMore
attribute [local go_sem] max2_int min2_int max_two min_two max_three min_three max_four min_four
set_option linter.unusedVariables false
set_option linter.unusedSimpArgs false
open Go.Proofs.Ytonifhkplniblaa.Walk
section
variable {w0 W W2 : World} {base go g6 : Nat} {bs : Array Value} {vs : List Value} {xss : List (List Int)} {v11 vS : Value} {xs : List (S167)} {sd : List (List Int)}
theorem L5M.apS {i k : Nat} (h : L5M w0 W go bs g6 vs xss v11 xs vS sd) (hi : i < vs.length) (e : (vs.getD i nilV).ownBlock = some k) : some k ≠ vS.ownBlock := fun e2 => by
  obtain ⟨cells, hc⟩ := Kd.S_typed h.sd k e2.symm
  exact Kd.R_ne (h.fam.row i hi) hc (by decide) e.symm
theorem okF_set {i : Nat} {k : Nat} (hi : i < vs.length) : okF (vs.set i nilV) k ↔ ∀ j, j < vs.length → j ≠ i → some k ≠ (vs.getD j nilV).ownBlock := by
  constructor
  · intro h j hj hji
    have := h j (by rw [List.length_set]; exact hj)
    rwa [getD_setV, if_neg (by omega)] at this
  · intro h j hj
    rw [List.length_set] at hj
    rw [getD_setV]
    by_cases e : i = j
    · rw [if_pos ⟨e, hj⟩]; exact fun h => by cases h
    · rw [if_neg (by omega)]; exact h j hj (Ne.symm e)
theorem L5M.rappP {i : Nat} (h : L5M w0 W go bs g6 vs xss v11 xs vS sd) (hi : i < vs.length) : (Kd.slice 3 (Kd.int .i64)).M W w0.heap.size (fun k => some k = (vs.getD i nilV).ownBlock) (xss.getD i []) [vs.getD i nilV] := Kd.M_row (Kd.R_tight rfl (h.fam.row i hi))
theorem L5M.rappK {i : Nat} (h : L5M w0 W go bs g6 vs xss v11 xs vS sd) (hi : i < vs.length) : ∀ k, some k = (vs.getD i nilV).ownBlock → okF (vs.set i nilV) k ∧ some k ≠ vS.ownBlock := fun k hk =>
  ⟨(okF_set hi).2 (fun j hj hji e => h.fam.apart i j k hi hj (Ne.symm hji) hk.symm e.symm), h.apS hi hk.symm⟩
theorem L5M.rappF {i : Nat} (h : L5M w0 W go bs g6 vs xss v11 xs vS sd) (hi : i < vs.length) : ∀ k, W.heap.size ≤ k → okF (vs.set i nilV) k := fun k hk =>
  (okF_set hi).2 (fun j hj _ e => by have := Kd.R_lt (h.fam.row j hj) k e.symm; omega)
theorem L5M.rappO {i : Nat} (h : L5M w0 W go bs g6 vs xss v11 xs vS sd) (hi : i < vs.length) : Kd.S (Kd.slice 3 (Kd.int .i64)) 30 W w0.heap.size (fun k => okF (vs.set i nilV) k ∧ ¬ (some k = (vs.getD i nilV).ownBlock)) vS sd :=
  Kd.S_mono h.sd (fun k hk => ⟨(okF_set hi).2 (fun j hj _ => hk j hj), hk i hi⟩)
/-- A row has gone to the served rows. -/
theorem L5M.rapp {i : Nat} {v' : Value} {ys : List (List Int)} (h : L5M w0 W go bs g6 vs xss v11 xs vS sd) (hi : i < vs.length) (ho : Kd.S (Kd.slice 3 (Kd.int .i64)) 30 W2 w0.heap.size (okF (vs.set i nilV)) v' ys) (hb : Below w0.heap.size w0 W2) (hg : W.grownBy W2 vS.ownBlock) :
    L5M w0 W2 go bs g6 (vs.set i nilV) (xss.set i []) v11 xs v' ys where
  bo := blk_grown h.bo hg (Kd.S_ne h.sd h.bo (by decide))
  b6 := blk_grown h.b6 hg (Kd.S_ne h.sd h.b6 (by decide))
  n6 := h.n6
  bg := h.bg
  fam := fam_set h.fam hi (Kd.R_nil _ _ _ _ _) (fun j k hj hji e hlt => hg.block k hlt (h.apS hj e)) (fam_ap h.fam hi (Nat.le_refl _) (.inr (.inr rfl)))
  sts := Kd.R_over' h.sts (Kd.S_typed h.sd) (by decide) hg
  sd := ho
  bw := hb
/-- A served row: where it lies, and what a store into it does. -/
theorem L5M.rowAt {g n c i : Nat} (h : L5M w0 W go bs g6 vs xss v11 xs (.slice (some ⟨g, 0, none⟩) n c) sd) (hi : i < n) (hp : 0 < (sd.getD i []).length) : ∃ q d : Nat, W.cell? ⟨g, i, none⟩ = some (.slice (some ⟨q, 0, none⟩) (sd.getD i []).length d) ∧ q ≠ go ∧ q ≠ g ∧
    ∀ t : Int, 0 ≤ t → t < (sd.getD i []).length → W.frozen? ⟨q, t.toNat, none⟩ = false ∧ (∃ y : Int, W.cell? ⟨q, t.toNat, none⟩ = some (.int .i64 y)) ∧
      ∀ x : Int, L5M w0 (W.setCell ⟨q, t.toNat, none⟩ (.int .i64 x)) go bs g6 vs xss v11 xs (.slice (some ⟨g, 0, none⟩) n c) (sd.set i ((sd.getD i []).set t.toNat x)) := by
  obtain ⟨oki, cc, hcl, hM, hcc, hoki, hclose⟩ := Kd.S_borrow h.sd ([] : List Int) (i : Int) (by omega) (by omega)
  obtain ⟨v, hcv, hR⟩ := hM
  simp only [Int.toNat_natCast] at hR hcc hclose
  subst hcv
  obtain ⟨q, d, e, _⟩ := Kd.R_form hR hp
  subst e
  have hokq := hR.1 q rfl
  have hq2 := hoki q hokq
  have hqgo : q ≠ go := fun e => Kd.R_ne hR h.bo (by decide) (by rw [← e]; rfl)
  have hqg6 : q ≠ g6 := fun e => Kd.R_ne hR h.b6 (by decide) (by rw [← e]; rfl)
  have hqb := Kd.R_base hR q rfl
  have hcell := hcc 0 _ rfl
  have e1 : (⟨g, 0, none⟩ : Addr).add (i * (Kd.slice 3 (Kd.int .i64)).sz + 0) = ⟨g, i, none⟩ := by
    rw [add_plain]
    show (⟨g, i * 1 + 0, none⟩ : Addr) = _
    simp
  rw [e1] at hcell
  refine ⟨q, d, hcell, hqgo, fun e => hq2.2 (by rw [e]; rfl), fun t h0 h1 => ?_⟩
  obtain ⟨y0, y1⟩ := Kd.R_celln 0 hR t h0 (by omega)
  refine ⟨y1, ⟨_, y0⟩, fun x => ?_⟩
  obtain ⟨p1, p2⟩ := Kd.R_putg hR t x
  refine ⟨blk_far h.bo (Ne.symm hqgo) _, blk_far h.b6 (Ne.symm hqg6) _, h.n6, h.bg, h.fam.step (fun j k hj e _ => Below.heap_setCell _ _ _ k (fun e2 => hq2.1 j hj (by rw [e, e2]))), ?_, hclose p2 (fun k e => by injection e with e; rw [← e]; exact hokq) (Kd.M_row p1), h.bw.setCell hqb _⟩
  exact Kd.R_over' (v := .slice (some ⟨q, 0, none⟩) (sd.getD i []).length d) h.sts (Kd.R_typed hR) (by decide) p2
end

end Go.Proofs.Ytonifhkplniblaa.Print

namespace Go.Proofs.Ytonifhkplniblaa.Print
open Go.RowKit Go.Proofs.YtonifhkplniblaaW.PrintWords Go.Proofs.YtonifhkplniblaaW.PrintMore Go.Proofs.Ytonifhkplniblaa.Evs Go.Proofs.Ytonifhkplniblaa.Opens
set_option linter.unusedSimpArgs false
set_option linter.unusedVariables false
theorem rd_jb (l : List S67) (j : Nat) : rd_T67 l (j : Int) = jb l j := rfl
theorem rd_tk' (l : List Task) (i : Int) : rd_T62 l i = tk l i.toNat := rfl
theorem nextL_says {s : List Task} {l : List S67} (hok : okSet s = true) {n : Nat} (hin : ∀ i, i < n → (0 ≤ (jb l i).f0 ∧ (jb l i).f0 < s.length) ∧ 0 ≤ (jb l i).f1 ∧ (jb l i).f1 ≤ 119) :
    ∀ i, i ≤ n → ∀ t : Int, 0 ≤ t → t < s.length → rd (nextL s l i) t = match lastT l i t with | none => 0 | some b => b + (rd_T62 s t).f2
  | 0, _, t, h0, h1 => by
    show (List.replicate s.length (0 : Int)).getD t.toNat 0 = 0
    simp [List.getD_eq_getElem?_getD, List.getElem?_replicate]
    split <;> rfl
  | i + 1, hi, t, h0, h1 => by
    obtain ⟨⟨a1, a2⟩, a3, a4⟩ := hin i (by omega)
    have ih := nextL_says hok hin i (by omega) t h0 h1
    have hlen := nextL_len s l i
    have hgj : l.getD i z67 = jb l i := rfl
    unfold lastT
    rw [hgj]
    show ((nextL s l i).set (jb l i).f0.toNat _).getD t.toNat 0 = _
    rw [List.getD_eq_getElem?_getD, List.getElem?_set]
    by_cases e : (jb l i).f0 = t
    · rw [if_pos (by omega), if_pos (by omega), if_pos e]
      simp only [Option.getD_some]
      rw [e, rd_tk']
      have hv := okSet_tk hok (j := t.toNat) (by omega)
      exact wrap_id (by omega) (by omega)
    · rw [if_neg (by omega), if_neg e]
      rw [← List.getD_eq_getElem?_getD]
      exact ih
theorem spec_JobsLegal_ev0 (s : List Task) (l : List S67) (hs : s.length ≤ 1048576) (hl : l.length ≤ 1048576) :
    Tl (fun k => spec_JobsLegal.f k s l) (okSet s && (decide (l.length ≤ 60) && (List.range l.length).all (specAt s l))) := by
  unfold spec_JobsLegal.f
  refine Tl.bind (spec_SetValid_ev s hs) ?_
  cases hok : okSet s with
  | false => exact Tl.iteF (by simp) (Tl.ret _)
  | true =>
    have hs5 := okSet_len hok
    refine Tl.iteT rfl ?_
    by_cases h : l.length ≤ 60
    · rw [decide_eq_true h]
      exact Tl.iteT h (Tl.iteT (by omega) (Tl.ret _))
    · rw [decide_eq_false h]
      exact Tl.iteF h (Tl.ret _)
theorem legal_eq {s : List Task} (hok : okSet s = true) (l : List S67) : legalB s l = (decide (l.length ≤ 60) && (List.range l.length).all (specAt s l)) := by
  have hgj : ∀ i, l.getD i z67 = jb l i := fun _ => rfl
  have hdl : l.all (dlOk s) = (List.range l.length).all (fun i => dlOk s (jb l i)) := by
    rw [Bool.eq_iff_iff, List.all_eq_true, List.all_eq_true]
    constructor
    · intro h i hi
      have hi := List.mem_range.1 hi
      refine h _ ?_
      unfold jb
      simp [List.getD_eq_getElem?_getD, hi]
    · intro h x hx
      obtain ⟨i, hi, rfl⟩ := List.getElem_of_mem hx
      have := h i (List.mem_range.2 hi)
      simpa [jb, List.getD_eq_getElem?_getD, hi] using this
  have spc : ∀ i, i < l.length → (∀ i, i < l.length → (0 ≤ (jb l i).f0 ∧ (jb l i).f0 < s.length) ∧ 0 ≤ (jb l i).f1 ∧ (jb l i).f1 ≤ 119) → (spcAt s l i = true ↔ ¬ (jb l i).f1 < rd (nextL s l i) (jb l i).f0) := by
    intro i hi hin
    obtain ⟨⟨a1, a2⟩, a3, a4⟩ := hin i hi
    rw [nextL_says hok hin i (by omega) _ a1 a2]
    unfold spcAt
    rw [hgj]
    cases lastT l i (jb l i).f0 with
    | none => simp; omega
    | some b => simp; omega
  unfold legalB ordB
  rw [hdl, Bool.eq_iff_iff]
  simp only [Bool.and_eq_true, List.all_eq_true, List.mem_range, decide_eq_true_eq]
  constructor
  · rintro ⟨⟨h1, h2⟩, h3, h4⟩
    have hin : ∀ i, i < l.length → (0 ≤ (jb l i).f0 ∧ (jb l i).f0 < s.length) ∧ 0 ≤ (jb l i).f1 ∧ (jb l i).f1 ≤ 119 := by
      intro i hi
      have := h1 i hi
      unfold ordAt at this
      rw [Bool.and_eq_true, hgj] at this
      exact ⟨jobIn_f0 this.1, jobIn_f1 this.1⟩
    refine ⟨h2, fun i hi => ?_⟩
    have g1 := h1 i hi
    have g3 := (spc i hi hin).1 (h3 i hi)
    have g4 := h4 i hi
    unfold ordAt at g1
    rw [Bool.and_eq_true] at g1
    simp only [hgj] at g1
    obtain ⟨ga, gb⟩ := g1
    unfold jobIn at ga
    simp only [Bool.and_eq_true, decide_eq_true_eq] at ga
    unfold specAt
    rw [decide_eq_true ga.1, decide_eq_true ga.2.1, decide_eq_true ga.2.2, decide_eq_false g3, g4]
    simpa using gb
  · rintro ⟨h2, h1⟩
    have hx : ∀ i, i < l.length → (0 ≤ (jb l i).f0 ∧ (jb l i).f0 ≤ (s.length : Int) - 1) ∧ (0 ≤ (jb l i).f1 ∧ (jb l i).f1 ≤ 119) ∧ ¬ (jb l i).f1 < rd (nextL s l i) (jb l i).f0 ∧ dlOk s (jb l i) = true ∧ (1 ≤ (jb l i).f3 ∧ (jb l i).f3 ≤ (rd_T62 s (jb l i).f0).f0) ∧ (decide (0 < i) && jobBad (jb l (i - 1)) (jb l i)) = false := by
      intro i hi
      have := h1 i hi
      unfold specAt at this
      simp only [Bool.and_eq_true, Bool.not_eq_true', decide_eq_true_eq, decide_eq_false_iff_not] at this
      obtain ⟨⟨a, b⟩, ⟨c, d, e⟩, f⟩ := this
      exact ⟨a, b, c, d, e, f⟩
    have hin : ∀ i, i < l.length → (0 ≤ (jb l i).f0 ∧ (jb l i).f0 < s.length) ∧ 0 ≤ (jb l i).f1 ∧ (jb l i).f1 ≤ 119 := fun i hi => by
      obtain ⟨a, b, _⟩ := hx i hi
      exact ⟨by omega, b⟩
    refine ⟨⟨fun i hi => ?_, h2⟩, fun i hi => (spc i hi hin).2 (hx i hi).2.2.1, fun i hi => (hx i hi).2.2.2.1⟩
    obtain ⟨a, b, c, d, e, f⟩ := hx i hi
    unfold ordAt jobIn
    rw [hgj, hgj, decide_eq_true a, decide_eq_true b, decide_eq_true e, f]
    rfl
/-- A legal release pattern of a valid set. -/
def legal (s : List Task) (l : List S67) : Bool := okSet s && legalB s l
theorem impl_JobsLegal_f (s : List Task) (l : List S67) : impl_JobsLegal.f s l = some (legal s l) := by
  unfold impl_JobsLegal.f legal
  rw [impl_SetValid_f, Option.bind_some]
theorem spec_JobsLegal_ev (s : List Task) (l : List S67) (hs : s.length ≤ 1048576) (hl : l.length ≤ 1048576) : Tl (fun k => spec_JobsLegal.f k s l) (legal s l) := by
  refine (spec_JobsLegal_ev0 s l hs hl).cast ?_
  unfold legal
  cases hok : okSet s with
  | false => rfl
  | true => rw [Bool.true_and, Bool.true_and, legal_eq hok]

theorem rd_lst (o : List Int) (j : Nat) : rd o (j : Int) = o.getD j 0 := rfl
theorem bestN_congr {ok ok' : Nat → Bool} {key key' : Nat → Int} : ∀ n, (∀ i, i < n → ok i = ok' i) → (∀ i, i < n → key i = key' i) → bestN ok key n = bestN ok' key' n
  | 0, _, _ => rfl
  | n + 1, h1, h2 => by
    have ih := bestN_congr n (fun i hi => h1 i (by omega)) (fun i hi => h2 i (by omega))
    have hin := bestN_in ok' key' n
    unfold bestN
    rw [ih, h1 n (by omega), h2 n (by omega)]
    by_cases h : bestN ok' key' n < 0
    · simp [h]
    · rw [h2 (bestN ok' key' n).toNat (by omega)]
/-- What is left of each job. -/
def leftL (jobs : List S67) (done : List Int) : List Int := (List.range jobs.length).map (fun i => (jb jobs i).f3 - done.getD i 0)
theorem leftL_len (jobs : List S67) (done : List Int) : (leftL jobs done).length = jobs.length := by simp [leftL]
theorem leftL_at (jobs : List S67) (done : List Int) {i : Nat} (h : i < jobs.length) : (leftL jobs done).getD i 0 = (jb jobs i).f3 - done.getD i 0 := by
  unfold leftL
  rw [List.getD_eq_getElem?_getD, List.getElem?_map, List.getElem?_range h]
  rfl
theorem leftL_set (jobs : List S67) (done : List Int) (hl : done.length = jobs.length) {n : Nat} (h : n < jobs.length) : (leftL jobs done).set n ((jb jobs n).f3 - done.getD n 0 - 1) = leftL jobs (done.set n (done.getD n 0 + 1)) := by
  apply List.ext_getElem?
  intro i
  by_cases hi : i < jobs.length
  · rw [List.getElem?_set]
    have e2 := leftL_at jobs (done.set n (done.getD n 0 + 1)) hi
    have e1 := leftL_at jobs done hi
    rw [List.getD_eq_getElem?_getD] at e1 e2
    have h1 : i < (leftL jobs done).length := by rw [leftL_len]; exact hi
    have h2 : i < (leftL jobs (done.set n (done.getD n 0 + 1))).length := by rw [leftL_len]; exact hi
    rw [List.getElem?_eq_getElem h1] at e1 ⊢
    rw [List.getElem?_eq_getElem h2] at e2 ⊢
    simp only [Option.getD_some] at e1 e2
    rw [e2, getD_set']
    by_cases e : n = i
    · subst e
      rw [if_pos rfl, if_pos h1, if_pos ⟨rfl, by omega⟩]
      congr 1
      omega
    · rw [if_neg e, if_neg (by omega), e1]
  · rw [List.getElem?_eq_none (by rw [List.length_set, leftL_len]; omega), List.getElem?_eq_none (by rw [leftL_len]; omega)]
theorem spec_Best_ev (jobs : List S67) (left keys : List Int) (now : Int) (hj : jobs.length ≤ 60) (hl : left.length = jobs.length) (hk : keys.length = jobs.length) :
    Tl (fun k => spec_l3Best.f k jobs left keys now) (bestN (fun i => decide ((jb jobs i).f1 ≤ now) && decide (left.getD i 0 > 0)) (fun i => keys.getD i 0) jobs.length) := by
  unfold spec_l3Best.f
  obtain ⟨B, hB⟩ : ∃ B, B = bestN (fun i => decide ((jb jobs i).f1 ≤ now) && decide (left.getD i 0 > 0)) (fun i => keys.getD i 0) := ⟨_, rfl⟩
  rw [← hB]
  have hin : ∀ j, -1 ≤ B j ∧ B j < j := by rw [hB]; exact bestN_in _ _
  have hst : ∀ j, B (j + 1) = if (decide ((jb jobs j).f1 ≤ now) && decide (left.getD j 0 > 0)) && (decide (B j < 0) || decide (keys.getD j 0 < keys.getD (B j).toNat 0)) then (j : Int) else B j := fun j => by rw [hB]; rfl
  have h0 : B 0 = -1 := by rw [hB]; rfl
  have key := down (Q := fun j => Tl (fun k => spec_l3Best.l0 k jobs left keys now (B j) (j : Int)) (B jobs.length)) jobs.length ?_ ?_
  · rw [h0] at key; exact key
  · refine Tl.step ?_
    simp only [spec_l3Best.l0]
    exact Tl.iteF (by omega) (Tl.ret _)
  · intro j hj' h
    have hb := hin j
    have hs := hst j
    refine Tl.step ?_
    simp only [spec_l3Best.l0]
    rw [wrap_succ (j := j) (n := jobs.length) (by omega) (by omega), rd_jb, rd_lst, rd_lst]
    refine Tl.iteT (by omega) (Tl.iteT (by omega) ?_)
    by_cases c1 : (jb jobs j).f1 ≤ now
    · refine Tl.iteT c1 (Tl.iteT (by omega) ?_)
      by_cases c2 : left.getD j 0 > 0
      · refine Tl.iteT c2 ?_
        by_cases c3 : B j < 0
        · rw [if_pos (by simp only [decide_eq_true c1, decide_eq_true c2, decide_eq_true c3]; rfl)] at hs
          rw [hs] at h
          exact Tl.iteT c3 h
        · refine Tl.iteF c3 (Tl.iteT (by omega) (Tl.iteT (by omega) (Tl.iteT (by omega) ?_)))
          have hr : rd keys (B j) = keys.getD (B j).toNat 0 := rfl
          rw [hr]
          by_cases c4 : keys.getD j 0 < keys.getD (B j).toNat 0
          · rw [if_pos (by simp only [decide_eq_true c1, decide_eq_true c2, decide_eq_true c4]; simp)] at hs
            rw [hs] at h
            exact Tl.iteT c4 h
          · rw [if_neg (by simp only [decide_eq_false c3, decide_eq_false c4]; simp)] at hs
            rw [hs] at h
            exact Tl.iteF c4 h
      · rw [if_neg (by simp only [decide_eq_false c2]; simp)] at hs
        rw [hs] at h
        exact Tl.iteF c2 h
    · rw [if_neg (by simp only [decide_eq_false c1]; simp)] at hs
      rw [hs] at h
      exact Tl.iteF c1 h
theorem legal_jobs' {s : List Task} {l : List S67} (h : legal s l = true) : l.length ≤ 60 ∧ ∀ i, i < l.length → (l.getD i z67).f3 ≤ 8 := by
  unfold legal at h
  rw [Bool.and_eq_true] at h
  exact legal_jobs (by rw [impl_SetValid_f, h.1]) h.2

theorem spec_Deadlines_ev (jobs : List S67) (hj : jobs.length ≤ 60) : Tl (fun k => spec_l3Deadlines.f k jobs) (jobs.map (·.f2)) := by
  unfold spec_l3Deadlines.f
  have key := down (Q := fun j => Tl (fun k => spec_l3Deadlines.l0 k jobs ((jobs.map (·.f2)).take j) (j : Int)) (jobs.map (·.f2))) jobs.length ?_ ?_
  · simpa using key
  · refine Tl.step ?_
    simp only [spec_l3Deadlines.l0]
    refine Tl.iteF (by omega) ?_
    rw [List.take_of_length_le (by simp)]
    exact Tl.ret _
  · intro j hj' h
    refine Tl.step ?_
    simp only [spec_l3Deadlines.l0]
    rw [wrap_succ (j := j) (n := jobs.length) (by omega) (by omega), rd_jb]
    refine Tl.iteT (by omega) (Tl.iteT (by omega) (Tl.iteT (by rw [List.length_take]; omega) ?_))
    have e1 : (jobs.map (·.f2)).take j ++ [(jb jobs j).f2] = (jobs.map (·.f2)).take (j + 1) := by
      rw [List.take_add_one, List.getElem?_map, List.getElem?_eq_getElem hj']
      simp [jb, List.getD_eq_getElem?_getD, hj']
    rw [e1]
    exact h
end Go.Proofs.Ytonifhkplniblaa.Print

namespace Go.Proofs.Ytonifhkplniblaa.Print
open Go.RowKit Go.Proofs.YtonifhkplniblaaW.PrintWords Go.Proofs.YtonifhkplniblaaW.PrintLast Go.Proofs.YtonifhkplniblaaW.PrintMore
attribute [local go_sem] max2_int min2_int max_two min_two max_three min_three max_four min_four
set_option linter.unusedVariables false
set_option linter.unusedSimpArgs false
open Go.Proofs.Ytonifhkplniblaa.Walk Go.Proofs.Ytonifhkplniblaa.Evs
/-- The server that a tick of the reference serves. -/
def l5K (jobs : List (S67)) (v : List Sv) (j k : Int) : Int := if k < 0 then -1 else if 0 ≤ j ∧ (jobs.getD j.toNat z67).f2 ≤ (v.getD k.toNat zSv).dl then -1 else k
theorem bestN_lim (ok : Nat → Bool) (key : Nat → Int) (L : Int) : ∀ n, bestN (fun i => ok i && decide (key i < L)) key n = if 0 ≤ bestN ok key n ∧ key (bestN ok key n).toNat < L then bestN ok key n else -1
  | 0 => by simp [bestN]
  | n + 1 => by
    have ih := bestN_lim ok key L n
    have hb := bestN_in ok key n
    have e1 : bestN ok key (n + 1) = if ok n && (decide (bestN ok key n < 0) || decide (key n < key (bestN ok key n).toNat)) then (n : Int) else bestN ok key n := rfl
    have e2 : bestN (fun i => ok i && decide (key i < L)) key (n + 1) = if (ok n && decide (key n < L)) && (decide (bestN (fun i => ok i && decide (key i < L)) key n < 0) || decide (key n < key (bestN (fun i => ok i && decide (key i < L)) key n).toNat)) then (n : Int) else bestN (fun i => ok i && decide (key i < L)) key n := rfl
    rw [e1, e2, ih]
    generalize bestN ok key n = B at hb
    cases ho : ok n with
    | false => simp
    | true =>
      simp only [Bool.true_and]
      by_cases hB : B < 0
      · have hB' : ¬ 0 ≤ B := by omega
        have hn0 : (0 : Int) ≤ (n : Int) := by omega
        by_cases hk : key n < L
        · simp [hB, hB', hk, hn0]
        · simp [hB, hB', hk, hn0]
      · obtain ⟨b, rfl⟩ : ∃ b : Nat, B = (b : Int) := ⟨B.toNat, by omega⟩
        simp only [Int.toNat_natCast]
        have hb0 : ¬ ((b : Int) < 0) := by omega
        have hb1 : (0 : Int) ≤ (b : Int) := by omega
        have hn0 : (0 : Int) ≤ (n : Int) := by omega
        by_cases hk : key n < key b
        · by_cases hn : key n < L
          · by_cases hbl : key b < L
            · simp [hb0, hb1, hn0, hn, hbl, hk]
            · simp [hb0, hb1, hn0, hn, hbl, hk]
          · have : ¬ key b < L := by omega
            simp [hb0, hb1, hn0, hn, hk, this]
        · by_cases hbl : key b < L
          · simp [hb0, hb1, hn0, hbl, hk]
          · have : ¬ key n < L := by omega
            simp [hb0, hb1, hn0, hbl, hk, this]
theorem l5Best_calls (A0 : Option Addr) (c0 : Nat) (jobs : List (S67)) (A8 : Option Addr) (c8 : Nat) (done : List Int) (A9 : Option Addr) (c9 : Nat) (K0 : List Int) (t : Nat) (w : World) (hr0 : Kd.C k67 w A0 jobs.length jobs) (hc0 : jobs.length ≤ c0) (hj : jobs.length ≤ 60)
    (h8 : Kd.C (Kd.int .i64) w A8 jobs.length (leftL jobs done)) (h8c : jobs.length ≤ c8) (h9 : Kd.C (Kd.int .i64) w A9 jobs.length K0) (h9c : jobs.length ≤ c9) (hK : K0.length = jobs.length) (hKk : ∀ i, i < jobs.length → K0.getD i 0 = (jobs.getD i z67).f2) :
    Calls Try.prog 140 #[.slice A0 jobs.length c0, .slice A8 jobs.length c8, .slice A9 jobs.length c9, .int .i64 (t : Int)] w fun e w' => e = .returned (.int .i64 (edfJ jobs done t)) ∧ ∃ m, w' = w.drewN m := by
  have hb := spec_Best_ev jobs (leftL jobs done) K0 (t : Int) hj (leftL_len _ _) hK
  rw [bestN_congr (ok' := rdyB jobs done t) (key' := fun i => (jobs.getD i z67).f2) jobs.length (fun i hi => by
    rw [leftL_at jobs done hi]
    unfold rdyB
    have e1 : jobs.getD i z67 = jb jobs i := rfl
    rw [e1]
    congr 1
    rw [decide_eq_decide]
    omega) hKk] at hb
  obtain ⟨k, hk⟩ := hb
  have h := spec_l3Best.calls k A0 c0 jobs A8 c8 (leftL jobs done) A9 c9 K0 (t : Int) _ w hr0 hc0 (by rw [leftL_len]; exact h8) (by rw [leftL_len]; exact h8c) (by rw [hK]; exact h9) (by rw [hK]; exact h9c) (hk k (Nat.le_refl _))
  rw [leftL_len, hK] at h
  refine h.mono ?_
  rintro e w' ⟨rfl, hd⟩
  exact ⟨rfl, hd.out⟩
theorem l5Pick_K (jobs : List (S67)) (rs : List (List (S164))) (v : List Sv) (n : Nat) (j : Int) (hdl : ∀ i, i < n → (v.getD i zSv).dl < 1073741824) :
    bestN (ok5 ((List.range n).map (fun i => l5S (svA rs i) (v.getD i zSv))) (if 0 ≤ j then (jobs.getD j.toNat z67).f2 else 1073741824)) (dl5 ((List.range n).map (fun i => l5S (svA rs i) (v.getD i zSv)))) n = l5K jobs v j (chN v n) := by
  have hx : ∀ i, i < n → x5 ((List.range n).map (fun i => l5S (svA rs i) (v.getD i zSv))) i = l5S (svA rs i) (v.getD i zSv) := fun i hi => by
    unfold x5 rd_T167
    rw [Int.toNat_natCast, List.getD_eq_getElem?_getD, List.getElem?_map, List.getElem?_range hi]
    rfl
  rw [bestN_congr (ok' := fun i => pendS (v.getD i zSv) && decide ((v.getD i zSv).dl < (if 0 ≤ j then (jobs.getD j.toNat z67).f2 else 1073741824))) (key' := fun i => (v.getD i zSv).dl) n (fun i hi => by unfold ok5; rw [hx i hi]; rfl) (fun i hi => by unfold dl5; rw [hx i hi]; rfl), bestN_lim]
  have hc : bestN (fun i => pendS (v.getD i zSv)) (fun i => (v.getD i zSv).dl) n = chN v n := rfl
  have hb : -1 ≤ chN v n ∧ chN v n < n := bestN_in (fun i => pendS (v.getD i zSv)) (fun i => (v.getD i zSv).dl) n
  rw [hc]
  unfold l5K
  by_cases h0 : chN v n < 0
  · rw [if_pos h0, if_neg (by omega)]
  · rw [if_neg h0]
    have hd := hdl (chN v n).toNat (by omega)
    by_cases h1 : 0 ≤ j
    · rw [if_pos h1]
      by_cases h2 : (jobs.getD j.toNat z67).f2 ≤ (v.getD (chN v n).toNat zSv).dl
      · rw [if_neg (by omega), if_pos ⟨h1, h2⟩]
      · rw [if_pos ⟨by omega, by omega⟩, if_neg (fun h => h2 h.2)]
    · rw [if_neg h1, if_pos ⟨by omega, hd⟩, if_neg (fun h => h1 h.1)]
theorem set_takeS {run : List Int} {t : Nat} {x : Int} (h : t < run.length) : run.take t ++ [x] = (run.set t x).take (t + 1) := by
  apply List.ext_getElem?
  intro i
  rw [List.getElem?_take, List.getElem?_set, List.getElem?_append]
  simp only [List.length_take, List.getElem?_take]
  rw [Nat.min_eq_left (Nat.le_of_lt h)]
  by_cases h1 : i < t
  · rw [if_pos h1, if_pos h1, if_pos (by omega), if_neg (by omega)]
  · by_cases h2 : i = t
    · subst h2; simp [h]
    · rw [if_neg h1, if_neg (by omega), List.getElem?_eq_none (by simp; omega)]
theorem take_same1 {ch : List Int} {t : Nat} (h : t < ch.length) (h1 : ch.getD t 0 = -1) : ch.take t ++ [-1] = ch.take (t + 1) := by
  rw [List.take_add_one, List.getElem?_eq_getElem h]
  rw [List.getD_eq_getElem?_getD, List.getElem?_eq_getElem h] at h1
  simp only [Option.getD_some] at h1
  rw [h1]
  rfl
/-- What the pick of a tick comes to, by the server that it serves. -/
theorem srvK_cases (ss : List (S109)) (rs : List (List (S164))) (jobs : List (S67)) (v : List Sv) (ch : List Int) (sd : List (List Int)) (j k : Int) (t : Nat) (hk : -1 ≤ k) :
    (l5K jobs v j k = -1 ∧ srvK ss rs jobs v ch sd j k t = (j, ⟨v, ch, sd⟩)) ∨ (0 ≤ k ∧ l5K jobs v j k = k ∧ srvK ss rs jobs v ch sd j k t = (-1, ⟨v.set k.toNat (srvS (svX ss k.toNat).f0 (svX ss k.toNat).f1 (svA rs k.toNat) (v.getD k.toNat zSv)), ch.set t k, if srvF (svA rs k.toNat) (v.getD k.toNat zSv) = true then sd.set k.toNat ((sd.getD k.toNat []).set (v.getD k.toNat zSv).hd.toNat ((t : Int) + 1)) else sd⟩)) := by
  unfold l5K srvK
  by_cases h0 : k < 0
  · rw [if_pos h0, if_pos h0]; exact .inl ⟨rfl, rfl⟩
  · rw [if_neg h0, if_neg h0]
    by_cases h1 : 0 ≤ j ∧ (jobs.getD j.toNat z67).f2 ≤ (v.getD k.toNat zSv).dl
    · rw [if_pos h1, if_pos h1]; exact .inl ⟨rfl, rfl⟩
    · rw [if_neg h1, if_neg h1]; exact .inr ⟨by omega, rfl, rfl⟩
theorem leftL_zero (jobs : List (S67)) : jobs.map (·.f3) = leftL jobs (List.replicate jobs.length 0) := by
  apply List.ext_getElem?
  intro i
  unfold leftL
  rw [List.getElem?_map, List.getElem?_map]
  by_cases hi : i < jobs.length
  · rw [List.getElem?_range hi, List.getElem?_eq_getElem hi]
    simp [jb, List.getD_eq_getElem?_getD, hi, List.getElem?_replicate]
  · rw [List.getElem?_eq_none (by omega), List.getElem?_eq_none (by simp; omega)]
    rfl


/-- The states of the first servers, as they begin. -/
def l5L (rs : List (List (S164))) (v : List Sv) (n : Nat) : List (S167) := (List.range n).map (fun i => l5S (svA rs i) (v.getD i zSv))
theorem l5L_len (rs : List (List (S164))) (v : List Sv) (n : Nat) : (l5L rs v n).length = n := by simp [l5L]
theorem l5L_at (rs : List (List (S164))) (v : List Sv) (n i : Nat) (h : i < n) : (l5L rs v n).getD i z167 = l5S (svA rs i) (v.getD i zSv) := by
  unfold l5L
  rw [List.getD_eq_getElem?_getD, List.getElem?_map, List.getElem?_range h]
  rfl
theorem l5L_succ (rs : List (List (S164))) (v : List Sv) (n : Nat) : l5L rs v (n + 1) = l5L rs v n ++ [l5S (svA rs n) (v.getD n zSv)] := by
  unfold l5L
  rw [List.range_succ, List.map_append]
  rfl
theorem l5L_set (rs : List (List (S164))) (v : List Sv) (n i : Nat) (h : i < n) (hl : v.length = n) (s : Sv) : (l5L rs v n).set i (l5S (svA rs i) s) = l5L rs (v.set i s) n := by
  apply List.ext_getElem?
  intro j
  rw [List.getElem?_set]
  unfold l5L
  rw [List.getElem?_map, List.getElem?_map]
  by_cases hj : j < n
  · rw [List.getElem?_range hj]
    simp only [Option.map_some]
    rw [getD_setS]
    by_cases e : i = j
    · subst e; rw [if_pos rfl, if_pos (by simp; exact h), if_pos ⟨rfl, by omega⟩]
    · rw [if_neg e, if_neg (by omega)]
  · rw [List.getElem?_eq_none (by simp; omega)]
    simp only [Option.map_none]
    split
    · rename_i e
      subst e
      omega
    · rfl
/-- The served rows of the first servers. -/
def sdL (rs : List (List (S164))) (n : Nat) : List (List Int) := (List.range n).map (fun i => List.replicate (svA rs i).length (-1))
theorem sdL_succ (rs : List (List (S164))) (n : Nat) : sdL rs (n + 1) = sdL rs n ++ [List.replicate (svA rs n).length (-1)] := by
  unfold sdL
  rw [List.range_succ, List.map_append]
  rfl
theorem sdL_full (rs : List (List (S164))) (n : Nat) : sdL rs n = rowI rs n n := by
  apply List.ext_getElem?
  intro j
  unfold sdL rowI
  rw [List.getElem?_map, List.getElem?_map]
  by_cases hj : j < n
  · rw [List.getElem?_range hj]
    simp only [Option.map_some]
    rw [if_pos hj]
  · rw [List.getElem?_eq_none (by simp; omega)]
    rfl
theorem lft_succ (jobs : List (S67)) (j : Nat) (h : j < jobs.length) : (jobs.map (·.f3)).take j ++ [(rd_T67 jobs (j : Int)).f3] = (jobs.map (·.f3)).take (j + 1) := by
  rw [List.take_add_one, List.getElem?_map, List.getElem?_eq_getElem h]
  show _ ++ [(jobs.getD j z67).f3] = _
  simp [List.getD_eq_getElem?_getD, h]
theorem repl_succ (n : Nat) (x : Int) : List.replicate n x ++ [x] = List.replicate (n + 1) x := by rw [List.replicate_succ']
theorem L5M.start (w : World) : L5M w ((w.alloc (.cells #[.slice none 0 0, .slice none 0 0, .slice none 0 0, .slice none 0 0] 35)).alloc (.cells #[.slice none 0 0, .slice none 0 0, .slice none 0 0, .slice none 0 0] 35)) (w.heap.size + 1) #[.slice none 0 0, .slice none 0 0, .slice none 0 0, .slice none 0 0] w.heap.size [nilV, nilV, nilV, nilV, nilV, nilV] [[], [], [], [], [], []] nilV [] nilV [] where
  bo := blk_new1 _ _ _
  b6 := blk_alloc (blk_new _ _) _
  n6 := by omega
  bg := ⟨by omega, Nat.le_refl _⟩
  fam := by
    have e : ∀ i, ([nilV, nilV, nilV, nilV, nilV, nilV] : List Value).getD i nilV = nilV := fun i => by
      rcases i with _ | _ | _ | _ | _ | _ | i <;> rfl
    have e2 : ∀ i, ([[], [], [], [], [], []] : List (List Int)).getD i [] = [] := fun i => by
      rcases i with _ | _ | _ | _ | _ | _ | i <;> rfl
    exact ⟨rfl, fun i _ => by rw [e, e2]; exact Kd.R_nil _ _ _ _ _, fun i j k _ _ _ h => by rw [e] at h; cases h⟩
  sts := Kd.R_nil _ _ _ _ _
  sd := Kd.S_nil _ _ _ _ _
  bw := below_alloc (below_alloc (Below.refl _ _) _) _
theorem L5M.sfresh {w0 W W2 : World} {go g6 : Nat} {bs : Array Value} {vs : List Value} {xss : List (List Int)} {v11 vS v' : Value} {xs ys : List (S167)} {sd : List (List Int)} (h : L5M w0 W go bs g6 vs xss v11 xs vS sd) (hv : Kd.R k167 167 W2 W.heap.size (fun _ => True) v' ys) (hb : Below W.heap.size W W2) : L5M w0 W2 go bs g6 vs xss v' ys vS sd :=
  ⟨(h.below hb).bo, (h.below hb).b6, h.n6, h.bg, (h.below hb).fam, Kd.R_lower hv h.bw.size, (h.below hb).sd, (h.below hb).bw⟩
theorem l5S0 (ss : List (S109)) (rs : List (S164)) (k : Nat) : l5S rs (sv0 ss k) = ⟨(svX ss k).f0, 0, 0, 0, 0⟩ := by
  unfold l5S l5R sv0
  simp
/-- What a tick of the reference begins with. -/
structure L5Q (w W : World) (go g6 : Nat) (u8 v9 v11 vf vr vc vS : Value) (jobs : List (S67)) (K0 : List Int) (ss : List (S109)) (rs : List (List (S164))) (X : SvSt × List Int × List Int × List Int) (sv : List Sv) (t : Nat) : Prop where
  mem : L5M w W go #[vr, vf, vc, vS] g6 [u8, v9, vr, vf, vc, nilV] [leftL jobs X.2.1, K0, X.2.2.1.take t, X.2.2.2, X.1.ch.take t, []] v11 (l5L rs sv ss.length) vS X.1.sd
  svb : ∀ i, i < ss.length → SvB (svX ss i).f0 (svX ss i).f1 (svA rs i) (sv.getD i zSv)
  ls : sv.length = ss.length
  lc : X.1.ch.length = 120
  ld : X.1.sd.length = ss.length
  le : ∀ i, i < ss.length → (X.1.sd.getD i []).length = (svA rs i).length
  lz : ∀ i, t ≤ i → i < 120 → X.1.ch.getD i 0 = -1
set_option maxHeartbeats 8000000 in
set_option maxRecDepth 100000 in
theorem l5Run_calls (A0 : Option Addr) (c0 : Nat) (jobs : List (S67)) (A1 : Option Addr) (c1 : Nat) (ss : List (S109)) (A2 : Option Addr) (c2 : Nat) (rs : List (List (S164))) (w : World)
    (hr0 : Kd.C k67 w A0 jobs.length jobs) (hc0 : jobs.length ≤ c0) (hr1 : Kd.C k109 w A1 ss.length ss) (hr2 : Kd.C (Kd.slice 164 k164) w A2 rs.length rs) (hj : jobs.length ≤ 60) (hex : ∀ i, i < jobs.length → (jobs.getD i z67).f3 ≤ 8) (h2 : ss.length ≤ 2) (hlr : rs.length = ss.length) (hvb : ∀ i, i < ss.length → SvB (svX ss i).f0 (svX ss i).f1 (svA rs i) (sv0 ss i)) :
    Calls Try.prog 70 #[.slice A0 jobs.length c0, .slice A1 ss.length c1, .slice A2 rs.length c2] w fun e w' => ∃ (B0 : Option Addr) (d0 : Nat) (B1 : Option Addr) (d1 : Nat) (B2 : Option Addr) (d2 : Nat) (B3 : Option Addr) (d3 : Nat), (∃ X, X = simN jobs (srvPick ss rs jobs) (srv00 ss rs) 120 ∧ e = .returned (.agg #[.slice B0 X.2.2.1.length d0, .slice B1 X.2.2.2.length d1, .slice B2 X.1.ch.length d2, .slice B3 X.1.sd.length d3]) ∧
      Kd.R (Kd.int .i64) 3 w' w.heap.size (fun _ => True) (.slice B0 X.2.2.1.length d0) X.2.2.1 ∧ Kd.R (Kd.int .i64) 3 w' w.heap.size (fun _ => True) (.slice B1 X.2.2.2.length d1) X.2.2.2 ∧ Kd.R (Kd.int .i64) 3 w' w.heap.size (fun _ => True) (.slice B2 X.1.ch.length d2) X.1.ch ∧ Kd.S (Kd.slice 3 (Kd.int .i64)) 30 w' w.heap.size (fun _ => True) (.slice B3 X.1.sd.length d3) X.1.sd) ∧ Below w.heap.size w w' := by
  have hu := Try.underlying35
  have huL := Try.underlying167
  have huS := Try.underlying109
  have huJ := Try.underlying67
  have huC := Try.underlying32
  have HR0 := Lib.hid hr0
  have HR1 := Lib.hid hr1
  have HR2 := Lib.hid hr2
  have HST := Lib.hid (L5M.start w)
  obtain ⟨kd, hkd⟩ := spec_Deadlines_ev jobs hj
  have HDL := Lib.hid (fun V (hV : Below w.heap.size w V) => spec_l3Deadlines.calls kd A0 c0 jobs (jobs.map (·.f2)) V (Kd.C_below hr0 hV) hc0 (hkd kd (Nat.le_refl _)))
  have hmx : jobs.length ≤ 9223372036854775807 := by omega
  have HC0 := Lib.hid hc0
  clear hr0 hr1 hr2 hc0 hkd
  rw [hlr]
  go_enter Try.func70, Try.ntmps70
  go_upto_region 2 with (fail)
  have HM := Aside0.mk HST.out
  clear HST
  generalize World.alloc _ _ = V1 at HM ⊢
  have hgq : w.heap.size ≠ w.heap.size + 1 := by omega
  go_upto_region 4 with (first | ((with_reducible refine gate_dst (N := 22) rfl ?_); refine Kd.R_lit (Kd.int .i64) _ 3 ?hg (N := 22) ?hd (xs := ([] : List Int)) (inner := []) (ok := fun _ => True) (okp := fun _ => True) ?hr ?hp (fun _ hk => hk) trivial (Below.refl _ _) (Nat.le_refl _) (by simp) ?_; (case hd => rfl); (case hg => rfl); (case hr => first | (go_simp; done) | (go_simp; rfl)); (case hp => exact (Reps.none _ _)); intro v8 V2 ho hb hg_ hnew_; have HM2 := Aside0.mk (HM.out.fresh (i := 0) (by show 0 < 6; omega) ho hb rfl); clear HM ho hb hg_ hnew_) | (go_at_call 121; refine (HDL.out _ HM2.out.bw).mono ?_; rintro e V3 ⟨v9, rfl, ho, hb⟩; have HM3 := Aside0.mk (HM2.out.fresh (i := 1) (by show 1 < 6; omega) ho hb rfl); clear HM2 ho hb))
  have HM4 : Aside0 (L5M w V3 (w.heap.size + 1) #[.slice none 0 0, .slice none 0 0, .slice none 0 0, .slice none 0 0] w.heap.size [v8, v9, nilV, nilV, nilV, nilV] [(jobs.map (·.f3)).take 0, jobs.map (·.f2), [], List.replicate 0 (-1), [], []] nilV [] nilV []) := ⟨HM3.out⟩
  have hK0 : (jobs.map (·.f2)).length = jobs.length := List.length_map _
  have hKk : ∀ i, i < jobs.length → (jobs.map (·.f2)).getD i 0 = (jobs.getD i z67).f2 := fun i hi => by simp [List.getD_eq_getElem?_getD, hi]
  have HKK := Lib.hid (And.intro hK0 hKk)
  clear hKk
  generalize jobs.map (·.f2) = K0 at HM4 hK0 HKK
  generalize w.heap.size + 1 = go at HM4 hgq ⊢
  clear HM3 HDL
  go_wp2_with fail
  go_loopw [8, 10] (fun v8 v10 w' => ∃ (j : Nat) (vf : Value), v10 = .int .i64 (j : Int) ∧ j ≤ jobs.length ∧ Aside0 (L5M w w' go #[.slice none 0 0, vf, .slice none 0 0, .slice none 0 0] w.heap.size [v8, v9, nilV, vf, nilV, nilV] [(jobs.map (·.f3)).take j, K0, [], List.replicate j (-1), [], []] nilV [] nilV [])) (fun _ v10 _ => jobs.length - (intOf v10).toNat)
  case atStart => exact ⟨0, _, rfl, Nat.zero_le _, HM4⟩
  case round =>
    clear HM4
    obtain ⟨j, vf, rfl, hjl, HM⟩ := hrel
    by_cases hlt : j < jobs.length
    · have b1 : decide ((j : Int) < (jobs.length : Int)) = true := decide_eq_true (by omega)
      obtain ⟨ad0, e0, _, _, _, hy3⟩ := at_T67 (Kd.C_below HR0.out HM.out.bw) (j : Int) (by omega) (by omega)
      cases e0
      simp only [Int.toNat_natCast] at hy3
      have hL := lft_succ jobs j hlt
      have hF := repl_succ j (-1)
      obtain ⟨x3, hx3⟩ : ∃ x3, x3 = (rd_T67 jobs (j : Int)).f3 := ⟨_, rfl⟩
      rw [← hx3] at hy3 hL
      have hl0 : ((jobs.map (·.f3)).take j).length ≤ 60 := by rw [List.length_take]; omega
      have hf0 : (List.replicate j (-1 : Int)).length ≤ 60 := by rw [List.length_replicate]; omega
      have HL := Lib.hid hL
      have HF := Lib.hid hF
      clear hL hF hx3
      obtain ⟨L0, hL0⟩ : ∃ L0, L0 = (jobs.map (·.f3)).take j := ⟨_, rfl⟩
      obtain ⟨F0, hF0⟩ : ∃ F0, F0 = List.replicate j (-1 : Int) := ⟨_, rfl⟩
      rw [← hL0] at HM HL hl0
      rw [← hF0] at HM HF hf0
      obtain ⟨Bf0, df0, ef0⟩ := Kd.R_slice (HM.out.fam.row 3 (by show 3 < 6; omega))
      have z0 : wr.cell? ⟨go, 1, none⟩ = some vf := (blk_cell HM.out.bo 1).trans rfl
      have p0 : 0 ≤ (j : Int) := by omega
      have p1 : (j : Int) < (jobs.length : Int) := by omega
      clear hL0 hF0 ef0
      go_wp2_with (first | ((with_reducible refine gate_builtin (b := .append) (xs := #[.tmp 31, .tmp 37]) rfl ?_); at_builtin; refine Kd.R_append (Kd.int .i64) (w0 := w) w.heap.size rfl (.tmp 31) (.tmp 37) 30 3 (.int .i64 0) 8 rfl Try.underlying30 info3 rfl (by decide) (by omega) u8 L0 x3 [.int .i64 x3] (fun _ => True) (fun _ => False) rfl rfl rfl (fun _ hk => hk.elim) (fun _ _ => trivial) (HM.out.fam.row 0 (by show 0 < 6; omega)) HM.out.bw HM.out.bw.size (by omega) ?_; intro v8b w2 ho hb hg hat; obtain ⟨B8, d8, e8⟩ := Kd.R_slice ho; subst e8; have HM2 : Aside0 (L5M w w2 go #[.slice none 0 0, vf, .slice none 0 0, .slice none 0 0] w.heap.size [.slice B8 (L0 ++ [x3]).length d8, v9, nilV, vf, nilV, nilV] [L0 ++ [x3], K0, [], F0, [], []] nilV [] nilV []) := ⟨HM.out.app (i := 0) (by show 0 < 6; omega) ho hb hg hat⟩; have z1 : w2.cell? ⟨go, 1, none⟩ = some vf := (blk_cell HM2.out.bo 1).trans rfl; clear HM ho hb hg hat) | ((with_reducible refine gate_builtin (b := .append) (xs := #[.tmp 41, .tmp 42]) rfl ?_); at_builtin; refine Kd.R_append (Kd.int .i64) (w0 := w) w.heap.size rfl (.tmp 41) (.tmp 42) 30 3 (.int .i64 0) 8 rfl Try.underlying30 info3 rfl (by decide) (by omega) vf F0 (-1) [.int .i64 (-1)] (fun _ => True) (fun _ => False) rfl rfl rfl (fun _ hk => hk.elim) (fun _ _ => trivial) (HM2.out.fam.row 3 (by show 3 < 6; omega)) HM2.out.bw HM2.out.bw.size (by omega) ?_; intro vfb w3 ho hb hg hat; obtain ⟨Bf, df, ef⟩ := Kd.R_slice ho; subst ef; have HM3 : Aside0 (L5M w w3 go #[.slice none 0 0, vf, .slice none 0 0, .slice none 0 0] w.heap.size [.slice B8 (L0 ++ [x3]).length d8, v9, nilV, .slice Bf (F0 ++ [-1]).length df, nilV, nilV] [L0 ++ [x3], K0, [], F0 ++ [-1], [], []] nilV [] nilV []) := ⟨HM2.out.app (i := 3) (by show 3 < 6; omega) ho hb hg hat⟩; have z2 : w3.cell? ⟨go, 1, none⟩ = some vf := (blk_cell HM3.out.bo 1).trans rfl; have zf2 := blk_frozen HM3.out.bo 1; clear HM2 z1 ho hb hg hat))
      go_roundw
      case rel => exact ⟨j + 1, _, by go_num, by omega, ⟨by have h := HM3.out.box 1 (.slice Bf (F0 ++ [-1]).length df); simp only [List.length_append, List.length_singleton] at h; rw [HL.out, HF.out] at h; exact h⟩⟩
      case measure => simp [intOf]; omega
    · have b1 : decide ((j : Int) < (jobs.length : Int)) = false := decide_eq_false (by omega)
      obtain rfl : j = jobs.length := by omega
      have hl0 : (jobs.map (·.f3)).length = jobs.length := List.length_map _
      have hM := HM.out
      rw [List.take_of_length_le (by omega)] at hM
      clear HM
      have HM := Aside0.mk hM
      clear hM
      have hLL := leftL_zero jobs
      have HLL := Lib.hid hLL
      clear hLL
      generalize jobs.map (·.f3) = L0 at HM hl0 HLL
      have hf0 : (List.replicate jobs.length (-1 : Int)).length = jobs.length := List.length_replicate
      generalize hF0 : List.replicate jobs.length (-1 : Int) = F0 at HM hf0
      have HFF := Lib.hid hF0
      clear hF0
      go_upto_region 10 with (((with_reducible refine gate_dst (N := 46) rfl ?_); refine Kd.R_lit k167 _ 167 ?hg (N := 46) ?hd (xs := ([] : List (S167))) (inner := []) (ok := fun _ => True) (okp := fun _ => True) ?hr ?hp (fun _ hk => hk) trivial (Below.refl _ _) (Nat.le_refl _) (by simp) ?_; (case hd => rfl); (case hg => rfl); (case hr => first | (go_simp; done) | (go_simp; rfl)); (case hp => exact (Reps.none _ _)); intro v11 V4 ho hb hg_ hnew_; have HM5 := Aside0.mk (HM.out.sfresh ho hb); clear HM ho hb hg_ hnew_))
      have HM6 : Aside0 (L5M w V4 go #[.slice none 0 0, vf, .slice none 0 0, .slice none 0 0] w.heap.size [u8, v9, nilV, vf, nilV, nilV] [L0, K0, [], F0, [], []] v11 (l5L rs (svL0 ss) 0) nilV (sdL rs 0)) := ⟨HM5.out⟩
      clear HM5
      go_wp2_with fail
      go_loopw [11, 12] (fun v11 v12 w' => ∃ (k : Nat) (vS : Value), v12 = .int .i64 (k : Int) ∧ k ≤ ss.length ∧ Aside0 (L5M w w' go #[.slice none 0 0, vf, .slice none 0 0, vS] w.heap.size [u8, v9, nilV, vf, nilV, nilV] [L0, K0, [], F0, [], []] v11 (l5L rs (svL0 ss) k) vS (sdL rs k))) (fun _ v12 _ => ss.length - (intOf v12).toNat)
      case atStart => exact ⟨0, _, rfl, Nat.zero_le _, HM6⟩
      case round =>
        clear HM6
        obtain ⟨k, vS, rfl, hk, HM⟩ := hrel
        by_cases hlt : k < ss.length
        · have b2 : decide ((k : Int) < (ss.length : Int)) = true := decide_eq_true (by omega)
          obtain ⟨ads, es, hx0, _⟩ := at_T109 (Kd.C_below HR1.out HM.out.bw) (k : Int) (by omega) (by omega)
          cases es
          simp only [Int.toNat_natCast] at hx0
          have hrd : rd_T109 ss (k : Int) = svX ss k := rfl
          rw [hrd] at hx0
          have hnx := l5L_succ rs (svL0 ss) k
          rw [svL0_at ss k hlt, l5S0] at hnx
          obtain ⟨x0, hx⟩ : ∃ x0, x0 = (svX ss k).f0 := ⟨_, rfl⟩
          rw [← hx] at hx0 hnx
          have hxl := l5L_len rs (svL0 ss) k
          obtain ⟨xs, hxs⟩ : ∃ xs, xs = l5L rs (svL0 ss) k := ⟨_, rfl⟩
          rw [← hxs] at HM hnx hxl
          obtain ⟨sd, hsd⟩ : ∃ sd, sd = sdL rs k := ⟨_, rfl⟩
          have hsx := sdL_succ rs k
          rw [← hsd] at HM hsx
          have hsl : sd.length = k := by rw [hsd]; simp [sdL]
          have p0 : 0 ≤ (k : Int) := by omega
          have p1 : (k : Int) < (ss.length : Int) := by omega
          have HNX := Lib.hid hnx
          have HSX := Lib.hid hsx
          clear hrd hnx hx hxs hsd hsx
          go_upto_region 15 with (first | ((with_reducible refine gate_builtin (b := .append) (xs := #[.tmp 53, .tmp 60]) rfl ?_); at_builtin; refine Kd.R_append k167 (w0 := w) w.heap.size rfl (.tmp 53) (.tmp 60) 165 167 (.agg #[.int .i64 0, .int .i64 0, .int .i64 0, .int .i64 0, .int .i64 0]) 40 rfl Try.underlying165 info167 rfl (by decide) (by omega) u11 xs (⟨x0, 0, 0, 0, 0⟩ : S167) [.int .i64 x0, .int .i64 0, .int .i64 0, .int .i64 0, .int .i64 0] (fun _ => True) (fun _ => False) rfl rfl (k167_mkM _ _ _ (⟨x0, 0, 0, 0, 0⟩ : S167)) (fun _ hk => hk.elim) (fun _ _ => trivial) HM.out.sts HM.out.bw HM.out.bw.size (by omega) ?_; intro v11b w2 ho hb hg hat; obtain ⟨B11, d11, e11⟩ := Kd.R_slice ho; subst e11; have HM2 : Aside0 (L5M w w2 go #[.slice none 0 0, vf, .slice none 0 0, vS] w.heap.size [u8, v9, nilV, vf, nilV, nilV] [L0, K0, [], F0, [], []] (.slice B11 (xs ++ [(⟨x0, 0, 0, 0, 0⟩ : S167)]).length d11) (xs ++ [(⟨x0, 0, 0, 0, 0⟩ : S167)]) vS sd) := ⟨HM.out.sapp ho hb hg⟩; clear HM ho hb hg hat) | ((with_reducible refine gate_dst (N := 62) rfl ?_); refine Kd.R_lit (Kd.int .i64) _ 3 ?hg (N := 62) ?hd (xs := ([] : List Int)) (inner := []) (ok := fun _ => True) (okp := fun _ => True) ?hr ?hp (fun _ hk => hk) trivial (Below.refl _ _) (Nat.le_refl _) (by simp) ?_; (case hd => rfl); (case hg => rfl); (case hr => first | (go_simp; done) | (go_simp; rfl)); (case hp => exact (Reps.none _ _)); intro v13 V5 ho hb hg_ hnew_; have HM3 := Aside0.mk (HM2.out.fresh (i := 5) (by show 5 < 6; omega) ho hb rfl); clear HM2 ho hb hg_ hnew_))
          have HM4 : Aside0 (L5M w V5 go #[.slice none 0 0, vf, .slice none 0 0, vS] w.heap.size [u8, v9, nilV, vf, nilV, v13] [L0, K0, [], F0, [], List.replicate 0 (-1)] (.slice B11 (xs ++ [(⟨x0, 0, 0, 0, 0⟩ : S167)]).length d11) (xs ++ [(⟨x0, 0, 0, 0, 0⟩ : S167)]) vS sd) := ⟨HM3.out⟩
          clear HM3
          obtain ⟨ad, B, d, er, hcv, _, _⟩ := rowA_at HR2.out k (by omega)
          cases er
          have hL20 := (hvb k hlt).rl
          have hcv : w.cell? (ad.add k) = some (.slice B (svA rs k).length d) := hcv
          obtain ⟨L, hL⟩ : ∃ L, L = (svA rs k).length := ⟨_, rfl⟩
          rw [← hL] at hcv hL20 HSX
          have HCV := Lib.hid hcv
          have hvl : (xs ++ [(⟨x0, 0, 0, 0, 0⟩ : S167)]).length = k + 1 := by simp [hxl]
          rw [hvl] at HM4
          generalize hXS : xs ++ [(⟨x0, 0, 0, 0, 0⟩ : S167)] = XS at HM4 HNX
          obtain ⟨VX, hVX⟩ : ∃ VX, VX = Value.slice B11 (k + 1) d11 := ⟨_, rfl⟩
          rw [← hVX] at HM4 ⊢
          clear hcv hL hvl hXS hVX
          go_wp2_with fail
          go_loopw [13, 14] (fun v13 v14 w' => ∃ i : Nat, v14 = .int .i64 (i : Int) ∧ i ≤ L ∧ Aside0 (L5M w w' go #[.slice none 0 0, vf, .slice none 0 0, vS] w.heap.size [u8, v9, nilV, vf, nilV, v13] [L0, K0, [], F0, [], List.replicate i (-1)] VX XS vS sd)) (fun _ v14 _ => L - (intOf v14).toNat)
          case atStart => exact ⟨0, rfl, Nat.zero_le _, HM4⟩
          case round =>
            clear HM4
            obtain ⟨i, rfl, hi, HM⟩ := hrel
            have hrow : wr.cell? (ad.add k) = some (.slice B L d) := (HM.out.bw.cell (World.block_lt_of_cell? _ _ HCV.out)).trans HCV.out
            have hG := repl_succ i (-1)
            have hg0 : (List.replicate i (-1 : Int)).length = i := List.length_replicate
            by_cases hil : i < L
            · have b3 : decide ((i : Int) < (L : Int)) = true := decide_eq_true (by omega)
              have HG := Lib.hid hG
              clear hG
              obtain ⟨G0, hG0⟩ : ∃ G0, G0 = List.replicate i (-1 : Int) := ⟨_, rfl⟩
              rw [← hG0] at HM HG hg0
              clear hG0
              go_wp2_with ((with_reducible refine gate_builtin (b := .append) (xs := #[.tmp 72, .tmp 73]) rfl ?_); at_builtin; refine Kd.R_append (Kd.int .i64) (w0 := w) w.heap.size rfl (.tmp 72) (.tmp 73) 30 3 (.int .i64 0) 8 rfl Try.underlying30 info3 rfl (by decide) (by omega) u13 G0 (-1) [.int .i64 (-1)] (fun _ => True) (fun _ => False) rfl rfl rfl (fun _ hk => hk.elim) (fun _ _ => trivial) (HM.out.fam.row 5 (by show 5 < 6; omega)) HM.out.bw HM.out.bw.size (by omega) ?_; intro v13b w2 ho hb hg hat; obtain ⟨B13, d13, e13⟩ := Kd.R_slice ho; subst e13; have HM2 : Aside0 (L5M w w2 go #[.slice none 0 0, vf, .slice none 0 0, vS] w.heap.size [u8, v9, nilV, vf, nilV, .slice B13 (G0 ++ [-1]).length d13] [L0, K0, [], F0, [], G0 ++ [-1]] VX XS vS sd) := ⟨HM.out.app (i := 5) (by show 5 < 6; omega) ho hb hg hat⟩; clear HM ho hb hg hat)
              go_roundw
              case rel => exact ⟨i + 1, by go_num, by omega, ⟨by have h := HM2.out; simp only [List.length_append, List.length_singleton] at h; rw [hg0, HG.out] at h; exact h⟩⟩
              case measure => simp [intOf]; omega
            · have b3 : decide ((i : Int) < (L : Int)) = false := decide_eq_false (by omega)
              obtain rfl : i = L := by omega
              clear hG
              obtain ⟨Bg, dg, eg⟩ := Kd.R_slice (HM.out.fam.row 5 (by show 5 < 6; omega))
              replace eg : u13 = .slice Bg (List.replicate i (-1 : Int)).length dg := eg
              obtain ⟨G0, hG0⟩ : ∃ G0, G0 = List.replicate i (-1 : Int) := ⟨_, rfl⟩
              rw [← hG0] at HM HSX hg0 eg
              rw [hg0] at eg
              subst eg
              have z1 : wr.cell? ⟨go, 3, none⟩ = some vS := (blk_cell HM.out.bo 3).trans rfl
              clear hG0
              go_wp2_with ((with_reducible refine gate_builtin (b := .append) (xs := #[.tmp 76, .tmp 78]) rfl ?_); at_builtin; refine Kd.S_append (Kd.slice 3 (Kd.int .i64)) (w0 := w) w.heap.size rfl (.tmp 76) (.tmp 78) 33 30 (.slice none 0 0) 24 rfl Try.underlying33 info30 rfl (by decide) (by omega) vS sd G0 [.slice Bg i dg] (okF [u8, v9, nilV, vf, nilV, nilV]) (fun k_ => some k_ = (Value.slice Bg i dg).ownBlock) rfl rfl (HM.out.rappP (i := 5) (by show 5 < 6; omega)) (HM.out.rappK (i := 5) (by show 5 < 6; omega)) (HM.out.rappF (i := 5) (by show 5 < 6; omega)) (HM.out.rappO (i := 5) (by show 5 < 6; omega)) HM.out.bw HM.out.bw.size (by omega) ?_; intro vSb w3 ho hb hg hat; obtain ⟨Bs, ds, es⟩ := Kd.S_slice ho; subst es; have HM2 : Aside0 (L5M w w3 go #[.slice none 0 0, vf, .slice none 0 0, vS] w.heap.size [u8, v9, nilV, vf, nilV, nilV] [L0, K0, [], F0, [], []] VX XS (.slice Bs (sd ++ [G0]).length ds) (sd ++ [G0])) := ⟨HM.out.rapp (i := 5) (by show 5 < 6; omega) ho hb hg⟩; have z2 : w3.cell? ⟨go, 3, none⟩ = some vS := (blk_cell HM2.out.bo 3).trans rfl; have zf2 := blk_frozen HM2.out.bo 3; clear HM ho hb hg hat)
              go_roundw
              case rel => exact ⟨k + 1, _, by go_num, by omega, ⟨by have h := HM2.out.box 3 (.slice Bs (sd ++ [G0]).length ds); simp only [List.length_append, List.length_singleton, hsl] at h; rw [HNX.out, HSX.out]; exact h⟩⟩
              case measure => simp [intOf]; omega
        · have b2 : decide ((k : Int) < (ss.length : Int)) = false := decide_eq_false (by omega)
          obtain rfl : k = ss.length := by omega
          obtain ⟨A11, c11, e11⟩ := Kd.R_slice HM.out.sts
          rw [l5L_len] at e11
          subst e11
          obtain ⟨A8, c8, e8⟩ := Kd.R_slice (HM.out.fam.row 0 (by show 0 < 6; omega))
          replace e8 : u8 = .slice A8 L0.length c8 := e8
          rw [hl0] at e8
          subst e8
          obtain ⟨A9, c9, e9⟩ := Kd.R_slice (HM.out.fam.row 1 (by show 1 < 6; omega))
          replace e9 : v9 = .slice A9 K0.length c9 := e9
          rw [hK0] at e9
          subst e9
          obtain ⟨A3, c3, e3⟩ := Kd.R_slice (HM.out.fam.row 3 (by show 3 < 6; omega))
          replace e3 : vf = .slice A3 F0.length c3 := e3
          rw [hf0] at e3
          subst e3
          obtain ⟨AS, cS, eS⟩ := Kd.S_slice HM.out.sd
          rw [show (sdL rs ss.length).length = ss.length by simp [sdL]] at eS
          subst eS
          have H0 : Aside0 (L5Q w wr go w.heap.size (.slice A8 jobs.length c8) (.slice A9 jobs.length c9) (.slice A11 ss.length c11) (.slice A3 jobs.length c3) (.slice none 0 0) (.slice none 0 0) (.slice AS ss.length cS) jobs K0 ss rs (simN jobs (srvPick ss rs jobs) (srv00 ss rs) 0) (simN jobs (srvPick ss rs jobs) (srv00 ss rs) 0).1.sv 0) := by
            have hm := HM.out
            rw [HLL.out, ← HFF.out, sdL_full] at hm
            refine ⟨⟨hm, fun i hi => ?_, by show (svL0 ss).length = _; unfold svL0; simp, by show (List.replicate 120 (-1 : Int)).length = 120; simp, by show (rowI rs ss.length ss.length).length = _; rw [rowI_len], fun i hi => ?_, fun i _ hi => ?_⟩⟩
            · show SvB _ _ _ ((svL0 ss).getD i zSv)
              rw [svL0_at ss i hi]
              exact hvb i hi
            · show ((rowI rs ss.length ss.length).getD i []).length = _
              rw [rowI_at _ _ _ _ hi, if_pos hi, List.length_replicate]
            · show (List.replicate 120 (-1 : Int)).getD i 0 = -1
              rw [List.getD_eq_getElem?_getD, List.getElem?_replicate, if_pos hi]
              rfl
          clear HM
          go_wp2_with fail
          go_loopw [15] (fun v15 w' => ∃ (t : Nat) (vr vc : Value), v15 = .int .i64 (t : Int) ∧ t ≤ 120 ∧ Aside0 (L5Q w w' go w.heap.size (.slice A8 jobs.length c8) (.slice A9 jobs.length c9) (.slice A11 ss.length c11) (.slice A3 jobs.length c3) vr vc (.slice AS ss.length cS) jobs K0 ss rs (simN jobs (srvPick ss rs jobs) (srv00 ss rs) t) (simN jobs (srvPick ss rs jobs) (srv00 ss rs) t).1.sv t)) (fun v15 _ => 120 - (intOf v15).toNat)
          case atStart => exact ⟨0, _, _, rfl, by omega, H0⟩
          case round =>
            clear H0
            obtain ⟨t, vr, vc, rfl, ht, HQ⟩ := hrel
            by_cases htl : t < 120
            · have b4 : decide ((t : Int) < 120) = true := decide_eq_true (by omega)
              have hlen := simN_len (jobs := jobs) (pick := srvPick ss rs jobs) (s0 := srv00 ss rs) t
              obtain ⟨X, hX⟩ : ∃ X, X = simN jobs (srvPick ss rs jobs) (srv00 ss rs) t := ⟨_, rfl⟩
              rw [← hX] at HQ hlen
              obtain ⟨x, done, run, fin⟩ := X
              simp only at HQ hlen
              go_upto_region 24 with (fail)
              go_loopw [16] (fun v16 w' => ∃ i : Nat, v16 = .int .i64 (i : Int) ∧ i ≤ ss.length ∧ Aside0 (L5Q w w' go w.heap.size (.slice A8 jobs.length c8) (.slice A9 jobs.length c9) (.slice A11 ss.length c11) (.slice A3 jobs.length c3) vr vc (.slice AS ss.length cS) jobs K0 ss rs (x, done, run, fin) (admL ss rs t x.sv i) t)) (fun v16 _ => ss.length - (intOf v16).toNat)
              case atStart => exact ⟨0, rfl, Nat.zero_le _, HQ⟩
              case round =>
                clear HQ
                obtain ⟨i, rfl, hi, HQ⟩ := hrel
                by_cases hil : i < ss.length
                · have b5 : decide ((i : Int) < (ss.length : Int)) = true := decide_eq_true (by omega)
                  obtain ⟨gs, cap, e11, _⟩ := Kd.R_form HQ.out.mem.sts (by rw [l5L_len]; omega)
                  injection e11 with e11 e12 e13
                  subst e11
                  clear e12 e13
                  obtain ⟨ce, _, hM, hcc, hfr⟩ := Kd.R_elem HQ.out.mem.sts z167 (i : Int) (by omega) (by omega)
                  have hsb := HQ.out.svb i hil
                  have hat := admL_at ss rs t x.sv i i (by have := HQ.out.ls; rw [admL_len] at this; omega)
                  rw [if_neg (by omega)] at hat
                  rw [hat] at hsb
                  rw [Int.toNat_natCast, l5L_at _ _ _ _ hil, hat] at hM
                  obtain ⟨s, hs⟩ : ∃ s, s = x.sv.getD i zSv := ⟨_, rfl⟩
                  rw [← hs] at hM hsb hat
                  have hce := k167_openM hM
                  subst hce
                  have esz : k167.sz = 5 := rfl
                  simp only [Int.toNat_natCast, esz] at hcc hfr
                  have z0 : wr.cell? ⟨gs, i * 5, none⟩ = some (.int .i64 s.left) := hcc 0 _ rfl
                  have z1 : wr.cell? ⟨gs, i * 5 + 1, none⟩ = some (.int .i64 s.dl) := hcc 1 _ rfl
                  have z2 : wr.cell? ⟨gs, i * 5 + 2, none⟩ = some (.int .i64 s.came) := hcc 2 _ rfl
                  have z3 : wr.cell? ⟨gs, i * 5 + 3, none⟩ = some (.int .i64 s.hd) := hcc 3 _ rfl
                  have z4 : wr.cell? ⟨gs, i * 5 + 4, none⟩ = some (.int .i64 (l5R (svA rs i) s)) := hcc 4 _ rfl
                  obtain ⟨ads, es, hx0, hx1⟩ := at_T109 (Kd.C_below HR1.out HQ.out.mem.bw) (i : Int) (by omega) (by omega)
                  cases es
                  simp only [Int.toNat_natCast] at hx0 hx1
                  have hrd : rd_T109 ss (i : Int) = svX ss i := rfl
                  rw [hrd] at hx0 hx1
                  obtain ⟨ad, B, d, er, hcv, _, hK⟩ := rowA_at HR2.out i (by omega)
                  cases er
                  have hcv : w.cell? (ad.add i) = some (.slice B (svA rs i).length d) := hcv
                  have hcw := (HQ.out.mem.bw.cell (World.block_lt_of_cell? _ _ hcv)).trans hcv
                  have HAR := Lib.hid (fun V (hV : Below w.heap.size w V) => l5Arrive_calls (svX ss i).f0 (svX ss i).f1 (t : Int) B d (svA rs i) s V hsb (Kd.C_below hK hV) (by omega) (by omega))
                  have p0 : 0 ≤ (i : Int) := by omega
                  have p1 : (i : Int) < (ss.length : Int) := by omega
                  have p2 : 0 ≤ (t : Int) := by omega
                  have hsb2 := hsb.adm (now := t) (by omega) (by omega)
                  have hnx : admL ss rs t x.sv (i + 1) = (admL ss rs t x.sv i).set i (adm (svX ss i).f0 (svX ss i).f1 t (svA rs i) s) := by rw [hs]; rfl
                  have HSB := Lib.hid hsb2
                  have HNX := Lib.hid hnx
                  obtain ⟨s2, hs2⟩ : ∃ s2, s2 = adm (svX ss i).f0 (svX ss i).f1 t (svA rs i) s := ⟨_, rfl⟩
                  rw [← hs2] at HAR HSB HNX
                  obtain ⟨r, hr⟩ : ∃ r, r = l5R (svA rs i) s := ⟨_, rfl⟩
                  rw [← hr] at HAR z4
                  obtain ⟨r2, hr2⟩ : ∃ r2, r2 = l5R (svA rs i) s2 := ⟨_, rfl⟩
                  rw [← hr2] at HAR
                  have HR2E := Lib.hid hr2
                  obtain ⟨L, hL⟩ : ∃ L, L = (svA rs i).length := ⟨_, rfl⟩
                  rw [← hL] at HAR hcw
                  obtain ⟨xb, hxb⟩ : ∃ xb, xb = (svX ss i).f0 := ⟨_, rfl⟩
                  obtain ⟨xp, hxp⟩ : ∃ xp, xp = (svX ss i).f1 := ⟨_, rfl⟩
                  rw [← hxb] at hx0 HAR
                  rw [← hxp] at hx1 HAR
                  obtain ⟨sl, sd', sc, sh, sn⟩ := s
                  simp only at z0 z1 z2 z3 HAR
                  have hbW := HQ.out.mem.bw
                  have HBW := Lib.hid hbW
                  have hzc : ∀ V, Below wr.heap.size wr V → (V.frozen? ⟨gs, i * 5, none⟩ = false ∧ V.frozen? ⟨gs, i * 5 + 1, none⟩ = false ∧ V.frozen? ⟨gs, i * 5 + 2, none⟩ = false ∧ V.frozen? ⟨gs, i * 5 + 3, none⟩ = false ∧ V.frozen? ⟨gs, i * 5 + 4, none⟩ = false) ∧ ((V.cell? ⟨gs, i * 5, none⟩ = some (.int .i64 sl) ∧ V.cell? ⟨gs, i * 5 + 1, none⟩ = some (.int .i64 sd')) ∧ (V.cell? ⟨gs, i * 5 + 2, none⟩ = some (.int .i64 sc) ∧ V.cell? ⟨gs, i * 5 + 3, none⟩ = some (.int .i64 sh)) ∧ V.cell? ⟨gs, i * 5 + 4, none⟩ = some (.int .i64 r)) := fun V hV => by
                    have hfz : ∀ j, V.frozen? ⟨gs, i * 5 + j, none⟩ = false := fun j => (World.frozen?_of_block (hV.block gs (World.block_lt_of_cell? _ _ z0))).trans (hfr j)
                    exact ⟨⟨hfz 0, hfz 1, hfz 2, hfz 3, hfz 4⟩, ⟨(hV.cell (World.block_lt_of_cell? _ _ z0)).trans z0, (hV.cell (World.block_lt_of_cell? _ _ z1)).trans z1⟩, ⟨(hV.cell (World.block_lt_of_cell? _ _ z2)).trans z2, (hV.cell (World.block_lt_of_cell? _ _ z3)).trans z3⟩, (hV.cell (World.block_lt_of_cell? _ _ z4)).trans z4⟩
                  have HZC := Lib.hid hzc
                  clear hzc hat hM hcc hfr hsb hs hK hcv hrd hr hr2 hL hxb hxp hs2 hsb2 hnx hbW
                  go_wp2_with fail
                  go_region_with (first | (go_at_call 139; refine (HAR.out _ (below_drew HBW.out)).mono ?_; rintro e w5 ⟨rfl, hb5⟩; have HB5 := Lib.hid hb5; have hz5 := HZC.out w5 (by repeat (first | exact Below.refl _ _ | refine below_step ?_ hb5 | apply below_drew | apply pw_below_drewN)); clear hb5))
                  all_goals
                    have hb6 : Below wr.heap.size wr w5 := by repeat (first | exact Below.refl _ _ | refine below_step ?_ HB5.out | apply below_drew | apply pw_below_drewN)
                    have hm6 := (HQ.out.mem.below hb6).sput hil (l5S (svA rs i) s2)
                    rw [l5L_set _ _ _ _ hil HQ.out.ls, ← HNX.out] at hm6
                    have hm7 : L5M w (((((w5.setCell ⟨gs, i * 5, none⟩ (.int .i64 s2.left)).setCell ⟨gs, i * 5 + 1, none⟩ (.int .i64 s2.dl)).setCell ⟨gs, i * 5 + 2, none⟩ (.int .i64 s2.came)).setCell ⟨gs, i * 5 + 3, none⟩ (.int .i64 s2.hd)).setCell ⟨gs, i * 5 + 4, none⟩ (.int .i64 r2)) go #[vr, (.slice A3 jobs.length c3), vc, (.slice AS ss.length cS)] w.heap.size [(.slice A8 jobs.length c8), (.slice A9 jobs.length c9), vr, (.slice A3 jobs.length c3), vc, nilV] [leftL jobs done, K0, run.take t, fin, x.ch.take t, []] (.slice (some ⟨gs, 0, none⟩) ss.length c11) (l5L rs (admL ss rs t x.sv (i + 1)) ss.length) (.slice AS ss.length cS) x.sd := by rw [HR2E.out]; exact hm6
                    have hq7 : L5Q w (((((w5.setCell ⟨gs, i * 5, none⟩ (.int .i64 s2.left)).setCell ⟨gs, i * 5 + 1, none⟩ (.int .i64 s2.dl)).setCell ⟨gs, i * 5 + 2, none⟩ (.int .i64 s2.came)).setCell ⟨gs, i * 5 + 3, none⟩ (.int .i64 s2.hd)).setCell ⟨gs, i * 5 + 4, none⟩ (.int .i64 r2)) go w.heap.size (.slice A8 jobs.length c8) (.slice A9 jobs.length c9) (.slice (some ⟨gs, 0, none⟩) ss.length c11) (.slice A3 jobs.length c3) vr vc (.slice AS ss.length cS) jobs K0 ss rs (x, done, run, fin) (admL ss rs t x.sv (i + 1)) t := ⟨hm7, fun j hj => by
                      rw [HNX.out, getD_setS]
                      by_cases e : i = j
                      · subst e; rw [if_pos ⟨rfl, by rw [HQ.out.ls]; exact hil⟩]; exact HSB.out
                      · rw [if_neg (by omega)]; exact HQ.out.svb j hj, by rw [HNX.out, List.length_set]; exact HQ.out.ls, HQ.out.lc, HQ.out.ld, HQ.out.le, HQ.out.lz⟩
                    have HQ7 := Aside0.mk hq7
                    clear hb6 hm6 hm7 hq7 hz5 HB5 HQ HAR HZC z0 z1 z2 z3 z4 hx0 hx1 hcw
                    go_wp2_with fail
                    go_roundw
                    case rel => exact ⟨i + 1, by go_num, by omega, HQ7⟩
                    case measure => simp [intOf]; omega
                · have b5 : decide ((i : Int) < (ss.length : Int)) = false := decide_eq_false (by omega)
                  obtain rfl : i = ss.length := by omega
                  have hq := HQ.out
                  have hvl : (admL ss rs t x.sv ss.length).length = ss.length := hq.ls
                  have hdl : ∀ i, i < ss.length → ((admL ss rs t x.sv ss.length).getD i zSv).dl < 1073741824 := fun i hi => by
                    have hb := hq.svb i hi
                    have h1 := hb.d1
                    have h2 := hb.h1
                    have h3 := hb.c1
                    have h4 := hb.rl
                    have h5 : ((admL ss rs t x.sv ss.length).getD i zSv).dn ≤ 20 := by
                      by_cases h : ((admL ss rs t x.sv ss.length).getD i zSv).hd < ((admL ss rs t x.sv ss.length).getD i zSv).came
                      · have h6 := hb.n1 h
                        have h7 := hb.rx _ hb.h0 (by omega)
                        omega
                      · have h6 := hb.n2 (by omega)
                        omega
                    omega
                  have hjo := edfJ_ok jobs done t hlen.1
                  have hkb : -1 ≤ chN (admL ss rs t x.sv ss.length) ss.length ∧ chN (admL ss rs t x.sv ss.length) ss.length < ss.length := bestN_in (fun i => pendS ((admL ss rs t x.sv ss.length).getD i zSv)) (fun i => ((admL ss rs t x.sv ss.length).getD i zSv).dl) ss.length
                  have hkp : 0 ≤ chN (admL ss rs t x.sv ss.length) ss.length → pendS ((admL ss rs t x.sv ss.length).getD (chN (admL ss rs t x.sv ss.length) ss.length).toNat zSv) = true := bestN_ok (fun i => pendS ((admL ss rs t x.sv ss.length).getD i zSv)) (fun i => ((admL ss rs t x.sv ss.length).getD i zSv).dl) ss.length
                  have hpk : srvPick ss rs jobs x done t = srvK ss rs jobs (admL ss rs t x.sv ss.length) x.ch x.sd (edfJ jobs done t) (chN (admL ss rs t x.sv ss.length) ss.length) t := rfl
                  have hway := srvK_cases ss rs jobs (admL ss rs t x.sv ss.length) x.ch x.sd (edfJ jobs done t) (chN (admL ss rs t x.sv ss.length) ss.length) t hkb.1
                  rw [← hpk] at hway
                  have hK := l5Pick_K jobs rs (admL ss rs t x.sv ss.length) ss.length (edfJ jobs done t) hdl
                  have hrow0 := Kd.R_reads' (hq.mem.fam.row 0 (by show 0 < 6; omega))
                  have hrow1 := Kd.R_reads' (hq.mem.fam.row 1 (by show 1 < 6; omega))
                  have hbest := l5Best_calls A0 c0 jobs A8 c8 done A9 c9 K0 t wr (Kd.C_below HR0.out hq.mem.bw) HC0.out hj (by have := hrow0.2.2; rw [show ([leftL jobs done, K0, run.take t, fin, x.ch.take t, []] : List (List Int)).getD 0 [] = leftL jobs done from rfl, leftL_len] at this; exact this) hrow0.2.1 (by have := hrow1.2.2; rw [show ([leftL jobs done, K0, run.take t, fin, x.ch.take t, []] : List (List Int)).getD 1 [] = K0 from rfl, hK0] at this; exact this) hrow1.2.1 hK0 HKK.out.2
                  have hlb := hq.lz t (Nat.le_refl _) htl
                  obtain ⟨v, hv⟩ : ∃ v, v = admL ss rs t x.sv ss.length := ⟨_, rfl⟩
                  rw [← hv] at hvl hdl hkb hkp hpk hway hK HQ
                  obtain ⟨k, hk⟩ : ∃ k, k = chN v ss.length := ⟨_, rfl⟩
                  rw [← hk] at hkb hkp hpk hway hK
                  obtain ⟨j, hjj⟩ : ∃ j, j = edfJ jobs done t := ⟨_, rfl⟩
                  rw [← hjj] at hjo hpk hway hK hbest
                  have HBEST := Lib.hid hbest
                  have HWAY := Lib.hid hway
                  have HJO := Lib.hid hjo
                  have HKB := Lib.hid hkb
                  have HKP := Lib.hid hkp
                  have HLB := Lib.hid hlb
                  obtain ⟨kk, hkk⟩ : ∃ kk, kk = l5K jobs v j k := ⟨_, rfl⟩
                  rw [← hkk] at hK
                  have HKE := Lib.hid hkk
                  have HKQ := Lib.hid hK
                  clear hq hdl hkb hkp hpk hway hrow0 hrow1 hbest hv hk hjj hkk hK hlb
                  go_upto_if 114 with (go_at_call 140; refine HBEST.out.mono ?_; rintro e w5 ⟨rfl, md, rfl⟩)
                  have HM := Aside0.mk (HQ.out.mem.drewN md)
                  clear HBEST
                  generalize World.drewN wr md = w5 at HM ⊢
                  go_cut [18] from 114 to 118 (fun v18 wc => v18 = .int .i64 (if 0 ≤ j then (jobs.getD j.toNat z67).f2 else 1073741824) ∧ wc = w5)
                  case first =>
                    clear HQ
                    by_cases h0 : 0 ≤ j
                    · obtain ⟨m, rfl⟩ : ∃ m : Nat, j = (m : Int) := ⟨j.toNat, by omega⟩
                      have hjo := HJO.out
                      have hml : m < jobs.length := by omega
                      have hC : Kd.C (Kd.int .i64) w5 A9 K0.length K0 := (Kd.R_reads' (HM.out.fam.row 1 (by show 1 < 6; omega))).2.2
                      obtain ⟨ad9, e9, hx9⟩ := Kd.at_int hC (m : Int) (by omega) (by omega)
                      cases e9
                      have hrd : rd K0 (m : Int) = (jobs.getD m z67).f2 := HKK.out.2 m hml
                      rw [hrd, Int.toNat_natCast] at hx9
                      obtain ⟨y, hy⟩ : ∃ y, y = (jobs.getD m z67).f2 := ⟨_, rfl⟩
                      rw [← hy] at hx9
                      have HY := Lib.hid hy
                      have h0b : decide ((m : Int) ≥ 0) = true := decide_eq_true (by omega)
                      have p3 : 0 ≤ (m : Int) := by omega
                      have p4 : (m : Int) < (jobs.length : Int) := by omega
                      clear hjo hC hrd hy h0 HM
                      go_wp2_with fail
                      go_meet
                      exact ⟨by rw [if_pos p3, Int.toNat_natCast, HY.out], rfl⟩
                    · have h0b : decide (j ≥ 0) = false := decide_eq_false (by omega)
                      have H0N := Lib.hid h0
                      clear h0 HM
                      go_wp2_with fail
                      go_meet
                      exact ⟨by rw [if_neg (by have := H0N.out; omega)], rfl⟩
                  case rest =>
                    obtain ⟨rfl, rfl⟩ := hcut
                    have hC11 := (Kd.R_reads' HM.out.sts).2.2
                    have hpick := l5Pick_calls A11 c11 (l5L rs v ss.length) (if 0 ≤ j then (jobs.getD j.toNat z67).f2 else 1073741824) wc hC11 (by rw [l5L_len]; exact h2)
                    rw [l5L_len, show bestN (ok5 (l5L rs v ss.length) (if 0 ≤ j then (jobs.getD j.toNat z67).f2 else 1073741824)) (dl5 (l5L rs v ss.length)) ss.length = kk from HKQ.out] at hpick
                    have HPICK := Lib.hid hpick
                    generalize (if 0 ≤ j then (jobs.getD j.toNat z67).f2 else 1073741824) = lim at HPICK ⊢
                    have hctl : (x.ch.take t).length ≤ 120 := by rw [List.length_take]; omega
                    obtain ⟨CT, hCT⟩ : ∃ CT, CT = x.ch.take t := ⟨_, rfl⟩
                    rw [← hCT] at HM hctl
                    have HCT := Lib.hid hCT
                    obtain ⟨Bc0, dc0, ec0⟩ := Kd.R_slice (HM.out.fam.row 4 (by show 4 < 6; omega))
                    clear hC11 hpick hCT ec0
                    go_upto_region 33 with (first | (go_at_call 141; refine HPICK.out.mono ?_; rintro e w6 ⟨rfl, hb⟩; have HM2 := Aside0.mk (HM.out.below hb); have zc0 : w6.cell? ⟨go, 2, none⟩ = some vc := (blk_cell HM2.out.bo 2).trans rfl; clear hb HM) | ((with_reducible refine gate_builtin (b := .append) (xs := #[.tmp 123, .tmp 125]) rfl ?_); at_builtin; refine Kd.R_append (Kd.int .i64) (w0 := w) w.heap.size rfl (.tmp 123) (.tmp 125) 30 3 (.int .i64 0) 8 rfl Try.underlying30 info3 rfl (by decide) (by omega) vc CT kk [.int .i64 kk] (fun _ => True) (fun _ => False) rfl rfl rfl (fun _ hk => hk.elim) (fun _ _ => trivial) (HM2.out.fam.row 4 (by show 4 < 6; omega)) HM2.out.bw HM2.out.bw.size (by omega) ?_; intro vcb w7 ho hb hg hat; obtain ⟨Bc, dc, ec⟩ := Kd.R_slice ho; subst ec; have HM3 : Aside0 (L5M w w7 go #[vr, (.slice A3 jobs.length c3), vc, (.slice AS ss.length cS)] w.heap.size [(.slice A8 jobs.length c8), (.slice A9 jobs.length c9), vr, (.slice A3 jobs.length c3), .slice Bc (CT ++ [kk]).length dc, nilV] [leftL jobs done, K0, run.take t, fin, CT ++ [kk], []] (.slice A11 ss.length c11) (l5L rs v ss.length) (.slice AS ss.length cS) x.sd) := ⟨HM2.out.app (i := 4) (by show 4 < 6; omega) ho hb hg hat⟩; have zc : w7.cell? ⟨go, 2, none⟩ = some vc := (blk_cell HM3.out.bo 2).trans rfl; have zcf := blk_frozen HM3.out.bo 2; clear HM2 ho hb hg hat))
                    have HM4 : Aside0 (L5M w (w7.setCell ⟨go, 2, none⟩ (.slice Bc (CT.length + 1) dc)) go #[vr, (.slice A3 jobs.length c3), .slice Bc (CT.length + 1) dc, (.slice AS ss.length cS)] w.heap.size [(.slice A8 jobs.length c8), (.slice A9 jobs.length c9), vr, (.slice A3 jobs.length c3), .slice Bc (CT.length + 1) dc, nilV] [leftL jobs done, K0, run.take t, fin, CT ++ [kk], []] (.slice A11 ss.length c11) (l5L rs v ss.length) (.slice AS ss.length cS) x.sd) := ⟨by have h := HM3.out.box 2 (.slice Bc (CT ++ [kk]).length dc); simp only [List.length_append, List.length_singleton] at h; exact h⟩
                    clear HM3 zc zcf
                    generalize World.setCell w7 _ _ = w8 at HM4 ⊢
                    generalize Value.slice Bc (CT.length + 1) dc = vc2 at HM4
                    have hrtl : (run.take t).length ≤ 120 := by rw [List.length_take]; omega
                    obtain ⟨RT, hRT⟩ : ∃ RT, RT = run.take t := ⟨_, rfl⟩
                    rw [← hRT] at HM4 hrtl
                    have HRT := Lib.hid hRT
                    obtain ⟨Br0, dr0, er0⟩ := Kd.R_slice (HM4.out.fam.row 2 (by show 2 < 6; omega))
                    have zr0 : w8.cell? ⟨go, 0, none⟩ = some vr := (blk_cell HM4.out.bo 0).trans rfl
                    have hsim : simN jobs (srvPick ss rs jobs) (srv00 ss rs) (t + 1) = simStep jobs (srvPick ss rs jobs) t (x, done, run, fin) := by rw [hX]; rfl
                    unfold simStep at hsim
                    simp only at hsim
                    clear hRT er0
                    rcases HWAY.out with ⟨hkk, hrr⟩ | ⟨hk0, hkk, hrr⟩
                    · have hkk1 : kk = -1 := HKE.out.trans hkk
                      subst hkk1
                      rw [hrr] at hsim
                      simp only at hsim
                      have HSIM := Lib.hid hsim
                      clear hkk hrr hsim
                      have hch : CT ++ [-1] = x.ch.take (t + 1) := by rw [HCT.out]; exact take_same1 (by rw [HQ.out.lc]; exact htl) HLB.out
                      have HCH := Lib.hid hch
                      clear hch
                      go_upto_region 40 with ((with_reducible refine gate_builtin (b := .append) (xs := #[.tmp 176, .tmp 178]) rfl ?_); at_builtin; refine Kd.R_append (Kd.int .i64) (w0 := w) w.heap.size rfl (.tmp 176) (.tmp 178) 30 3 (.int .i64 0) 8 rfl Try.underlying30 info3 rfl (by decide) (by omega) vr RT j [.int .i64 j] (fun _ => True) (fun _ => False) rfl rfl rfl (fun _ hk => hk.elim) (fun _ _ => trivial) (HM4.out.fam.row 2 (by show 2 < 6; omega)) HM4.out.bw HM4.out.bw.size (by omega) ?_; intro vrb w9 ho hb hg hat; obtain ⟨Br, dr, er⟩ := Kd.R_slice ho; subst er; have HM5 : Aside0 (L5M w w9 go #[vr, (.slice A3 jobs.length c3), vc2, (.slice AS ss.length cS)] w.heap.size [(.slice A8 jobs.length c8), (.slice A9 jobs.length c9), .slice Br (RT ++ [j]).length dr, (.slice A3 jobs.length c3), vc2, nilV] [leftL jobs done, K0, RT ++ [j], fin, CT ++ [-1], []] (.slice A11 ss.length c11) (l5L rs v ss.length) (.slice AS ss.length cS) x.sd) := ⟨HM4.out.app (i := 2) (by show 2 < 6; omega) ho hb hg hat⟩; have zr : w9.cell? ⟨go, 0, none⟩ = some vr := (blk_cell HM5.out.bo 0).trans rfl; have zrf := blk_frozen HM5.out.bo 0; clear HM4 ho hb hg hat)
                      have HM6 : Aside0 (L5M w (w9.setCell ⟨go, 0, none⟩ (.slice Br (RT.length + 1) dr)) go #[.slice Br (RT.length + 1) dr, (.slice A3 jobs.length c3), vc2, (.slice AS ss.length cS)] w.heap.size [(.slice A8 jobs.length c8), (.slice A9 jobs.length c9), .slice Br (RT.length + 1) dr, (.slice A3 jobs.length c3), vc2, nilV] [leftL jobs done, K0, (run.set t j).take (t + 1), fin, x.ch.take (t + 1), []] (.slice A11 ss.length c11) (l5L rs v ss.length) (.slice AS ss.length cS) x.sd) := ⟨by have h := HM5.out.box 0 (.slice Br (RT ++ [j]).length dr); simp only [List.length_append, List.length_singleton] at h; rw [HCH.out, HRT.out, set_takeS (by omega), ← HRT.out] at h; exact h⟩
                      clear HM5 zr zrf
                      generalize World.setCell w9 _ _ = wa at HM6 ⊢
                      generalize Value.slice Br (RT.length + 1) dr = vr2 at HM6
                      by_cases h0 : j < 0
                      · have h0b : decide (j ≥ 0) = false := decide_eq_false (by omega)
                        have hst := HSIM.out
                        rw [if_pos h0] at hst
                        have HST := Lib.hid hst
                        clear hst h0
                        go_wp2_with fail
                        go_roundw
                        case rel => exact ⟨t + 1, vr2, vc2, by go_num, by omega, by rw [HST.out]; exact ⟨⟨HM6.out, HQ.out.svb, HQ.out.ls, HQ.out.lc, HQ.out.ld, HQ.out.le, fun i hi => HQ.out.lz i (by omega)⟩⟩⟩
                        case measure => simp [intOf]; omega
                      · obtain ⟨m, rfl⟩ : ∃ m : Nat, j = (m : Int) := ⟨j.toNat, by omega⟩
                        have hjo := HJO.out
                        have hml : m < jobs.length := by omega
                        have hdx := hjo.2.2 (by omega)
                        rw [Int.toNat_natCast] at hdx
                        have hst := HSIM.out
                        rw [if_neg h0, Int.toNat_natCast] at hst
                        have hdn := simN_done (srvPick_ok ss rs jobs) hex (s0 := srv00 ss rs) t m
                        rw [← hX] at hdn
                        simp only at hdn
                        have hex8 := hex m hml
                        obtain ⟨g8, d8', e8', _⟩ := Kd.R_form (HM6.out.fam.row 0 (by show 0 < 6; omega)) (by rw [show ([leftL jobs done, K0, (run.set t (m : Int)).take (t + 1), fin, x.ch.take (t + 1), []] : List (List Int)).getD 0 [] = leftL jobs done from rfl, leftL_len]; omega)
                        replace e8' : Value.slice A8 jobs.length c8 = .slice (some ⟨g8, 0, none⟩) (leftL jobs done).length d8' := e8'
                        injection e8' with e8a e8b e8c
                        subst e8a
                        clear e8b e8c
                        have hr0 : Kd.R (Kd.int .i64) 3 wa w.heap.size (fun _ => True) (.slice (some ⟨g8, 0, none⟩) jobs.length c8) (leftL jobs done) := HM6.out.fam.row 0 (by show 0 < 6; omega)
                        have hx0 : wa.cell? ⟨g8, m, none⟩ = some (.int .i64 ((leftL jobs done).getD m 0)) := (Kd.R_celln 0 hr0 (m : Int) (by omega) (by omega)).1
                        have hxf0 : wa.frozen? ⟨g8, m, none⟩ = false := (Kd.R_celln 0 hr0 (m : Int) (by omega) (by omega)).2
                        rw [leftL_at jobs done hml] at hx0
                        have hls := leftL_set jobs done hlen.1 hml
                        have hjbe : jb jobs m = jobs.getD m z67 := rfl
                        rw [hjbe] at hx0 hls
                        obtain ⟨y, hy⟩ : ∃ y, y = (jobs.getD m z67).f3 := ⟨_, rfl⟩
                        rw [← hy] at hx0 hls hdx hst hex8
                        obtain ⟨dm, hdm⟩ : ∃ dm, dm = done.getD m 0 := ⟨_, rfl⟩
                        rw [← hdm] at hx0 hls hdx hst hdn
                        have HLS := Lib.hid hls
                        have h0b : decide ((m : Int) ≥ 0) = true := decide_eq_true (by omega)
                        have p3 : 0 ≤ (m : Int) := by omega
                        have p4 : (m : Int) < (jobs.length : Int) := by omega
                        have w1_ : IntKind.i64.wrap (y - dm - 1) = y - dm - 1 := i64_sm (by omega) (by omega)
                        have w2_ : IntKind.i64.wrap ((t : Int) + 1) = (t : Int) + 1 := i64_sm (by omega) (by omega)
                        have hm7 := HM6.out.put (i := 0) (by show 0 < 6; omega) rfl (m : Int) (y - dm - 1)
                        have hm7 : L5M w (wa.setCell ⟨g8, m, none⟩ (.int .i64 (y - dm - 1))) go #[vr2, (.slice A3 jobs.length c3), vc2, (.slice AS ss.length cS)] w.heap.size [(.slice (some ⟨g8, 0, none⟩) jobs.length c8), (.slice A9 jobs.length c9), vr2, (.slice A3 jobs.length c3), vc2, nilV] [leftL jobs (done.set m (dm + 1)), K0, (run.set t (m : Int)).take (t + 1), fin, x.ch.take (t + 1), []] (.slice A11 ss.length c11) (l5L rs v ss.length) (.slice AS ss.length cS) x.sd := by rw [← HLS.out]; exact hm7
                        have HM7 := Aside0.mk hm7
                        have HDE := Lib.hid (And.intro hdx hdn)
                        clear hr0 hls hjbe hy hdm hm7 hjo h0 hdn hdx hex8
                        by_cases he : dm + 1 = y
                        · have heb : (y - dm - 1 == 0) = true := by rw [beq_iff_eq]; omega
                          rw [if_pos he] at hst
                          have HST := Lib.hid hst
                          clear hst he
                          go_upto_region 43 with (fail)
                          clear hx0 hxf0 w1_
                          generalize World.setCell wa _ _ = wb at HM7 ⊢
                          obtain ⟨g3, d3', e3', _⟩ := Kd.R_form (HM7.out.fam.row 3 (by show 3 < 6; omega)) (by rw [show ([leftL jobs (done.set m (dm + 1)), K0, (run.set t (m : Int)).take (t + 1), fin, x.ch.take (t + 1), []] : List (List Int)).getD 3 [] = fin from rfl]; omega)
                          replace e3' : Value.slice A3 jobs.length c3 = .slice (some ⟨g3, 0, none⟩) fin.length d3' := e3'
                          injection e3' with e3a e3b e3c
                          subst e3a
                          clear e3b e3c
                          have hr3 : Kd.R (Kd.int .i64) 3 wb w.heap.size (fun _ => True) (.slice (some ⟨g3, 0, none⟩) jobs.length c3) fin := HM7.out.fam.row 3 (by show 3 < 6; omega)
                          have hx3 := (Kd.R_celln 0 hr3 (m : Int) (by omega) (by omega)).1
                          have hxf3 := (Kd.R_celln 0 hr3 (m : Int) (by omega) (by omega)).2
                          simp only [Int.toNat_natCast] at hx3 hxf3
                          have z1 : wb.cell? ⟨go, 1, none⟩ = some (.slice (some ⟨g3, 0, none⟩) jobs.length c3) := (blk_cell HM7.out.bo 1).trans rfl
                          have hm8 : L5M w (wb.setCell ⟨g3, m, none⟩ (.int .i64 ((t : Int) + 1))) go #[vr2, (.slice (some ⟨g3, 0, none⟩) jobs.length c3), vc2, (.slice AS ss.length cS)] w.heap.size [(.slice (some ⟨g8, 0, none⟩) jobs.length c8), (.slice A9 jobs.length c9), vr2, (.slice (some ⟨g3, 0, none⟩) jobs.length c3), vc2, nilV] [leftL jobs (done.set m (dm + 1)), K0, (run.set t (m : Int)).take (t + 1), fin.set m ((t : Int) + 1), x.ch.take (t + 1), []] (.slice A11 ss.length c11) (l5L rs v ss.length) (.slice AS ss.length cS) x.sd := HM7.out.put (i := 3) (by show 3 < 6; omega) rfl (m : Int) ((t : Int) + 1)
                          have HM8 := Aside0.mk hm8
                          clear hr3 hm8
                          go_wp2_with fail
                          go_roundw
                          case rel => exact ⟨t + 1, vr2, vc2, by go_num, by omega, by rw [HST.out]; exact ⟨⟨HM8.out, HQ.out.svb, HQ.out.ls, HQ.out.lc, HQ.out.ld, HQ.out.le, fun i hi => HQ.out.lz i (by omega)⟩⟩⟩
                          case measure => simp [intOf]; omega
                        · have hd2 := HDE.out
                          have heb : (y - dm - 1 == 0) = false := by rw [beq_eq_false_iff_ne]; omega
                          rw [if_neg he] at hst
                          have HST := Lib.hid hst
                          clear hst he hd2
                          go_wp2_with fail
                          go_roundw
                          case rel => exact ⟨t + 1, vr2, vc2, by go_num, by omega, by rw [HST.out]; exact ⟨⟨HM7.out, HQ.out.svb, HQ.out.ls, HQ.out.lc, HQ.out.ld, HQ.out.le, fun i hi => HQ.out.lz i (by omega)⟩⟩⟩
                          case measure => simp [intOf]; omega
                    · obtain ⟨qq, rfl⟩ : ∃ n : Nat, k = (n : Int) := ⟨k.toNat, by omega⟩
                      have hkk1 : kk = (qq : Int) := HKE.out.trans hkk
                      subst hkk1
                      rw [hrr, Int.toNat_natCast] at hsim
                      simp only at hsim
                      rw [if_pos (by decide)] at hsim
                      have hkb := HKB.out
                      have hql : qq < ss.length := by omega
                      have hpd := HKP.out (by omega)
                      rw [Int.toNat_natCast] at hpd
                      have hpd := of_decide_eq_true hpd
                      have hsb := HQ.out.svb qq hql
                      have hle := HQ.out.le qq hql
                      obtain ⟨gs, cap, e11, _⟩ := Kd.R_form HM4.out.sts (by rw [l5L_len]; omega)
                      replace e11 : Value.slice A11 ss.length c11 = .slice (some ⟨gs, 0, none⟩) (l5L rs v ss.length).length cap := e11
                      injection e11 with e11 e12 e13
                      subst e11
                      clear e12 e13
                      obtain ⟨gS, capS, eS, _⟩ := Kd.S_form HM4.out.sd (by rw [HQ.out.ld]; omega)
                      replace eS : Value.slice AS ss.length cS = .slice (some ⟨gS, 0, none⟩) x.sd.length capS := eS
                      injection eS with eS eS2 eS3
                      subst eS
                      clear eS2 eS3
                      obtain ⟨ce, _, hM, hcc, hfr⟩ := Kd.R_elem HM4.out.sts z167 (qq : Int) (by omega) (by omega)
                      rw [Int.toNat_natCast, l5L_at _ _ _ _ hql] at hM
                      obtain ⟨s, hs⟩ : ∃ s, s = v.getD qq zSv := ⟨_, rfl⟩
                      rw [← hs] at hM hsb hpd hsim
                      have hce := k167_openM hM
                      subst hce
                      have esz : k167.sz = 5 := rfl
                      simp only [Int.toNat_natCast, esz] at hcc hfr
                      have z0 : w8.cell? ⟨gs, qq * 5, none⟩ = some (.int .i64 s.left) := hcc 0 _ rfl
                      have z1 : w8.cell? ⟨gs, qq * 5 + 1, none⟩ = some (.int .i64 s.dl) := hcc 1 _ rfl
                      have z2 : w8.cell? ⟨gs, qq * 5 + 2, none⟩ = some (.int .i64 s.came) := hcc 2 _ rfl
                      have z3 : w8.cell? ⟨gs, qq * 5 + 3, none⟩ = some (.int .i64 s.hd) := hcc 3 _ rfl
                      have z4 : w8.cell? ⟨gs, qq * 5 + 4, none⟩ = some (.int .i64 (l5R (svA rs qq) s)) := hcc 4 _ rfl
                      obtain ⟨ads, es, hx0, hx1⟩ := at_T109 (Kd.C_below HR1.out HM4.out.bw) (qq : Int) (by omega) (by omega)
                      cases es
                      simp only [Int.toNat_natCast] at hx0 hx1
                      have hrd : rd_T109 ss (qq : Int) = svX ss qq := rfl
                      rw [hrd] at hx0 hx1
                      obtain ⟨ad, B, d, er, hcv, _, hK⟩ := rowA_at HR2.out qq (by omega)
                      cases er
                      have hcv : w.cell? (ad.add qq) = some (.slice B (svA rs qq).length d) := hcv
                      have hcw := (HM4.out.bw.cell (World.block_lt_of_cell? _ _ hcv)).trans hcv
                      have HSE := Lib.hid (fun V (hV : Below w.heap.size w V) => l5Serve_calls (svX ss qq).f0 (svX ss qq).f1 B d (svA rs qq) s V hsb (Kd.C_below hK hV) hpd)
                      have p2 : 0 ≤ (qq : Int) := by omega
                      have p3 : (qq : Int) < (ss.length : Int) := by omega
                      have hsb2 := hsb.srv hpd
                      have hhd : (srvS (svX ss qq).f0 (svX ss qq).f1 (svA rs qq) s).hd = if srvF (svA rs qq) s = true then s.hd + 1 else s.hd := by
                        unfold srvS srvF
                        by_cases h : s.dn + 1 < (rd_T164 (svA rs qq) s.hd).f1
                        · rw [if_pos h, decide_eq_true h]; rfl
                        · rw [if_neg h, decide_eq_false h]; rfl
                      have hh0 : 0 ≤ s.hd ∧ s.hd < (svA rs qq).length := by
                        have h1 := hsb.h0
                        have h2 := hsb.c1
                        omega
                      obtain ⟨s2, hs2⟩ : ∃ s2, s2 = srvS (svX ss qq).f0 (svX ss qq).f1 (svA rs qq) s := ⟨_, rfl⟩
                      rw [← hs2] at HSE hsb2 hhd hsim
                      have HSVB2 : Hid (∀ i, i < ss.length → SvB (svX ss i).f0 (svX ss i).f1 (svA rs i) ((v.set qq s2).getD i zSv)) := Lib.hid (fun i hi => by
                        rw [getD_setS]
                        by_cases e : qq = i
                        · subst e; rw [if_pos ⟨rfl, by rw [hvl]; exact hi⟩]; exact hsb2
                        · rw [if_neg (by omega)]; exact HQ.out.svb i hi)
                      have HLZ2 : Hid (∀ i, t + 1 ≤ i → i < 120 → (x.ch.set t (qq : Int)).getD i 0 = -1) := Lib.hid (fun i hi1 hi2 => by
                        rw [getD_set', if_neg (by omega)]
                        exact HQ.out.lz i (by omega) hi2)
                      have hch : CT ++ [(qq : Int)] = (x.ch.set t (qq : Int)).take (t + 1) := by rw [HCT.out]; exact set_takeS (by rw [HQ.out.lc]; exact htl)
                      rw [hch] at HM4
                      obtain ⟨r, hr⟩ : ∃ r, r = l5R (svA rs qq) s := ⟨_, rfl⟩
                      rw [← hr] at HSE z4
                      obtain ⟨r2, hr2⟩ : ∃ r2, r2 = l5R (svA rs qq) s2 := ⟨_, rfl⟩
                      rw [← hr2] at HSE
                      have HR2E := Lib.hid hr2
                      have HSIM := Lib.hid hsim
                      have HHD := Lib.hid hhd
                      have HH0 := Lib.hid hh0
                      have HLE := Lib.hid hle
                      obtain ⟨L, hL⟩ : ∃ L, L = (svA rs qq).length := ⟨_, rfl⟩
                      rw [← hL] at HSE hcw
                      obtain ⟨xb, hxb⟩ : ∃ xb, xb = (svX ss qq).f0 := ⟨_, rfl⟩
                      obtain ⟨xp, hxp⟩ : ∃ xp, xp = (svX ss qq).f1 := ⟨_, rfl⟩
                      rw [← hxb] at hx0 HSE
                      rw [← hxp] at hx1 HSE
                      have HBW := Lib.hid HM4.out.bw
                      have hzc : ∀ V, Below w8.heap.size w8 V → (V.frozen? ⟨gs, qq * 5, none⟩ = false ∧ V.frozen? ⟨gs, qq * 5 + 1, none⟩ = false ∧ V.frozen? ⟨gs, qq * 5 + 2, none⟩ = false ∧ V.frozen? ⟨gs, qq * 5 + 3, none⟩ = false ∧ V.frozen? ⟨gs, qq * 5 + 4, none⟩ = false) ∧ ((V.cell? ⟨gs, qq * 5, none⟩ = some (.int .i64 s.left) ∧ V.cell? ⟨gs, qq * 5 + 1, none⟩ = some (.int .i64 s.dl)) ∧ (V.cell? ⟨gs, qq * 5 + 2, none⟩ = some (.int .i64 s.came) ∧ V.cell? ⟨gs, qq * 5 + 3, none⟩ = some (.int .i64 s.hd)) ∧ V.cell? ⟨gs, qq * 5 + 4, none⟩ = some (.int .i64 r)) := fun V hV => by
                        have hfz : ∀ j, V.frozen? ⟨gs, qq * 5 + j, none⟩ = false := fun j => (World.frozen?_of_block (hV.block gs (World.block_lt_of_cell? _ _ z0))).trans (hfr j)
                        exact ⟨⟨hfz 0, hfz 1, hfz 2, hfz 3, hfz 4⟩, ⟨(hV.cell (World.block_lt_of_cell? _ _ z0)).trans z0, (hV.cell (World.block_lt_of_cell? _ _ z1)).trans z1⟩, ⟨(hV.cell (World.block_lt_of_cell? _ _ z2)).trans z2, (hV.cell (World.block_lt_of_cell? _ _ z3)).trans z3⟩, (hV.cell (World.block_lt_of_cell? _ _ z4)).trans z4⟩
                      have HZC := Lib.hid hzc
                      have hqb : decide ((qq : Int) ≥ 0) = true := decide_eq_true (by omega)
                      clear hkk hrr hsim hkb hpd hsb hle hM hcc hfr hs hcv hK hrd hsb2 hhd hh0 hs2 hch hr hr2 hL hxb hxp hzc hk0
                      go_upto_region 35 with (fail)
                      go_cut [20] (fun v20 wc => v20 = .int .i64 s.hd ∧ Aside0 (L5M w wc go #[vr, (.slice A3 jobs.length c3), vc2, (.slice (some ⟨gS, 0, none⟩) ss.length cS)] w.heap.size [(.slice A8 jobs.length c8), (.slice A9 jobs.length c9), vr, (.slice A3 jobs.length c3), vc2, nilV] [leftL jobs done, K0, RT, fin, (x.ch.set t (qq : Int)).take (t + 1), []] (.slice (some ⟨gs, 0, none⟩) ss.length c11) (l5L rs (v.set qq s2) ss.length) (.slice (some ⟨gS, 0, none⟩) ss.length cS) x.sd))
                      case first =>
                        go_region_with (first | (go_at_call 142; refine (HSE.out _ (below_drew HBW.out)).mono ?_; rintro e w5 ⟨rfl, hb5⟩; have HB5 := Lib.hid hb5; have hz5 := HZC.out w5 (by repeat (first | exact Below.refl _ _ | refine below_step ?_ hb5 | apply below_drew | apply pw_below_drewN)); clear hb5))
                        all_goals
                          have hb6 : Below w8.heap.size w8 w5 := by repeat (first | exact Below.refl _ _ | refine below_step ?_ HB5.out | apply below_drew | apply pw_below_drewN)
                          have hm6 := (HM4.out.below hb6).sput hql (l5S (svA rs qq) s2)
                          rw [l5L_set _ _ _ _ hql hvl] at hm6
                          have hm7 : L5M w (((((w5.setCell ⟨gs, qq * 5, none⟩ (.int .i64 s2.left)).setCell ⟨gs, qq * 5 + 1, none⟩ (.int .i64 s2.dl)).setCell ⟨gs, qq * 5 + 2, none⟩ (.int .i64 s2.came)).setCell ⟨gs, qq * 5 + 3, none⟩ (.int .i64 s2.hd)).setCell ⟨gs, qq * 5 + 4, none⟩ (.int .i64 r2)) go #[vr, (.slice A3 jobs.length c3), vc2, (.slice (some ⟨gS, 0, none⟩) ss.length cS)] w.heap.size [(.slice A8 jobs.length c8), (.slice A9 jobs.length c9), vr, (.slice A3 jobs.length c3), vc2, nilV] [leftL jobs done, K0, RT, fin, (x.ch.set t (qq : Int)).take (t + 1), []] (.slice (some ⟨gs, 0, none⟩) ss.length c11) (l5L rs (v.set qq s2) ss.length) (.slice (some ⟨gS, 0, none⟩) ss.length cS) x.sd := by rw [HR2E.out]; exact hm6
                          have HM7 := Aside0.mk hm7
                          clear hb6 hm6 hm7 hz5 HB5 HM4 HSE HZC z0 z1 z2 z3 z4 hx0 hx1 hcw
                          go_wp2_with fail
                          go_meet
                          exact ⟨rfl, HM7⟩
                      case rest =>
                        obtain ⟨rfl, HM5⟩ := hcut
                        clear HM4 HSE HZC z0 z1 z2 z3 z4 hx0 hx1 hcw
                        obtain ⟨ce, _, hM, hcc, _⟩ := Kd.R_elem HM5.out.sts z167 (qq : Int) (by omega) (by omega)
                        rw [Int.toNat_natCast, l5L_at _ _ _ _ hql, getD_setS, if_pos ⟨rfl, by rw [hvl]; exact hql⟩] at hM
                        have hce := k167_openM hM
                        subst hce
                        have esz : k167.sz = 5 := rfl
                        simp only [Int.toNat_natCast, esz] at hcc
                        have z3 : wc.cell? ⟨gs, qq * 5 + 3, none⟩ = some (.int .i64 s2.hd) := hcc 3 _ rfl
                        have hhd := HHD.out
                        have hst := HSIM.out
                        obtain ⟨h2d, hh2⟩ : ∃ h2d, h2d = s2.hd := ⟨_, rfl⟩
                        rw [← hh2] at z3 hhd
                        obtain ⟨hd1, hh1⟩ : ∃ hd1, hd1 = s.hd := ⟨_, rfl⟩
                        have hh0 := HH0.out
                        rw [← hh1] at hhd hst hh0 ⊢
                        have w2_ : IntKind.i64.wrap ((t : Int) + 1) = (t : Int) + 1 := i64_sm (by omega) (by omega)
                        clear hM hcc hh2 hh1
                        cases hf : srvF (svA rs qq) s with
                        | false =>
                          rw [hf, if_neg (by decide)] at hhd
                          rw [hf, if_neg (by decide)] at hst
                          have HST := Lib.hid hst
                          have hgt : decide (h2d > hd1) = false := decide_eq_false (by omega)
                          have zr0 : wc.cell? ⟨go, 0, none⟩ = some vr := (blk_cell HM5.out.bo 0).trans rfl
                          clear hst hhd hf
                          go_upto_region 38 with (fail)
                          go_wp2_with ((with_reducible refine gate_builtin (b := .append) (xs := #[.tmp 169, .tmp 170]) rfl ?_); at_builtin; refine Kd.R_append (Kd.int .i64) (w0 := w) w.heap.size rfl (.tmp 169) (.tmp 170) 30 3 (.int .i64 0) 8 rfl Try.underlying30 info3 rfl (by decide) (by omega) vr RT (-1) [.int .i64 (-1)] (fun _ => True) (fun _ => False) rfl rfl rfl (fun _ hk => hk.elim) (fun _ _ => trivial) (HM5.out.fam.row 2 (by show 2 < 6; omega)) HM5.out.bw HM5.out.bw.size (by omega) ?_; intro vrb w9 ho hb hg hat; obtain ⟨Br, dr, er⟩ := Kd.R_slice ho; subst er; have HM9 : Aside0 (L5M w w9 go #[vr, (.slice A3 jobs.length c3), vc2, (.slice (some ⟨gS, 0, none⟩) ss.length cS)] w.heap.size [(.slice A8 jobs.length c8), (.slice A9 jobs.length c9), .slice Br (RT ++ [-1]).length dr, (.slice A3 jobs.length c3), vc2, nilV] [leftL jobs done, K0, RT ++ [-1], fin, (x.ch.set t (qq : Int)).take (t + 1), []] (.slice (some ⟨gs, 0, none⟩) ss.length c11) (l5L rs (v.set qq s2) ss.length) (.slice (some ⟨gS, 0, none⟩) ss.length cS) x.sd) := ⟨HM5.out.app (i := 2) (by show 2 < 6; omega) ho hb hg hat⟩; have zr : w9.cell? ⟨go, 0, none⟩ = some vr := (blk_cell HM9.out.bo 0).trans rfl; have zrf := blk_frozen HM9.out.bo 0; clear HM5 ho hb hg hat)
                          have HMa : Aside0 (L5M w (w9.setCell ⟨go, 0, none⟩ (.slice Br (RT.length + 1) dr)) go #[.slice Br (RT.length + 1) dr, (.slice A3 jobs.length c3), vc2, (.slice (some ⟨gS, 0, none⟩) ss.length cS)] w.heap.size [(.slice A8 jobs.length c8), (.slice A9 jobs.length c9), .slice Br (RT.length + 1) dr, (.slice A3 jobs.length c3), vc2, nilV] [leftL jobs done, K0, (run.set t (-1)).take (t + 1), fin, (x.ch.set t (qq : Int)).take (t + 1), []] (.slice (some ⟨gs, 0, none⟩) ss.length c11) (l5L rs (v.set qq s2) ss.length) (.slice (some ⟨gS, 0, none⟩) ss.length cS) x.sd) := ⟨by have h := HM9.out.box 0 (.slice Br (RT ++ [-1]).length dr); simp only [List.length_append, List.length_singleton] at h; rw [HRT.out, set_takeS (by omega), ← HRT.out] at h; exact h⟩
                          go_roundw
                          case rel => exact ⟨t + 1, _, vc2, by go_num, by omega, by rw [HST.out]; exact ⟨⟨HMa.out, HSVB2.out, by rw [List.length_set]; exact HQ.out.ls, by show (x.ch.set t _).length = 120; rw [List.length_set]; exact HQ.out.lc, HQ.out.ld, HQ.out.le, HLZ2.out⟩⟩⟩
                          case measure => simp [intOf]; omega
                        | true =>
                          rw [hf, if_pos rfl] at hhd
                          rw [hf, if_pos rfl] at hst
                          have HST := Lib.hid hst
                          have hgt : decide (h2d > hd1) = true := decide_eq_true (by omega)
                          obtain ⟨qr, dr2, zc1, zn1, zn2, zst⟩ := HM5.out.rowAt hql (by rw [HLE.out]; omega)
                          rw [HLE.out] at zc1 zst
                          obtain ⟨zfr, ⟨yv, zcv⟩, zput⟩ := zst hd1 hh0.1 hh0.2
                          have zv : wc.cell? ⟨go, 3, none⟩ = some (.slice (some ⟨gS, 0, none⟩) ss.length cS) := (blk_cell HM5.out.bo 3).trans rfl
                          have hm8 := zput ((t : Int) + 1)
                          have HM8 := Aside0.mk hm8
                          obtain ⟨LL, hLL⟩ : ∃ LL, LL = (svA rs qq).length := ⟨_, rfl⟩
                          rw [← hLL] at zc1 hh0
                          have hh01 := hh0.1
                          have hh02 := hh0.2
                          clear hst hhd hf zst zput hm8 hLL hh0
                          go_upto_region 38 with (fail)
                          clear z3 zfr zcv zc1 zv HM5
                          generalize World.setCell wc _ _ = wd at HM8 ⊢
                          have zr0 : wd.cell? ⟨go, 0, none⟩ = some vr := (blk_cell HM8.out.bo 0).trans rfl
                          go_wp2_with ((with_reducible refine gate_builtin (b := .append) (xs := #[.tmp 169, .tmp 170]) rfl ?_); at_builtin; refine Kd.R_append (Kd.int .i64) (w0 := w) w.heap.size rfl (.tmp 169) (.tmp 170) 30 3 (.int .i64 0) 8 rfl Try.underlying30 info3 rfl (by decide) (by omega) vr RT (-1) [.int .i64 (-1)] (fun _ => True) (fun _ => False) rfl rfl rfl (fun _ hk => hk.elim) (fun _ _ => trivial) (HM8.out.fam.row 2 (by show 2 < 6; omega)) HM8.out.bw HM8.out.bw.size (by omega) ?_; intro vrb w9 ho hb hg hat; obtain ⟨Br, dr, er⟩ := Kd.R_slice ho; subst er; have HM9 : Aside0 (L5M w w9 go #[vr, (.slice A3 jobs.length c3), vc2, (.slice (some ⟨gS, 0, none⟩) ss.length cS)] w.heap.size [(.slice A8 jobs.length c8), (.slice A9 jobs.length c9), .slice Br (RT ++ [-1]).length dr, (.slice A3 jobs.length c3), vc2, nilV] [leftL jobs done, K0, RT ++ [-1], fin, (x.ch.set t (qq : Int)).take (t + 1), []] (.slice (some ⟨gs, 0, none⟩) ss.length c11) (l5L rs (v.set qq s2) ss.length) (.slice (some ⟨gS, 0, none⟩) ss.length cS) (x.sd.set qq ((x.sd.getD qq []).set hd1.toNat ((t : Int) + 1)))) := ⟨HM8.out.app (i := 2) (by show 2 < 6; omega) ho hb hg hat⟩; have zr : w9.cell? ⟨go, 0, none⟩ = some vr := (blk_cell HM9.out.bo 0).trans rfl; have zrf := blk_frozen HM9.out.bo 0; clear HM8 ho hb hg hat)
                          have HMa : Aside0 (L5M w (w9.setCell ⟨go, 0, none⟩ (.slice Br (RT.length + 1) dr)) go #[.slice Br (RT.length + 1) dr, (.slice A3 jobs.length c3), vc2, (.slice (some ⟨gS, 0, none⟩) ss.length cS)] w.heap.size [(.slice A8 jobs.length c8), (.slice A9 jobs.length c9), .slice Br (RT.length + 1) dr, (.slice A3 jobs.length c3), vc2, nilV] [leftL jobs done, K0, (run.set t (-1)).take (t + 1), fin, (x.ch.set t (qq : Int)).take (t + 1), []] (.slice (some ⟨gs, 0, none⟩) ss.length c11) (l5L rs (v.set qq s2) ss.length) (.slice (some ⟨gS, 0, none⟩) ss.length cS) (x.sd.set qq ((x.sd.getD qq []).set hd1.toNat ((t : Int) + 1)))) := ⟨by have h := HM9.out.box 0 (.slice Br (RT ++ [-1]).length dr); simp only [List.length_append, List.length_singleton] at h; rw [HRT.out, set_takeS (by omega), ← HRT.out] at h; exact h⟩
                          go_roundw
                          case rel => exact ⟨t + 1, _, vc2, by go_num, by omega, by rw [HST.out]; exact ⟨⟨HMa.out, HSVB2.out, by rw [List.length_set]; exact HQ.out.ls, by show (x.ch.set t _).length = 120; rw [List.length_set]; exact HQ.out.lc, by show (x.sd.set _ _).length = _; rw [List.length_set]; exact HQ.out.ld, fun i hi => by
                            show ((x.sd.set _ _).getD i []).length = _
                            rw [getD_setR]
                            by_cases e : qq = i
                            · subst e; rw [if_pos ⟨rfl, by rw [HQ.out.ld]; exact hi⟩, List.length_set]; exact HQ.out.le qq hi
                            · rw [if_neg (by omega)]; exact HQ.out.le i hi, HLZ2.out⟩⟩⟩
                          case measure => simp [intOf]; omega
            · have b4 : decide ((t : Int) < 120) = false := decide_eq_false (by omega)
              obtain rfl : t = 120 := by omega
              have hlen := simN_len (jobs := jobs) (pick := srvPick ss rs jobs) (s0 := srv00 ss rs) 120
              obtain ⟨X, hX⟩ : ∃ X, X = simN jobs (srvPick ss rs jobs) (srv00 ss rs) 120 := ⟨_, rfl⟩
              rw [← hX] at HQ hlen
              have hm := HQ.out.mem
              rw [List.take_of_length_le (show X.2.2.1.length ≤ 120 by omega), List.take_of_length_le (show X.1.ch.length ≤ 120 by rw [HQ.out.lc]; omega)] at hm
              have hr2 : Kd.R (Kd.int .i64) 3 wr w.heap.size (fun _ => True) vr X.2.2.1 := hm.fam.row 2 (by show 2 < 6; omega)
              have hr3 : Kd.R (Kd.int .i64) 3 wr w.heap.size (fun _ => True) (.slice A3 jobs.length c3) X.2.2.2 := hm.fam.row 3 (by show 3 < 6; omega)
              have hr4 : Kd.R (Kd.int .i64) 3 wr w.heap.size (fun _ => True) vc X.1.ch := hm.fam.row 4 (by show 4 < 6; omega)
              obtain ⟨Ar, cr, er⟩ := Kd.R_slice hr2
              obtain ⟨Ac, cc, ec⟩ := Kd.R_slice hr4
              subst er ec
              have z0 : wr.cell? ⟨go, 0, none⟩ = some (.slice Ar X.2.2.1.length cr) := (blk_cell hm.bo 0).trans rfl
              have z1 : wr.cell? ⟨go, 1, none⟩ = some (.slice A3 jobs.length c3) := (blk_cell hm.bo 1).trans rfl
              have z2 : wr.cell? ⟨go, 2, none⟩ = some (.slice Ac X.1.ch.length cc) := (blk_cell hm.bo 2).trans rfl
              have z3 : wr.cell? ⟨go, 3, none⟩ = some (.slice AS ss.length cS) := (blk_cell hm.bo 3).trans rfl
              have zn := nil4 hm.b6
              have HM := Lib.hid hm
              have HR2 := Lib.hid hr2
              have HR3 := Lib.hid hr3
              have HR4 := Lib.hid hr4
              have HXE := Lib.hid hX
              have HLD := Lib.hid HQ.out.ld
              have HLN := Lib.hid hlen
              clear hm hr2 hr3 hr4 hX hlen HQ
              go_wp2_with fail
              (try simp only [Exit.inBlock, Exit.then])
              refine bodyPost_ret (results_cell_row rfl _ _ w.heap.size 35 #[.slice Ar X.2.2.1.length cr, (.slice A3 jobs.length c3), .slice Ac X.1.ch.length cc, (.slice AS ss.length cS)] (0, 0) _ rfl (blk_put (blk_put (blk_put (blk_put HM.out.b6 0 _ rfl) 1 _ rfl) 2 _ rfl) 3 _ rfl) Try.underlying35 rfl (by kernel_rfl)) rfl ?_
              have hg6 : w.heap.size ≤ w.heap.size := Nat.le_refl _
              have hb6 := HM.out.b6
              generalize hWf : (((wr.setCell ⟨w.heap.size, 0, none⟩ (.slice Ar X.2.2.1.length cr)).setCell ⟨w.heap.size, 1, none⟩ (.slice A3 jobs.length c3)).setCell ⟨w.heap.size, 2, none⟩ (.slice Ac X.1.ch.length cc)).setCell ⟨w.heap.size, 3, none⟩ (.slice AS ss.length cS) = Wf
              have far : ∀ k, k ≠ w.heap.size → Wf.heap[k]? = wr.heap[k]? := fun k hk => by
                rw [← hWf]
                exact (Below.heap_setCell _ _ _ k hk).trans ((Below.heap_setCell _ _ _ k hk).trans ((Below.heap_setCell _ _ _ k hk).trans (Below.heap_setCell _ _ _ k hk)))
              have f2 := (row_stepG (W2 := Wf) HR2.out (fun k e _ => far k (fun e2 => Kd.R_ne HR2.out hb6 (by decide) (by rw [e, e2]))))
              have f3 := (row_stepG (W2 := Wf) HR3.out (fun k e _ => far k (fun e2 => Kd.R_ne HR3.out hb6 (by decide) (by rw [e, e2]))))
              have f4 := (row_stepG (W2 := Wf) HR4.out (fun k e _ => far k (fun e2 => Kd.R_ne HR4.out hb6 (by decide) (by rw [e, e2]))))
              have fS : Kd.S (Kd.slice 3 (Kd.int .i64)) 30 Wf w.heap.size (fun _ => True) (.slice AS ss.length cS) X.1.sd := by
                rw [← hWf]
                exact Kd.S_mono (Kd.S_set (Kd.S_set (Kd.S_set (Kd.S_set HM.out.sd hb6 (by decide) 0 _) (blk_put hb6 0 _ rfl) (by decide) 1 _) (blk_put (blk_put hb6 0 _ rfl) 1 _ rfl) (by decide) 2 _) (blk_put (blk_put (blk_put hb6 0 _ rfl) 1 _ rfl) 2 _ rfl) (by decide) 3 _) (fun _ _ => trivial)
              have hBf : Below w.heap.size w Wf := by
                rw [← hWf]
                exact (((HM.out.bw.setCell hg6 _).setCell hg6 _).setCell hg6 _).setCell hg6 _
              refine ⟨Ar, cr, A3, c3, Ac, cc, AS, cS, ⟨X, HXE.out, ?_, f2, by rw [HLN.out.2.2]; exact f3, f4, by rw [HLD.out]; exact fS⟩, hBf⟩
              rw [HLN.out.2.2, HLD.out]

end Go.Proofs.Ytonifhkplniblaa.Print

namespace Go.Proofs.Ytonifhkplniblaa.Print
open Go.RowKit Go.Proofs.YtonifhkplniblaaW.PrintWords Go.Proofs.Ytonifhkplniblaa.Evs Go.Proofs.Ytonifhkplniblaa.Opens
set_option linter.unusedSimpArgs false
set_option linter.unusedVariables false
def sv (l : List Server) (j : Nat) : Server := l.getD j z109
theorem rd_sv (l : List Server) (j : Nat) : rd_T109 l (j : Int) = sv l j := rfl
def okServers (l : List Server) : Bool := decide (l.length ≤ 2) && l.all okServer
theorem okServers_len {l : List Server} (h : okServers l = true) : l.length ≤ 2 := by unfold okServers at h; simp at h; exact h.1
theorem spec_ServersValid_ev (l : List Server) (hl : l.length ≤ 1048576) : Tl (fun k => spec_ServersValid.f k l) (okServers l) := by
  have key := Tl.all (F := fun k i => spec_ServersValid.l0 k l i) (n := l.length) (P := fun j => okServer (l.getD j z109)) (fin := decide (l.length ≤ 2)) ?_ ?_ ?_
  · rw [all_range] at key
    unfold okServers
    rw [Bool.and_comm]
    exact key
  · intro j hj hp r h
    have hp : okServer (sv l j) = true := hp
    unfold okServer at hp
    have hp := of_decide_eq_true hp
    refine Tl.step ?_
    simp only [spec_ServersValid.l0, rd_sv, spec_l1In_f, Option.bind_some]
    rw [wrap_succ hj (by omega)]
    exact Tl.iteT (by omega) (Tl.iteT (by omega) (Tl.iteT (by rw [decide_eq_true_eq]; omega) (Tl.iteT (by rw [decide_eq_true_eq]; omega) h)))
  · intro j hj hp
    have hp : okServer (sv l j) = false := hp
    unfold okServer at hp
    have hp := of_decide_eq_false hp
    refine Tl.step ?_
    simp only [spec_ServersValid.l0, rd_sv, spec_l1In_f, Option.bind_some]
    refine Tl.iteT (by omega) (Tl.iteT (by omega) ?_)
    by_cases h1 : 1 ≤ (sv l j).f0 ∧ (sv l j).f0 ≤ (sv l j).f1
    · exact Tl.iteT (by rw [decide_eq_true_eq]; exact h1) (Tl.iteF (by rw [decide_eq_true_eq]; omega) (Tl.ret _))
    · exact Tl.iteF (by rw [decide_eq_true_eq]; exact h1) (Tl.ret _)
  · refine Tl.step ?_
    simp only [spec_ServersValid.l0]
    refine Tl.iteF (by omega) ?_
    have : decide ((l.length : Int) ≤ 2) = decide (l.length ≤ 2) := by rw [decide_eq_decide]; omega
    rw [this]
    exact Tl.ret _
end Go.Proofs.Ytonifhkplniblaa.Print

namespace Go.Proofs.Ytonifhkplniblaa.Print
open Go.RowKit Go.Proofs.YtonifhkplniblaaW.PrintWords Go.Proofs.YtonifhkplniblaaW.PrintLast Go.Proofs.YtonifhkplniblaaW.PrintMore
attribute [local go_sem] max2_int min2_int max_two min_two max_three min_three max_four min_four
set_option linter.unusedVariables false
set_option linter.unusedSimpArgs false
open Go.Proofs.Ytonifhkplniblaa.Walk
theorem inqA (a b c : Int) (r : Bool) (hr : decide (b ≤ a ∧ a ≤ c) = r) (W : World) : Calls Try.prog 96 #[.int .i64 a, .int .i64 b, .int .i64 c] W fun e w' => e = .returned (.bool r) ∧ ∃ m, w' = W.drewN m := by
  refine (spec_l1In.calls a b c r W ?_).mono ?_
  · rw [spec_l1In_f, hr]
  · rintro e w' ⟨rfl, hd⟩
    exact ⟨rfl, hd.out⟩
set_option maxHeartbeats 4000000 in
set_option maxRecDepth 100000 in
theorem specArr_calls (A0 : Option Addr) (c0 : Nat) (l0 : List (S164)) (w : World) (hr0 : Kd.C k164 w A0 l0.length l0) (hl : l0.length ≤ 1048576) :
    Calls Try.prog 69 #[.slice A0 l0.length c0] w fun e w' => e = .returned (.bool (okArrs l0)) ∧ Below w.heap.size w w' := by
  have HR0 := Aside0.mk hr0
  have HB := Aside0.mk (Below.refl w.heap.size w)
  clear hr0
  go_enter Try.func69, Try.ntmps69
  go_wp2_with fail
  go_loopw [3] (fun v3 w' => ∃ j : Nat, v3 = .int .i64 j ∧ Aside0 (j ≤ l0.length ∧ ∀ i, i < j → okArr l0 i = true) ∧ Aside0 (Below w.heap.size w w')) (fun v3 _ => l0.length - (intOf v3).toNat)
  case atStart => exact ⟨0, rfl, ⟨Nat.zero_le _, fun i hi => absurd hi (by omega)⟩, HB⟩
  case round =>
    clear HB
    obtain ⟨j, rfl, ⟨HJ⟩, HB⟩ := hrel
    by_cases hlt : j < l0.length
    · have b1 : decide ((j : Int) < (l0.length : Int)) = true := decide_eq_true (by omega)
      obtain ⟨ad0, e0, hy0, hy1⟩ := at_T164 HR0.out (j : Int) (by omega) (by omega)
      cases e0
      replace hy0 := (HB.out.cell (World.block_lt_of_cell? w _ hy0)).trans hy0
      replace hy1 := (HB.out.cell (World.block_lt_of_cell? w _ hy1)).trans hy1
      simp only [Int.toNat_natCast] at hy0 hy1
      have hrd : rd_T164 l0 (j : Int) = arr l0 j := rfl
      rw [hrd] at hy0 hy1
      have q0 : 0 ≤ (j : Int) := by omega
      have q1 : (j : Int) < (l0.length : Int) := by omega
      obtain ⟨y, hy⟩ : ∃ y, y = arr l0 j := ⟨_, rfl⟩
      rw [← hy] at hy0 hy1
      have HY := Lib.hid hy
      have HLT := Lib.hid hlt
      have HJJ := Lib.hid HJ
      clear hrd hy HJ
      obtain ⟨ya, yb⟩ := y
      simp only at hy0 hy1
      by_cases a1 : 0 ≤ ya ∧ ya ≤ 119
      · have Q1 := Lib.hid (fun W => inqA ya 0 119 true (decide_eq_true a1) W)
        by_cases a2 : 1 ≤ yb ∧ yb ≤ 20
        · have Q2 := Lib.hid (fun W => inqA yb 1 20 true (decide_eq_true a2) W)
          by_cases h0 : 0 < j
          · have h0b : decide ((j : Int) > 0) = true := decide_eq_true (by omega)
            obtain ⟨p, hp⟩ : ∃ p, p = (j : Int) - 1 := ⟨_, rfl⟩
            obtain ⟨ad1, e1, hx0, hx1⟩ := at_T164 HR0.out p (by omega) (by omega)
            cases e1
            replace hx0 := (HB.out.cell (World.block_lt_of_cell? w _ hx0)).trans hx0
            have hrd : rd_T164 l0 p = arr l0 (j - 1) := by unfold rd_T164 arr; congr 1; omega
            rw [hrd] at hx0
            obtain ⟨x, hx⟩ : ∃ x, x = arr l0 (j - 1) := ⟨_, rfl⟩
            rw [← hx] at hx0
            have hwp : IntKind.i64.wrap ((j : Int) - 1) = p := by rw [i64_w]; unfold wrap64; omega
            have qp2 : 0 ≤ p := by omega
            have qp3 : p < (l0.length : Int) := by omega
            have hat0 : okArr l0 j = decide (x.f0 ≤ ya) := by
              unfold okArr
              rw [← HY.out, ← hx]
              simp only
              rw [decide_eq_decide]
              omega
            clear hp hx1 hrd hx
            obtain ⟨xa, xb⟩ := x
            simp only at hx0 hat0
            by_cases d1 : xa > ya
            · have d1b : decide (xa > ya) = true := decide_eq_true d1
              have HO : Hid (okArr l0 j = false) := Lib.hid (by rw [hat0]; exact decide_eq_false (by omega))
              clear hat0 a1 a2 d1
              go_wp2_with fail
              go_quiet ((go_at_call 96; with_reducible first | exact Calls.quiet_of (Q1.out _) | exact Calls.quiet_of (Q2.out _)))
              go_wp2_with fail
              go_ret
              exact ⟨by unfold okArrs; rw [all_no HLT.out HO.out]; rfl, pw_below_drewN HB.out _⟩
            · have d1b : decide (xa > ya) = false := decide_eq_false d1
              have HO : Hid (okArr l0 j = true) := Lib.hid (by rw [hat0]; exact decide_eq_true (by omega))
              clear hat0 a1 a2 d1
              go_wp2_with fail
              go_quiet ((go_at_call 96; with_reducible first | exact Calls.quiet_of (Q1.out _) | exact Calls.quiet_of (Q2.out _)))
              go_wp2_with fail
              go_roundw
              case rel => exact ⟨j + 1, by go_num, ⟨by omega, upto_step HJJ.out.2 HO.out⟩, ⟨pw_below_drewN HB.out _⟩⟩
              case measure => simp [intOf]; omega
          · have h0b : decide ((j : Int) > 0) = false := decide_eq_false (by omega)
            have HO : Hid (okArr l0 j = true) := Lib.hid (by
              unfold okArr
              rw [← HY.out]
              simp only
              exact decide_eq_true (by omega))
            clear a1 a2
            go_wp2_with fail
            go_quiet ((go_at_call 96; with_reducible first | exact Calls.quiet_of (Q1.out _) | exact Calls.quiet_of (Q2.out _)))
            go_wp2_with fail
            go_roundw
            case rel => exact ⟨j + 1, by go_num, ⟨by omega, upto_step HJJ.out.2 HO.out⟩, ⟨pw_below_drewN HB.out _⟩⟩
            case measure => simp [intOf]; omega
        · have Q2 := Lib.hid (fun W => inqA yb 1 20 false (decide_eq_false a2) W)
          have HO : Hid (okArr l0 j = false) := Lib.hid (by
            unfold okArr
            rw [← HY.out]
            simp only
            exact decide_eq_false (by omega))
          clear a1 a2
          go_wp2_with fail
          go_quiet ((go_at_call 96; with_reducible first | exact Calls.quiet_of (Q1.out _) | exact Calls.quiet_of (Q2.out _)))
          go_wp2_with fail
          go_ret
          exact ⟨by unfold okArrs; rw [all_no HLT.out HO.out]; rfl, pw_below_drewN HB.out _⟩
      · have Q1 := Lib.hid (fun W => inqA ya 0 119 false (decide_eq_false a1) W)
        have HO : Hid (okArr l0 j = false) := Lib.hid (by
          unfold okArr
          rw [← HY.out]
          simp only
          exact decide_eq_false (by omega))
        clear a1
        go_wp2_with fail
        go_quiet ((go_at_call 96; with_reducible exact Calls.quiet_of (Q1.out _)))
        go_wp2_with fail
        go_ret
        exact ⟨by unfold okArrs; rw [all_no HLT.out HO.out]; rfl, pw_below_drewN HB.out _⟩
    · have b1 : decide ((j : Int) < (l0.length : Int)) = false := decide_eq_false (by omega)
      have hje : j = l0.length := by omega
      subst hje
      have HALL := Lib.hid (all_yes HJ.2)
      clear HJ hlt
      go_wp2
      go_ret
      refine ⟨?_, HB.out⟩
      unfold okArrs
      have e_ : decide ((l0.length : Int) ≤ 20) = decide (l0.length ≤ 20) := decide_eq_decide.2 (by omega)
      rw [HALL.out, Bool.true_and, ← e_]
      rfl

end Go.Proofs.Ytonifhkplniblaa.Print

namespace Go.Proofs.Ytonifhkplniblaa.Print
open Go.RowKit Go.Proofs.YtonifhkplniblaaW.PrintWords Go.Proofs.YtonifhkplniblaaW.PrintLast Go.Proofs.YtonifhkplniblaaW.PrintMore
attribute [local go_sem] max2_int min2_int max_two min_two max_three min_three max_four min_four
set_option linter.unusedVariables false
set_option linter.unusedSimpArgs false
open Go.Proofs.Ytonifhkplniblaa.Walk Go.Proofs.Ytonifhkplniblaa.Evs
/-- Whether the arguments are valid. -/
def goodS (l0 : List (S62)) (jobs : List (S67)) (ss : List (S109)) (rs : List (List (S164))) : Prop := legal l0 jobs = true ∧ okServers ss = true ∧ rs.length = ss.length ∧ rs.all okArrs = true
/-- What a run with servers answers. -/
def OutS (w w' : World) (e : Ending) (X : SvSt × List Int × List Int × List Int) : Prop := ∃ (B0 : Option Addr) (d0 : Nat) (B1 : Option Addr) (d1 : Nat) (B2 : Option Addr) (d2 : Nat) (B3 : Option Addr) (d3 : Nat), e = .returned (.agg #[.slice B0 X.2.2.1.length d0, .slice B1 X.2.2.2.length d1, .slice B2 X.1.ch.length d2, .slice B3 X.1.sd.length d3]) ∧
  Kd.R (Kd.int .i64) 3 w' w.heap.size (fun _ => True) (.slice B0 X.2.2.1.length d0) X.2.2.1 ∧ Kd.R (Kd.int .i64) 3 w' w.heap.size (fun _ => True) (.slice B1 X.2.2.2.length d1) X.2.2.2 ∧ Kd.R (Kd.int .i64) 3 w' w.heap.size (fun _ => True) (.slice B2 X.1.ch.length d2) X.1.ch ∧ Kd.S (Kd.slice 3 (Kd.int .i64)) 30 w' w.heap.size (fun _ => True) (.slice B3 X.1.sd.length d3) X.1.sd
set_option maxHeartbeats 8000000 in
set_option maxRecDepth 100000 in
theorem specServers_calls (A0 : Option Addr) (c0 : Nat) (l0 : List (S62)) (A : Option Addr) (c : Nat) (jobs : List (S67)) (As : Option Addr) (cs : Nat) (ss : List (S109)) (Ar : Option Addr) (cr : Nat) (rs : List (List (S164))) (w : World)
    (hr0 : Kd.C k62 w A0 l0.length l0) (hc0 : l0.length ≤ c0) (hj : Kd.C k67 w A jobs.length jobs) (hc : jobs.length ≤ c) (hs : Kd.C k109 w As ss.length ss) (hcs : ss.length ≤ cs) (hr : Kd.C (Kd.slice 164 k164) w Ar rs.length rs) (hcr : rs.length ≤ cr)
    (hl0 : l0.length ≤ 1048576) (hlj : jobs.length ≤ 1048576) (hls : ss.length ≤ 1048576) (hrl : ∀ x ∈ rs, x.length ≤ 1048576) :
    Calls Try.prog 17 #[.slice A0 l0.length c0, .slice A jobs.length c, .slice As ss.length cs, .slice Ar rs.length cr] w fun e w' => ((goodS l0 jobs ss rs ∧ OutS w w' e (simN jobs (srvPick ss rs jobs) (srv00 ss rs) 120)) ∨ (¬ goodS l0 jobs ss rs ∧ e = .returned (.agg #[.slice none 0 0, .slice none 0 0, .slice none 0 0, .slice none 0 0]))) ∧ Below w.heap.size w w' := by
  have hu := Try.underlying35
  obtain ⟨W0, hW0⟩ : ∃ W0, W0 = w.alloc (.cells #[.slice none 0 0, .slice none 0 0, .slice none 0 0, .slice none 0 0] 35) := ⟨_, rfl⟩
  have hB0 : Below w.heap.size w W0 := by rw [hW0]; exact below_alloc (Below.refl _ _) _
  have hrs : W0.heap[w.heap.size]? = some (.cells #[.slice none 0 0, .slice none 0 0, .slice none 0 0, .slice none 0 0] 35 (0, 0)) := by rw [hW0]; exact blk_new _ _
  obtain ⟨k1, hk1⟩ := spec_JobsLegal_ev l0 jobs hl0 hlj
  obtain ⟨k2, hk2⟩ := spec_ServersValid_ev ss hls
  have HLEG := Lib.hid (fun V (hV : Below w.heap.size w V) => spec_JobsLegal.calls k1 A0 c0 l0 A c jobs _ V (Kd.C_below hr0 hV) hc0 (Kd.C_below hj hV) hc (hk1 k1 (Nat.le_refl _)))
  have HSVV := Lib.hid (fun V (hV : Below w.heap.size w V) => spec_ServersValid.calls k2 As cs ss _ V (Kd.C_below hs hV) hcs (hk2 k2 (Nat.le_refl _)))
  have HARR := Lib.hid (fun V (hV : Below w.heap.size w V) (x : List (S164)) (B : Option Addr) (d : Nat) (hx : x.length ≤ 1048576) (hK : Kd.C k164 w B x.length x) (hd : x.length ≤ d) => specArr_calls B d x V (Kd.C_below hK hV) hx)
  have HRUN := Lib.hid (fun V (hV : Below w.heap.size w V) (hg : goodS l0 jobs ss rs) => (show Calls Try.prog 70 #[.slice A jobs.length c, .slice As ss.length cs, .slice Ar rs.length cr] V fun e w' => OutS w w' e (simN jobs (srvPick ss rs jobs) (srv00 ss rs) 120) ∧ Below V.heap.size V w' from by
    have hlj := legal_jobs' hg.1
    have hvb := sv0_ok (ss := ss) (rs := rs) (by unfold impl_ServersValid.f; exact congrArg some hg.2.1) hg.2.2.1 hg.2.2.2
    refine (l5Run_calls A c jobs As cs ss Ar cr rs V (Kd.C_below hj hV) hc (Kd.C_below hs hV) (Kd.C_below hr hV) hlj.1 hlj.2 hvb.1 hg.2.2.1 hvb.2).mono ?_
    rintro e w' ⟨B0, d0, B1, d1, B2, d2, B3, d3, ⟨X, rfl, rfl, f0, f1, f2, f3⟩, hb⟩
    exact ⟨⟨B0, d0, B1, d1, B2, d2, B3, d3, rfl, Kd.R_lower f0 hV.size, Kd.R_lower f1 hV.size, Kd.R_lower f2 hV.size, Kd.S_lower f3 hV.size⟩, hb⟩))
  have HR := Lib.hid hr
  have HWQ := Lib.hid hW0
  have HB0 := Lib.hid hB0
  have HRS := Lib.hid hrs
  have HRL := Lib.hid hrl
  have hmx : rs.length ≤ 9223372036854775807 := hr.2.1
  obtain ⟨a, ha⟩ : ∃ a, a = legal l0 jobs := ⟨_, rfl⟩
  obtain ⟨b, hb⟩ : ∃ b, b = okServers ss := ⟨_, rfl⟩
  rw [← ha] at HLEG
  rw [← hb] at HSVV
  have HA := Lib.hid ha
  have HBE := Lib.hid hb
  clear hr0 hc0 hj hc hs hcs hr hcr hl0 hlj hls hrl hk1 hk2 hW0 hB0 hrs ha hb
  cases a with
  | false =>
    have HNG : Hid (¬ goodS l0 jobs ss rs) := Lib.hid (fun h => by rw [h.1] at HA; cases HA.out)
    go_enter Try.func17, Try.ntmps17
    go_upto_region 1 with (fail)
    rw [← HWQ.out]
    go_upto_region 2 with (go_at_call 34; refine (HLEG.out _ HB0.out).mono ?_; rintro e w1 ⟨rfl, hb1⟩; have H3 := Aside0.mk (blk_below HRS.out hb1); have HY := Lib.hid (below_step HB0.out hb1); clear hb1)
    ((have hq := nil4 H3.out; go_wp2_with fail; (try simp only [Exit.inBlock, Exit.then]); refine bodyPost_ret (results_cell_row rfl _ _ w.heap.size 35 #[.slice none 0 0, .slice none 0 0, .slice none 0 0, .slice none 0 0] (0, 0) _ rfl (blk_put (blk_put (blk_put (blk_put H3.out 0 _ rfl) 1 _ rfl) 2 _ rfl) 3 _ rfl) Try.underlying35 rfl (by kernel_rfl)) rfl ?_; exact ⟨.inr ⟨HNG.out, rfl⟩, (((HY.out.setCell (Nat.le_refl _) _).setCell (Nat.le_refl _) _).setCell (Nat.le_refl _) _).setCell (Nat.le_refl _) _⟩))
  | true =>
    cases b with
    | false =>
      have HNG : Hid (¬ goodS l0 jobs ss rs) := Lib.hid (fun h => by rw [h.2.1] at HBE; cases HBE.out)
      go_enter Try.func17, Try.ntmps17
      go_upto_region 1 with (fail)
      rw [← HWQ.out]
      go_upto_region 2 with (first | (go_at_call 34; refine (HLEG.out _ HB0.out).mono ?_; rintro e w1 ⟨rfl, hb1⟩; have H1 := Aside0.mk (blk_below HRS.out hb1); have HX := Lib.hid (below_step HB0.out hb1); clear hb1) | (go_at_call 68; refine (HSVV.out _ HX.out).mono ?_; rintro e w2 ⟨rfl, hd⟩; obtain ⟨md, rfl⟩ := hd.out; have H3 := Aside0.mk (blk_drewN H1.out md); have HY := Lib.hid (pw_below_drewN HX.out md); clear hd))
      ((have hq := nil4 H3.out; go_wp2_with fail; (try simp only [Exit.inBlock, Exit.then]); refine bodyPost_ret (results_cell_row rfl _ _ w.heap.size 35 #[.slice none 0 0, .slice none 0 0, .slice none 0 0, .slice none 0 0] (0, 0) _ rfl (blk_put (blk_put (blk_put (blk_put H3.out 0 _ rfl) 1 _ rfl) 2 _ rfl) 3 _ rfl) Try.underlying35 rfl (by kernel_rfl)) rfl ?_; exact ⟨.inr ⟨HNG.out, rfl⟩, (((HY.out.setCell (Nat.le_refl _) _).setCell (Nat.le_refl _) _).setCell (Nat.le_refl _) _).setCell (Nat.le_refl _) _⟩))
    | true =>
      by_cases hln : rs.length = ss.length
      · have bl : (((rs.length : Nat) : Int) != (ss.length : Int)) = false := by rw [hln]; simp
        have HLN := Lib.hid hln
        clear hln
        go_enter Try.func17, Try.ntmps17
        go_upto_region 1 with (fail)
        rw [← HWQ.out]
        go_upto_region 3 with (first | (go_at_call 34; refine (HLEG.out _ HB0.out).mono ?_; rintro e w1 ⟨rfl, hb1⟩; have H1 := Aside0.mk (blk_below HRS.out hb1); have HX := Lib.hid (below_step HB0.out hb1); clear hb1) | (go_at_call 68; refine (HSVV.out _ HX.out).mono ?_; rintro e w2 ⟨rfl, hd⟩; obtain ⟨md, rfl⟩ := hd.out; have H3 := Aside0.mk (blk_drewN H1.out md); have HY := Lib.hid (pw_below_drewN HX.out md); clear hd H1 HX))
        generalize World.drewN w1 md = w2 at H3 HY ⊢
        go_wp2_with fail
        go_loopw [9] (fun v9 w' => ∃ i : Nat, v9 = .int .i64 (i : Int) ∧ i ≤ rs.length ∧ Aside0 (∀ m, m < i → okArrs (rs.getD m []) = true) ∧ Aside0 (w'.heap[w.heap.size]? = some (.cells #[.slice none 0 0, .slice none 0 0, .slice none 0 0, .slice none 0 0] 35 (0, 0))) ∧ Aside0 (Below w.heap.size w w')) (fun v9 _ => rs.length - (intOf v9).toNat)
        case atStart => exact ⟨0, rfl, Nat.zero_le _, ⟨fun m hm => absurd hm (by omega)⟩, H3, ⟨HY.out⟩⟩
        case round =>
          clear H3 HY
          obtain ⟨i, rfl, hi, HAL, H3, HY⟩ := hrel
          by_cases hil : i < rs.length
          · have b3 : decide ((i : Int) < (rs.length : Int)) = true := decide_eq_true (by omega)
            obtain ⟨ad, B, d, er, hcv, hd, hK⟩ := rowA_at HR.out i hil
            cases er
            have hm : rs.getD i [] ∈ rs := by
              rw [List.getD_eq_getElem?_getD, List.getElem?_eq_getElem hil]
              exact List.getElem_mem hil
            have hx := HRL.out _ hm
            have hcw := (HY.out.cell (World.block_lt_of_cell? _ _ hcv)).trans hcv
            have HCA := Lib.hid (HARR.out wr HY.out _ B d hx hK hd)
            obtain ⟨o, ho⟩ : ∃ o, o = okArrs (rs.getD i []) := ⟨_, rfl⟩
            rw [← ho] at HCA
            have HO := Lib.hid ho
            obtain ⟨L, hL⟩ : ∃ L, L = (rs.getD i []).length := ⟨_, rfl⟩
            rw [← hL] at HCA hcw
            have HME := Lib.hid hm
            have p0 : 0 ≤ (i : Int) := by omega
            have p1 : (i : Int) < (rs.length : Int) := by omega
            clear hd hK hm hx ho hL hcv
            cases o with
            | false =>
              have HNG : Hid (¬ goodS l0 jobs ss rs) := Lib.hid (fun h => by
                have h1 := h.2.2.2
                rw [List.all_eq_true] at h1
                have h2 := h1 _ HME.out
                rw [← HO.out] at h2
                cases h2)
              go_upto_region 7 with (go_at_call 69; refine HCA.out.mono ?_; rintro e w4 ⟨rfl, hb4⟩; have H4 := Aside0.mk (blk_below H3.out hb4); have HY4 := Lib.hid (below_step HY.out hb4); clear hb4 H3 HY)
              have H3 := H4
              have HY := HY4
              clear H4 HY4
              ((have hq := nil4 H3.out; go_wp2_with fail; (try simp only [Exit.inBlock, Exit.then]); refine bodyPost_ret (results_cell_row rfl _ _ w.heap.size 35 #[.slice none 0 0, .slice none 0 0, .slice none 0 0, .slice none 0 0] (0, 0) _ rfl (blk_put (blk_put (blk_put (blk_put H3.out 0 _ rfl) 1 _ rfl) 2 _ rfl) 3 _ rfl) Try.underlying35 rfl (by kernel_rfl)) rfl ?_; exact ⟨.inr ⟨HNG.out, rfl⟩, (((HY.out.setCell (Nat.le_refl _) _).setCell (Nat.le_refl _) _).setCell (Nat.le_refl _) _).setCell (Nat.le_refl _) _⟩))
            | true =>
              go_wp2_with (go_at_call 69; refine HCA.out.mono ?_; rintro e w4 ⟨rfl, hb4⟩; have H4 := Aside0.mk (blk_below H3.out hb4); have HY4 := Lib.hid (below_step HY.out hb4); clear hb4 H3 HY)
              go_roundw
              case rel => exact ⟨i + 1, by go_num, by omega, ⟨fun m hm => by
                by_cases e : m = i
                · rw [e]; exact HO.out.symm
                · exact HAL.out m (by omega)⟩, H4, ⟨HY4.out⟩⟩
              case measure => simp [intOf]; omega
          · have b3 : decide ((i : Int) < (rs.length : Int)) = false := decide_eq_false (by omega)
            obtain rfl : i = rs.length := by omega
            have hg : goodS l0 jobs ss rs := ⟨HA.out.symm, HBE.out.symm, HLN.out, by
              rw [List.all_eq_true]
              intro x hx
              obtain ⟨m, hm, rfl⟩ := List.getElem_of_mem hx
              have := HAL.out m hm
              rw [List.getD_eq_getElem?_getD, List.getElem?_eq_getElem hm] at this
              exact this⟩
            have HG := Lib.hid hg
            have HCR := Lib.hid (HRUN.out wr HY.out hg)
            obtain ⟨X, hX⟩ : ∃ X, X = simN jobs (srvPick ss rs jobs) (srv00 ss rs) 120 := ⟨_, rfl⟩
            rw [← hX] at HCR
            have HXE := Lib.hid hX
            clear hg hX
            go_wp2_with (go_at_call 70; refine HCR.out.mono ?_; rintro e w5 ⟨⟨B0, d0, B1, d1, B2, d2, B3, d3, rfl, f0, f1, f2, f3⟩, hb⟩; have H5 := Aside0.mk (blk_below H3.out hb); have HY5 := Lib.hid (below_step HY.out hb); have hq := nil4 H5.out; have F0 := Lib.hid f0; have F1 := Lib.hid f1; have F2 := Lib.hid f2; have F3 := Lib.hid f3; clear f0 f1 f2 f3 hb)
            (try simp only [Exit.inBlock, Exit.then])
            refine bodyPost_ret (results_cell_row rfl _ _ w.heap.size 35 #[.slice B0 X.2.2.1.length d0, .slice B1 X.2.2.2.length d1, .slice B2 X.1.ch.length d2, .slice B3 X.1.sd.length d3] (0, 0) _ rfl (blk_put (blk_put (blk_put (blk_put H5.out 0 _ rfl) 1 _ rfl) 2 _ rfl) 3 _ rfl) Try.underlying35 rfl (by kernel_rfl)) rfl ?_
            rw [← HXE.out]
            have h5 := H5.out
            have far : ∀ k, k ≠ w.heap.size → ((((w5.setCell ⟨w.heap.size, 0, none⟩ (.slice B0 X.2.2.1.length d0)).setCell ⟨w.heap.size, 1, none⟩ (.slice B1 X.2.2.2.length d1)).setCell ⟨w.heap.size, 2, none⟩ (.slice B2 X.1.ch.length d2)).setCell ⟨w.heap.size, 3, none⟩ (.slice B3 X.1.sd.length d3)).heap[k]? = w5.heap[k]? := fun k hk =>
              (Below.heap_setCell _ _ _ k hk).trans ((Below.heap_setCell _ _ _ k hk).trans ((Below.heap_setCell _ _ _ k hk).trans (Below.heap_setCell _ _ _ k hk)))
            refine ⟨.inl ⟨HG.out, B0, d0, B1, d1, B2, d2, B3, d3, rfl, ?_, ?_, ?_, ?_⟩, (((HY5.out.setCell (Nat.le_refl _) _).setCell (Nat.le_refl _) _).setCell (Nat.le_refl _) _).setCell (Nat.le_refl _) _⟩
            · exact row_stepG F0.out (fun k e _ => far k (fun e2 => Kd.R_ne F0.out h5 (by decide) (by rw [e, e2])))
            · exact row_stepG F1.out (fun k e _ => far k (fun e2 => Kd.R_ne F1.out h5 (by decide) (by rw [e, e2])))
            · exact row_stepG F2.out (fun k e _ => far k (fun e2 => Kd.R_ne F2.out h5 (by decide) (by rw [e, e2])))
            · exact Kd.S_set (Kd.S_set (Kd.S_set (Kd.S_set F3.out h5 (by decide) 0 _) (blk_put h5 0 _ rfl) (by decide) 1 _) (blk_put (blk_put h5 0 _ rfl) 1 _ rfl) (by decide) 2 _) (blk_put (blk_put (blk_put h5 0 _ rfl) 1 _ rfl) 2 _ rfl) (by decide) 3 _
      · have bl : (((rs.length : Nat) : Int) != (ss.length : Int)) = true := by simp; omega
        have HNG : Hid (¬ goodS l0 jobs ss rs) := Lib.hid (fun h => hln h.2.2.1)
        clear hln
        go_enter Try.func17, Try.ntmps17
        go_upto_region 1 with (fail)
        rw [← HWQ.out]
        go_upto_region 2 with (first | (go_at_call 34; refine (HLEG.out _ HB0.out).mono ?_; rintro e w1 ⟨rfl, hb1⟩; have H1 := Aside0.mk (blk_below HRS.out hb1); have HX := Lib.hid (below_step HB0.out hb1); clear hb1) | (go_at_call 68; refine (HSVV.out _ HX.out).mono ?_; rintro e w2 ⟨rfl, hd⟩; obtain ⟨md, rfl⟩ := hd.out; have H3 := Aside0.mk (blk_drewN H1.out md); have HY := Lib.hid (pw_below_drewN HX.out md); clear hd))
        ((have hq := nil4 H3.out; go_wp2_with fail; (try simp only [Exit.inBlock, Exit.then]); refine bodyPost_ret (results_cell_row rfl _ _ w.heap.size 35 #[.slice none 0 0, .slice none 0 0, .slice none 0 0, .slice none 0 0] (0, 0) _ rfl (blk_put (blk_put (blk_put (blk_put H3.out 0 _ rfl) 1 _ rfl) 2 _ rfl) 3 _ rfl) Try.underlying35 rfl (by kernel_rfl)) rfl ?_; exact ⟨.inr ⟨HNG.out, rfl⟩, (((HY.out.setCell (Nat.le_refl _) _).setCell (Nat.le_refl _) _).setCell (Nat.le_refl _) _).setCell (Nat.le_refl _) _⟩))


abbrev ResT := List Int × List Int × List Int × List (List Int)
/-- What a run with servers answers. -/
noncomputable def resS (l0 : List (S62)) (jobs : List (S67)) (ss : List (S109)) (rs : List (List (S164))) : ResT :=
  open Classical in if goodS l0 jobs ss rs then ((simN jobs (srvPick ss rs jobs) (srv00 ss rs) 120).2.2.1, (simN jobs (srvPick ss rs jobs) (srv00 ss rs) 120).2.2.2, (simN jobs (srvPick ss rs jobs) (srv00 ss rs) 120).1.ch, (simN jobs (srvPick ss rs jobs) (srv00 ss rs) 120).1.sd) else ([], [], [], [])
/-- The rows of a run, or none. -/
def GrO (W : World) (base : Nat) (v : Value) (us : List Value) (rows : List (List Int)) : Prop := (∃ gr, v = .slice (some ⟨gr, 0, none⟩) rows.length rows.length ∧ base ≤ gr ∧ Gr W base gr us rows) ∨ (v = .slice none 0 0 ∧ rows = [] ∧ us = [])
/-- A run's result in memory. -/
structure ResM (W : World) (base : Nat) (v0 v1 v2 v3 : Value) (us : List Value) (R : ResT) : Prop where
  r0 : Kd.R (Kd.int .i64) 3 W base (fun _ => True) v0 R.1
  r1 : Kd.R (Kd.int .i64) 3 W base (fun _ => True) v1 R.2.1
  r2 : Kd.R (Kd.int .i64) 3 W base (fun _ => True) v2 R.2.2.1
  rows : GrO W base v3 us R.2.2.2
  a0 : ∀ k, v0.ownBlock = some k → v1.ownBlock ≠ some k ∧ v2.ownBlock ≠ some k
  a1 : ∀ k, v1.ownBlock = some k → v2.ownBlock ≠ some k
  aS : ∀ i k, i < us.length → (us.getD i nilV).ownBlock = some k → v0.ownBlock ≠ some k ∧ v1.ownBlock ≠ some k ∧ v2.ownBlock ≠ some k
section
variable {W W2 : World} {base : Nat} {v v0 v1 v2 v3 : Value} {us : List Value} {rows : List (List Int)} {R : ResT}
theorem GrO.step (h : GrO W base v us rows) (hm : ∀ i k, i < us.length → (us.getD i nilV).ownBlock = some k → k < W.heap.size → W2.heap[k]? = W.heap[k]?) (hg : ∀ (k : Nat) (cs : Array Value), W.heap[k]? = some (Obj.cells cs 30 (0, 0)) → W2.heap[k]? = some (Obj.cells cs 30 (0, 0))) : GrO W2 base v us rows := by
  rcases h with ⟨gr, rfl, hb, h⟩ | h
  · exact .inl ⟨gr, rfl, hb, h.step ((hg gr _ h.blk).trans h.blk.symm) hm⟩
  · exact .inr h
theorem GrO.below (h : GrO W base v us rows) (hb : Below W.heap.size W W2) : GrO W2 base v us rows := h.step (fun _ k _ _ hk => hb.block k hk) (fun k cs hc => blk_below hc hb)
theorem GrO.reads (h : GrO W base v us rows) (hn : rows.length ≤ 1000) : ∃ B, v = .slice B rows.length rows.length ∧ Kd.C (Kd.slice 3 (Kd.int .i64)) W B rows.length rows := by
  rcases h with ⟨gr, rfl, hb, h⟩ | ⟨rfl, rfl, _⟩
  · exact ⟨_, rfl, h.reads hn⟩
  · exact ⟨none, rfl, rfl, by decide, fun h => absurd h (by decide)⟩
theorem ResM.below (h : ResM W base v0 v1 v2 v3 us R) (hb : Below W.heap.size W W2) : ResM W2 base v0 v1 v2 v3 us R := ⟨Kd.R_below h.r0 hb, Kd.R_below h.r1 hb, Kd.R_below h.r2 hb, h.rows.below hb, h.a0, h.a1, h.aS⟩
end
theorem srvPick_sd (ss : List (S109)) (rs : List (List (S164))) (jobs : List (S67)) (x : SvSt) (done : List Int) (t : Nat) : (srvPick ss rs jobs x done t).2.sd.length = x.sd.length := by
  unfold srvPick srvK
  split
  · rfl
  · split
    · rfl
    · show (if _ then _ else _ : List (List Int)).length = _
      split
      · rw [List.length_set]
      · rfl
theorem simN_sd (ss : List (S109)) (rs : List (List (S164))) (jobs : List (S67)) : ∀ t, (simN jobs (srvPick ss rs jobs) (srv00 ss rs) t).1.sd.length = ss.length
  | 0 => by show (rowI rs ss.length ss.length).length = _; rw [rowI_len]
  | t + 1 => by
    have ih := simN_sd ss rs jobs t
    have h := srvPick_sd ss rs jobs (simN jobs (srvPick ss rs jobs) (srv00 ss rs) t).1 (simN jobs (srvPick ss rs jobs) (srv00 ss rs) t).2.1 t
    unfold simN simStep
    split
    · exact h.trans ih
    · split <;> exact h.trans ih
/-- impl.RunServers, whatever its arguments. -/
theorem runServers_any (A0 : Option Addr) (c0 : Nat) (l0 : List (S62)) (A : Option Addr) (c : Nat) (jobs : List (S67)) (As : Option Addr) (cs : Nat) (ss : List (S109)) (Ar : Option Addr) (cr : Nat) (rs : List (List (S164))) (w : World)
    (hr0 : Kd.C k62 w A0 l0.length l0) (hc0 : l0.length ≤ c0) (hj : Kd.C k67 w A jobs.length jobs) (hc : jobs.length ≤ c) (hs : Kd.C k109 w As ss.length ss) (hcs : ss.length ≤ cs) (hr : Kd.C (Kd.slice 164 k164) w Ar rs.length rs) (hcr : rs.length ≤ cr) (hrl : ∀ x ∈ rs, x.length ≤ 1048576) :
    Calls Try.prog 22 #[.slice A0 l0.length c0, .slice A jobs.length c, .slice As ss.length cs, .slice Ar rs.length cr] w fun e w' => ∃ (v0_ v1_ v2_ v3_ : Value) (us_ : List Value), e = .returned (.agg #[v0_, v1_, v2_, v3_]) ∧ ResM w' w.heap.size v0_ v1_ v2_ v3_ us_ (resS l0 jobs ss rs) ∧ Below w.heap.size w w' := by
  by_cases hg : goodS l0 jobs ss rs
  · have hres : resS l0 jobs ss rs = ((simN jobs (srvPick ss rs jobs) (srv00 ss rs) 120).2.2.1, (simN jobs (srvPick ss rs jobs) (srv00 ss rs) 120).2.2.2, (simN jobs (srvPick ss rs jobs) (srv00 ss rs) 120).1.ch, (simN jobs (srvPick ss rs jobs) (srv00 ss rs) 120).1.sd) := by unfold resS; rw [if_pos hg]
    have hld : (simN jobs (srvPick ss rs jobs) (srv00 ss rs) 120).1.sd.length = ss.length := simN_sd ss rs jobs 120
    rw [hres]
    refine (runServers_calls A0 c0 l0 A c jobs As cs ss Ar cr rs w hr0 hc0 hj hc hs hcs hr hcr (by rw [impl_JobsLegal_f, hg.1]) (by unfold impl_ServersValid.f; exact congrArg some hg.2.1) hg.2.2.1 hg.2.2.2 hrl).mono ?_
    rintro e w' ⟨gr, us, v0, v1, v2, rfl, h0, h1, h2, h3, a0, a1, aS, hgr, hb⟩
    exact ⟨v0, v1, v2, _, us, rfl, ⟨h0, h1, h2, .inl ⟨gr, by rw [hld], hgr, h3⟩, a0, a1, aS⟩, hb⟩
  · have hres : resS l0 jobs ss rs = ([], [], [], []) := by unfold resS; rw [if_neg hg]
    rw [hres]
    refine (runServers_bad A0 c0 l0 A c jobs As cs ss Ar cr rs (legal l0 jobs) (okServers ss) w hr0 hc0 hj hc hs hcs hr hcr (impl_JobsLegal_f _ _) rfl hrl (fun h => hg h)).mono ?_
    rintro e w' ⟨rfl, hb⟩
    exact ⟨_, _, _, _, [], rfl, ⟨Kd.R_nil _ _ _ _ _, Kd.R_nil _ _ _ _ _, Kd.R_nil _ _ _ _ _, .inr ⟨rfl, rfl, rfl⟩, (fun k e => by cases e), (fun k e => by cases e), (fun i k hi => by cases hi)⟩, hb⟩

end Go.Proofs.Ytonifhkplniblaa.Print
