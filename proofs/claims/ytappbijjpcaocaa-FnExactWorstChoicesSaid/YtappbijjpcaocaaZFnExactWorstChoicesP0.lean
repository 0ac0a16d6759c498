/- Functions of the translation as plain Lean functions, and their contracts. No condition. -/
import Derived.Test.YtappbijjpcaocaaPB
import Derived.Deep.DeepMust
import Derived.Deep.QuietTactic
import Derived.Lib.Hide
import Derived.Test.YtappbijjpcaocaaWalk
import Derived.BigQuiet
import Derived.Lib.LazyBuf
import Derived.Test.YtappbijjpcaocaaPEq0
namespace Go.Proofs.Ytappbijjpcaocaa.Print
open Go.RowKit Go.Proofs.YtappbijjpcaocaaW.PrintWords Go.Proofs.YtappbijjpcaocaaW.PrintLast Go.Proofs.YtappbijjpcaocaaW.PrintMore
attribute [local go_sem] max2_int min2_int max_two min_two max_three min_three max_four min_four
set_option linter.unusedVariables false
set_option linter.unusedSimpArgs false
/-! ### spec_l8Costs: function 54 (given) -/
open Go.Proofs.Ytappbijjpcaocaa.Walk
def itN {τ : Type} (f : τ → τ) : Nat → τ → τ
 | 0, x => x
 | k + 1, x => f (itN f k x)
def xnd (prog : List (S60)) (i : Nat) : S60 := prog.getD i z60
def exN {σ : Type} (prog : List (S60)) (ch : σ → Nat → Int → Int × σ) : Nat → Nat → σ → Int × σ
 | 0, _, s => (0, s)
 | d + 1, i, s =>
  if (xnd prog i).f0 = 2 then (wrap64 ((exN prog ch d (xnd prog i).f2.toNat s).1 + (exN prog ch d (xnd prog i).f3.toNat (exN prog ch d (xnd prog i).f2.toNat s).2).1), (exN prog ch d (xnd prog i).f3.toNat (exN prog ch d (xnd prog i).f2.toNat s).2).2)
  else if (xnd prog i).f0 = 3 then (if (ch s i 2).1 = 0 then (wrap64 ((xnd prog i).f1 + (exN prog ch d (xnd prog i).f2.toNat (ch s i 2).2).1), (exN prog ch d (xnd prog i).f2.toNat (ch s i 2).2).2) else (wrap64 ((xnd prog i).f1 + (exN prog ch d (xnd prog i).f3.toNat (ch s i 2).2).1), (exN prog ch d (xnd prog i).f3.toNat (ch s i 2).2).2))
  else if (xnd prog i).f0 = 4 then itN (fun x => (wrap64 (x.1 + wrap64 ((xnd prog i).f1 + (exN prog ch d (xnd prog i).f2.toNat x.2).1)), (exN prog ch d (xnd prog i).f2.toNat x.2).2)) (ch s i ((xnd prog i).f4 + 1)).1.toNat ((xnd prog i).f1, (ch s i ((xnd prog i).f4 + 1)).2)
  else ((xnd prog i).f1, s)
def ndOk (i : Nat) (n : S60) : Prop :=
 (n.f0 = 1 ∨ n.f0 = 2 ∨ n.f0 = 3 ∨ n.f0 = 4) ∧ (n.f0 = 2 → 0 ≤ n.f2 ∧ n.f2 < i ∧ 0 ≤ n.f3 ∧ n.f3 < i) ∧ (n.f0 = 3 → 0 ≤ n.f2 ∧ n.f2 < i ∧ 0 ≤ n.f3 ∧ n.f3 < i) ∧ (n.f0 = 4 → 0 ≤ n.f2 ∧ n.f2 < i ∧ 0 ≤ n.f4 ∧ n.f4 ≤ 4)
instance (i : Nat) (n : S60) : Decidable (ndOk i n) := by unfold ndOk; exact inferInstance
def cntN : Nat → Nat
 | 0 => 0
 | d + 1 => 5 * cntN d + 1
theorem itN_sz {σ : Type} (sz : σ → Nat) (f : Int × σ → Int × σ) (C : Nat) (hf : ∀ x, sz (f x).2 ≤ sz x.2 + C) (x0 : Int × σ) : ∀ j, j ≤ 4 → sz (itN f j x0).2 + (4 - j) * C ≤ sz x0.2 + 4 * C
 | 0, _ => by unfold itN; omega
 | j + 1, hj => by
  have ih := itN_sz sz f C hf x0 j (by omega)
  have h := hf (itN f j x0)
  have e : 4 - j = (4 - (j + 1)) + 1 := by omega
  rw [e, Nat.add_mul] at ih
  show sz (f (itN f j x0)).2 + (4 - (j + 1)) * C ≤ _
  omega
theorem exN_sz {σ : Type} (sz : σ → Nat) (prog : List (S60)) (ch : σ → Nat → Int → Int × σ) (hc : ∀ s i m, sz (ch s i m).2 ≤ sz s + 1) (hcr : ∀ (s : σ) (i : Nat) (m : Int), 1 ≤ m → m ≤ 5 → 0 ≤ (ch s i m).1 ∧ (ch s i m).1 < m) (hok : ∀ i, i < prog.length → ndOk i (xnd prog i)) : ∀ (d i : Nat), i < prog.length → ∀ (s : σ), sz (exN prog ch d i s).2 ≤ sz s + cntN d
 | 0, _, _, s => Nat.le_refl _
 | d + 1, i, hi, s => by
  have hnd := hok i hi
  have hr := hcr s i ((xnd prog i).f4 + 1)
  have hres : exN prog ch (d + 1) i s = if (xnd prog i).f0 = 2 then (wrap64 ((exN prog ch d (xnd prog i).f2.toNat s).1 + (exN prog ch d (xnd prog i).f3.toNat (exN prog ch d (xnd prog i).f2.toNat s).2).1), (exN prog ch d (xnd prog i).f3.toNat (exN prog ch d (xnd prog i).f2.toNat s).2).2)
   else if (xnd prog i).f0 = 3 then (if (ch s i 2).1 = 0 then (wrap64 ((xnd prog i).f1 + (exN prog ch d (xnd prog i).f2.toNat (ch s i 2).2).1), (exN prog ch d (xnd prog i).f2.toNat (ch s i 2).2).2) else (wrap64 ((xnd prog i).f1 + (exN prog ch d (xnd prog i).f3.toNat (ch s i 2).2).1), (exN prog ch d (xnd prog i).f3.toNat (ch s i 2).2).2))
   else if (xnd prog i).f0 = 4 then itN (fun x => (wrap64 (x.1 + wrap64 ((xnd prog i).f1 + (exN prog ch d (xnd prog i).f2.toNat x.2).1)), (exN prog ch d (xnd prog i).f2.toNat x.2).2)) (ch s i ((xnd prog i).f4 + 1)).1.toNat ((xnd prog i).f1, (ch s i ((xnd prog i).f4 + 1)).2)
   else ((xnd prog i).f1, s) := rfl
  rw [hres]
  have hC : cntN (d + 1) = 5 * cntN d + 1 := rfl
  rw [hC]
  unfold ndOk at hnd
  obtain ⟨_, hseq, hbr, hlp⟩ := hnd
  split
  ·rename_i k
   obtain ⟨h1, h2, h3, h4⟩ := hseq k
   have e1 := exN_sz sz prog ch hc hcr hok d (xnd prog i).f2.toNat (by omega) s
   have e2 := exN_sz sz prog ch hc hcr hok d (xnd prog i).f3.toNat (by omega) (exN prog ch d (xnd prog i).f2.toNat s).2
   simp only
   omega
  ·split
   ·rename_i k
    obtain ⟨h1, h2, h3, h4⟩ := hbr k
    have e0 := hc s i 2
    have e1 := exN_sz sz prog ch hc hcr hok d (xnd prog i).f2.toNat (by omega) (ch s i 2).2
    have e2 := exN_sz sz prog ch hc hcr hok d (xnd prog i).f3.toNat (by omega) (ch s i 2).2
    split
    ·simp only; omega
    ·simp only; omega
   ·split
    ·rename_i k
     obtain ⟨h1, h2, h3, h4⟩ := hlp k
     have hr2 := hr (by omega) (by omega)
     have e0 := hc s i ((xnd prog i).f4 + 1)
     have e1 := itN_sz sz (fun x : Int × σ => (wrap64 (x.1 + wrap64 ((xnd prog i).f1 + (exN prog ch d (xnd prog i).f2.toNat x.2).1)), (exN prog ch d (xnd prog i).f2.toNat x.2).2)) (cntN d) (fun x => exN_sz sz prog ch hc hcr hok d (xnd prog i).f2.toNat (by omega) x.2) ((xnd prog i).f1, (ch s i ((xnd prog i).f4 + 1)).2) (ch s i ((xnd prog i).f4 + 1)).1.toNat (by omega)
     simp only at e1
     have e2 : 0 ≤ (4 - (ch s i ((xnd prog i).f4 + 1)).1.toNat) * cntN d := Nat.zero_le _
     generalize (4 - (ch s i ((xnd prog i).f4 + 1)).1.toNat) * cntN d = G at e1 e2
     omega
    ·simp only; omega
def NK (W w' : World) : Prop := ∀ (k : Nat) (cs : Array Value) (fr : Nat × Nat), W.heap[k]? = some (.cells cs 60 fr) → w'.heap[k]? = some (.cells cs 60 fr)
theorem NK.refl (W : World) : NK W W := fun _ _ _ h => h
theorem NK.at_ {W V : World} (h : NK W V) {k : Nat} {cs : Array Value} {fr : Nat × Nat} (hb : W.heap[k]? = some (.cells cs 60 fr)) : V.heap[k]? = some (.cells cs 60 fr) := h k cs fr hb
theorem NK.trans {W V U : World} (h : NK W V) (h2 : NK V U) : NK W U := fun k cs fr hk => h2 k cs fr (h k cs fr hk)
theorem NK.below {W V : World} (h : Below W.heap.size W V) : NK W V := fun k cs fr hk => (h.block k (by
 rcases Nat.lt_or_ge k W.heap.size with h1 | h1
 ·exact h1
 ·rw [Array.getElem?_eq_none h1] at hk; cases hk)).trans hk
set_option maxHeartbeats 8000000 in
set_option maxRecDepth 100000 in
theorem execute_calls {σ : Type} (Inv : World → σ → Prop) (ch : σ → Nat → Int → Int × σ) (sz : σ → Nat) (M : Nat) (hcs : ∀ s i m, sz (ch s i m).2 ≤ sz s + 1) (w00 : World) (prog : List (S60)) (A : Option Addr) (c : Nat) (hp : Kd.C k60 w00 A prog.length prog) (hlen : prog.length ≤ 1000) (hok : ∀ i, i < prog.length → ndOk i (xnd prog i))
  (fp : FuncId) (p2 : Array Value) {fnp : Func} (hfp : Try.prog.funcs[fp]? = some fnp) (hname : (fnp.name == "runtime.NumGoroutine") = false) (hbody : fnp.body.isSome = true)
  (hst : ∀ W W' s, Inv W s → Below W.heap.size W W' → Inv W' s)
  (hcr : ∀ (s : σ) (i : Nat) (m : Int), 1 ≤ m → m ≤ 5 → 0 ≤ (ch s i m).1 ∧ (ch s i m).1 < m)
  (hch : ∀ (W : World) (s : σ) (i : Nat) (m : Int), sz s < M → Inv W s → Below w00.heap.size w00 W → i < prog.length → 1 ≤ m → m ≤ 5 → Calls Try.prog fp (#[.int .i64 (i : Int), .int .i64 m] ++ p2) W fun e w' => e = .returned (.int .i64 (ch s i m).1) ∧ Inv w' (ch s i m).2 ∧ Below w00.heap.size w00 w' ∧ NK W w') :
  ∀ (d i : Nat), i < d → i < prog.length → ∀ (W : World) (s : σ), sz s + cntN d ≤ M → Inv W s → Below w00.heap.size w00 W → Calls Try.prog 64 #[.slice A prog.length c, .int .i64 (i : Int), .func (.func fp) #[] p2] W fun e w' => e = .returned (.int .i64 (exN prog ch d i s).1) ∧ Inv w' (exN prog ch d i s).2 ∧ Below w00.heap.size w00 w' ∧ NK W w' := by
 intro d
 induction d with
 | zero => intro i hi; omega
 | succ d ih =>
  intro i hid hil W s hszM hI hB
  have hC : cntN (d + 1) = 5 * cntN d + 1 := rfl
  rw [hC] at hszM
  have hszE := exN_sz sz prog ch hcs hcr hok d
  clear hC
  have huN := Try.underlying60
  obtain ⟨ad0, e0, hy0, hy1, hy2, hy3, hy4⟩ := at_T60 (Kd.C_below hp hB) (i : Int) (by omega) (by omega)
  cases e0
  have hnd := hok i hil
  simp only [Int.toNat_natCast] at hy0 hy1 hy2 hy3 hy4
  have hrd : rd_T60 prog (i : Int) = xnd prog i := rfl
  rw [hrd] at hy0 hy1 hy2 hy3 hy4
  have hres : exN prog ch (d + 1) i s = if (xnd prog i).f0 = 2 then (wrap64 ((exN prog ch d (xnd prog i).f2.toNat s).1 + (exN prog ch d (xnd prog i).f3.toNat (exN prog ch d (xnd prog i).f2.toNat s).2).1), (exN prog ch d (xnd prog i).f3.toNat (exN prog ch d (xnd prog i).f2.toNat s).2).2)
   else if (xnd prog i).f0 = 3 then (if (ch s i 2).1 = 0 then (wrap64 ((xnd prog i).f1 + (exN prog ch d (xnd prog i).f2.toNat (ch s i 2).2).1), (exN prog ch d (xnd prog i).f2.toNat (ch s i 2).2).2) else (wrap64 ((xnd prog i).f1 + (exN prog ch d (xnd prog i).f3.toNat (ch s i 2).2).1), (exN prog ch d (xnd prog i).f3.toNat (ch s i 2).2).2))
   else if (xnd prog i).f0 = 4 then itN (fun x => (wrap64 (x.1 + wrap64 ((xnd prog i).f1 + (exN prog ch d (xnd prog i).f2.toNat x.2).1)), (exN prog ch d (xnd prog i).f2.toNat x.2).2)) (ch s i ((xnd prog i).f4 + 1)).1.toNat ((xnd prog i).f1, (ch s i ((xnd prog i).f4 + 1)).2)
   else ((xnd prog i).f1, s) := rfl
  generalize exN prog ch (d + 1) i s = R at hres ⊢
  generalize xnd prog i = z at hnd hres hy0 hy1 hy2 hy3 hy4
  obtain ⟨tk, tc, ta, tb, tn⟩ := z
  unfold ndOk at hnd
  simp only at hnd hres hy0 hy1 hy2 hy3 hy4
  obtain ⟨hkind, hseq, hbr, hlp⟩ := hnd
  have p0 : 0 ≤ (i : Int) := by omega
  have p1 : (i : Int) < (prog.length : Int) := by omega
  have hB3 : Below W.heap.size W (W.alloc (.cells #[.int .i64 tk, .int .i64 tc, .int .i64 ta, .int .i64 tb, .int .i64 tn] 60)) := below_alloc (Below.refl _ _) _
  have BS := blk_new W (.cells #[.int .i64 tk, .int .i64 tc, .int .i64 ta, .int .i64 tb, .int .i64 tn] 60)
  have HB3 := Aside0.mk (below_step hB hB3)
  have HI3 := Aside0.mk (hst _ _ _ hI hB3)
  have HNK := Aside0.mk (NK.below hB3)
  have HBS := Lib.hid BS
  have HFP := Lib.hid hfp
  have HST := Lib.hid hst
  have HIH := Lib.hid ih
  clear hB3 BS hst ih hp hok hB hI hrd hfp
  have HIL := Lib.hid hil
  have HDD := Lib.hid hid
  have hcall : ∀ (x : Int) (V : World) (s : σ), 0 ≤ x → x < i → sz s + cntN d ≤ M → Inv V s → Below w00.heap.size w00 V → Calls Try.prog 64 #[.slice (some ad0) prog.length c, .int .i64 x, .func (.func fp) #[] p2] V fun e w' => e = .returned (.int .i64 (exN prog ch d x.toNat s).1) ∧ Inv w' (exN prog ch d x.toNat s).2 ∧ Below w00.heap.size w00 w' ∧ NK V w' := by
   intro x V s h0 h1 hz hi hb
   obtain ⟨m, rfl⟩ : ∃ m : Nat, x = (m : Int) := ⟨x.toNat, by omega⟩
   exact HIH.out m (by omega) (by omega) V s hz hi hb
  have HCL := Lib.hid hcall
  have HZE := Lib.hid hszE
  clear hcall HIH HIL HDD hszE
  rcases hkind with rfl | rfl | rfl | rfl
  ·
   rw [if_neg (by decide), if_neg (by decide), if_neg (by decide)] at hres
   subst hres
   clear hch hcr hseq hbr hlp hil hid hcs hszM
   go_enter Try.func64, Try.ntmps64
   go_wp2_with fail
   go_ret
   exact ⟨rfl, HI3.out, HB3.out, HNK.out⟩
  ·
   rw [if_pos rfl] at hres
   obtain ⟨h1, h2, h3, h4⟩ := hseq rfl
   have c1 := fun V (hi : Inv V s) hb => HCL.out ta V s h1 h2 (by omega) hi hb
   have hz1 := HZE.out ta.toNat (by omega) s
   generalize exN prog ch d ta.toNat s = X at c1 hres hz1
   obtain ⟨x1, s1⟩ := X
   simp only at c1 hres hz1
   have c2 := fun V (hi : Inv V s1) hb => HCL.out tb V s1 h3 h4 (by omega) hi hb
   generalize exN prog ch d tb.toNat s1 = Y at c2 hres
   obtain ⟨x2, s2⟩ := Y
   simp only at c2 hres
   subst hres
   have C1 := Lib.hid c1
   have C2 := Lib.hid c2
   clear c1 c2 HCL hch hcr hseq hbr hlp hil hid h1 h2 h3 h4 hcs hszM hz1 HZE
   go_enter Try.func64, Try.ntmps64
   go_wp2_with (first | (go_at_call 64; refine (C2.out _ HI4.out HB4.out).mono ?_; rintro e w5 ⟨rfl, hi5, hb5, hk5⟩; have HI5 := Aside0.mk hi5; have HB5 := Aside0.mk hb5; have HK5 := Aside0.mk hk5; clear hi5 hb5 hk5) | (go_at_call 64; refine (C1.out _ HI3.out HB3.out).mono ?_; rintro e w4 ⟨rfl, hi4, hb4, hk4⟩; have HI4 := Aside0.mk hi4; have HB4 := Aside0.mk hb4; have HK4 := Aside0.mk hk4; have BS4 := NK.at_ hk4 HBS.out; have q3 := (blk_cell BS4 3).trans rfl; clear hi4 hb4 hk4 BS4))
   go_ret
   exact ⟨rfl, HI5.out, HB5.out, (HNK.out.trans HK4.out).trans HK5.out⟩
  ·
   rw [if_neg (by decide), if_pos rfl] at hres
   obtain ⟨h1, h2, h3, h4⟩ := hbr rfl
   have hc := fun V (hi : Inv V s) hb => hch V s i 2 (by omega) hi hb hil (by omega) (by omega)
   have hz1 := hcs s i 2
   generalize ch s i 2 = T at hc hres hz1
   obtain ⟨t, s1⟩ := T
   simp only at hc hres hz1
   have HCH := Lib.hid (hc _ HI3.out HB3.out)
   clear hc hch hcr
   by_cases ht : t = 0
   ·have b0 : (t == 0) = true := by rw [beq_iff_eq]; exact ht
    rw [if_pos ht] at hres
    have c1 := fun V (hi : Inv V s1) hb => HCL.out ta V s1 h1 h2 (by omega) hi hb
    generalize exN prog ch d ta.toNat s1 = X at c1 hres
    obtain ⟨x1, s2⟩ := X
    simp only at c1 hres
    subst hres
    have C1 := Lib.hid c1
    clear c1 HCL hseq hbr hlp hil hid h1 h2 h3 h4 ht hcs hszM hz1 HZE
    go_enter Try.func64, Try.ntmps64
    go_wp2_with (((with_reducible refine gate_value (n := 32) rfl ?_; go_must (refine goesF_ (some 34) rfl rfl rfl rfl HFP.out hname hbody (#[.int .i64 (i : Int), .int .i64 2] ++ p2) (by simp [Act.eval]) ?_; refine HCH.out.mono ?_; rintro e w2 ⟨rfl, hi2, hb2, hk2⟩; refine ⟨_, rfl, ?_⟩; have HI2 := Aside0.mk hi2; have HB2 := Aside0.mk hb2; have HK2 := Aside0.mk hk2; have BS2 := NK.at_ hk2 HBS.out; have q1 := (blk_cell BS2 1).trans rfl; have q2 := (blk_cell BS2 2).trans rfl; have q3 := (blk_cell BS2 3).trans rfl; have HBS2 := Lib.hid BS2; clear hi2 hb2 hk2 BS2))))
    have hd2 : Below w2.heap.size w2 w2.drew := Drawn0.below ((Drawn0.refl w2).step 1)
    have C1D := Lib.hid (C1.out w2.drew (HST.out _ _ _ HI2.out hd2) (below_step HB2.out hd2))
    have HKD := Lib.hid (NK.below hd2)
    clear hd2
    go_region_held3 (fun w' => w'.cell? ⟨W.heap.size, 1, none⟩ = some (.int .i64 tc) ∧ w'.cell? ⟨W.heap.size, 2, none⟩ = some (.int .i64 ta)) (go_keep) (first | (go_at_call 64; refine C1D.out.mono ?_; rintro e w4 ⟨rfl, hi4, hb4, hk4⟩; have HI4 := Aside0.mk hi4; have HB4 := Aside0.mk hb4; have HK4 := Aside0.mk hk4; have BS4 := NK.at_ hk4 (NK.at_ HKD.out HBS2.out); have q1 := (blk_cell BS4 1).trans rfl; have q2 := (blk_cell BS4 2).trans rfl; clear hi4 hb4 hk4 BS4))
    go_wp2
    go_ret
    exact ⟨by simp only [i64_w]; rfl, HI4.out, HB4.out, ((HNK.out.trans HK2.out).trans HKD.out).trans HK4.out⟩
   ·have b0 : (t == 0) = false := by rw [beq_eq_false_iff_ne]; exact ht
    rw [if_neg ht] at hres
    have c1 := fun V (hi : Inv V s1) hb => HCL.out tb V s1 h3 h4 (by omega) hi hb
    generalize exN prog ch d tb.toNat s1 = X at c1 hres
    obtain ⟨x1, s2⟩ := X
    simp only at c1 hres
    subst hres
    have C1 := Lib.hid c1
    clear c1 HCL hseq hbr hlp hil hid h1 h2 h3 h4 ht hcs hszM hz1 HZE
    go_enter Try.func64, Try.ntmps64
    go_wp2_with (((with_reducible refine gate_value (n := 32) rfl ?_; go_must (refine goesF_ (some 34) rfl rfl rfl rfl HFP.out hname hbody (#[.int .i64 (i : Int), .int .i64 2] ++ p2) (by simp [Act.eval]) ?_; refine HCH.out.mono ?_; rintro e w2 ⟨rfl, hi2, hb2, hk2⟩; refine ⟨_, rfl, ?_⟩; have HI2 := Aside0.mk hi2; have HB2 := Aside0.mk hb2; have HK2 := Aside0.mk hk2; have BS2 := NK.at_ hk2 HBS.out; have q1 := (blk_cell BS2 1).trans rfl; have q2 := (blk_cell BS2 2).trans rfl; have q3 := (blk_cell BS2 3).trans rfl; have HBS2 := Lib.hid BS2; clear hi2 hb2 hk2 BS2))))
    have hd2 : Below w2.heap.size w2 w2.drew := Drawn0.below ((Drawn0.refl w2).step 1)
    have C1D := Lib.hid (C1.out w2.drew (HST.out _ _ _ HI2.out hd2) (below_step HB2.out hd2))
    have HKD := Lib.hid (NK.below hd2)
    clear hd2
    go_region_held3 (fun w' => w'.cell? ⟨W.heap.size, 1, none⟩ = some (.int .i64 tc) ∧ w'.cell? ⟨W.heap.size, 3, none⟩ = some (.int .i64 tb)) (go_keep) (first | (go_at_call 64; refine C1D.out.mono ?_; rintro e w4 ⟨rfl, hi4, hb4, hk4⟩; have HI4 := Aside0.mk hi4; have HB4 := Aside0.mk hb4; have HK4 := Aside0.mk hk4; have BS4 := NK.at_ hk4 (NK.at_ HKD.out HBS2.out); have q1 := (blk_cell BS4 1).trans rfl; have q3 := (blk_cell BS4 3).trans rfl; clear hi4 hb4 hk4 BS4))
    go_wp2
    go_ret
    exact ⟨by simp only [i64_w]; rfl, HI4.out, HB4.out, ((HNK.out.trans HK2.out).trans HKD.out).trans HK4.out⟩
  ·
   rw [if_neg (by decide), if_neg (by decide), if_pos rfl] at hres
   obtain ⟨h1, h2, h3, h4⟩ := hlp rfl
   have hc := fun V (hi : Inv V s) hb => hch V s i (tn + 1) (by omega) hi hb hil (by omega) (by omega)
   have hz1 := hcs s i (tn + 1)
   have hr := hcr s i (tn + 1) (by omega) (by omega)
   generalize ch s i (tn + 1) = T at hc hres hr hz1
   obtain ⟨t, s1⟩ := T
   simp only at hc hres hr hz1
   obtain ⟨K, rfl⟩ : ∃ K : Nat, t = (K : Int) := ⟨t.toNat, by omega⟩
   rw [Int.toNat_natCast] at hres
   obtain ⟨F, hF⟩ : ∃ F : Int × σ → Int × σ, F = (fun x => (wrap64 (x.1 + wrap64 (tc + (exN prog ch d ta.toNat x.2).1)), (exN prog ch d ta.toNat x.2).2)) := ⟨_, rfl⟩
   rw [← hF] at hres
   have HF := Lib.hid hF
   have HRES := Lib.hid hres
   have HCH := Lib.hid (hc _ HI3.out HB3.out)
   have hK : K ≤ 4 := by omega
   have hw0 : IntKind.i64.wrap (tn + 1) = tn + 1 := by rw [i64_w]; unfold wrap64; omega
   have hzj : ∀ j, j < K → sz (itN F j (tc, s1)).2 + cntN d ≤ M := fun j hj => by
    have e1 := itN_sz sz F (cntN d) (fun x => by rw [hF]; exact HZE.out ta.toNat (by omega) x.2) (tc, s1) j (by omega)
    simp only at e1
    have e2 : cntN d ≤ (4 - j) * cntN d := Nat.le_mul_of_pos_left _ (by omega)
    generalize (4 - j) * cntN d = G at e1 e2
    omega
   have HZJ := Lib.hid hzj
   have HTA := Lib.hid (And.intro h1 h2)
   clear hF hc hch hcr hres hseq hbr hlp hil hid h1 h2 h3 h4 hr hcs hszM hz1 HZE hzj
   go_enter Try.func64, Try.ntmps64
   go_wp2_with (((with_reducible refine gate_value (n := 56) rfl ?_; go_must (refine goesF_ (some 61) rfl rfl rfl rfl HFP.out hname hbody (#[.int .i64 (i : Int), .int .i64 (tn + 1)] ++ p2) (by simp [Act.eval]) ?_; refine HCH.out.mono ?_; rintro e w2 ⟨rfl, hi2, hb2, hk2⟩; refine ⟨_, rfl, ?_⟩; have HI2 := Aside0.mk hi2; have HB2 := Aside0.mk hb2; have HK2 := Aside0.mk hk2; have BS2 := NK.at_ hk2 HBS.out; have q1 := (blk_cell BS2 1).trans rfl; have q2 := (blk_cell BS2 2).trans rfl; have q3 := (blk_cell BS2 3).trans rfl; have HBS2 := Lib.hid BS2; clear hi2 hb2 hk2 BS2))))
   go_loopw [9, 62] (fun v9 v62 w' => ∃ j : Nat, v62 = .int .i64 (j : Int) ∧ j ≤ K ∧ v9 = .int .i64 (itN F j (tc, s1)).1 ∧ Aside0 (Inv w' (itN F j (tc, s1)).2 ∧ Below w00.heap.size w00 w' ∧ NK w2 w')) (fun v9 v62 _ => K - (intOf v62).toNat)
   case atStart => exact ⟨0, rfl, Nat.zero_le _, rfl, ⟨⟨HI2.out, HB2.out, NK.refl _⟩⟩⟩
   case round =>
    obtain ⟨j, rfl, hj, rfl, HR⟩ := hrel
    by_cases hjk : j < K
    ·have b1 : decide ((j : Int) < (K : Int)) = true := decide_eq_true (by omega)
     have BSr := NK.at_ HR.out.2.2 HBS2.out
     have r1 := (blk_cell BSr 1).trans rfl
     have r2 := (blk_cell BSr 2).trans rfl
     have hnx : itN F (j + 1) (tc, s1) = F (itN F j (tc, s1)) := rfl
     have hzx := HZJ.out j hjk
     obtain ⟨X, hX⟩ : ∃ X, X = itN F j (tc, s1) := ⟨_, rfl⟩
     rw [← hX] at hnx HR hzx
     try rw [← hX]
     clear hX
     obtain ⟨x, sx⟩ := X
     simp only at HR
     rw [HF.out] at hnx
     simp only at hnx
     have hd2 : Below wr.heap.size wr wr.drew := Drawn0.below ((Drawn0.refl wr).step 1)
     have c1 := HCL.out ta wr.drew sx HTA.out.1 HTA.out.2 hzx (HST.out _ _ _ HR.out.1 hd2) (below_step HR.out.2.1 hd2)
     have HKD := Lib.hid (NK.below hd2)
     generalize exN prog ch d ta.toNat sx = Y at c1 hnx
     obtain ⟨y, sy⟩ := Y
     simp only at c1 hnx
     rw [← HF.out] at hnx
     have C1D := Lib.hid c1
     have HNX := Lib.hid hnx
     have HBSr := Lib.hid BSr
     clear hd2 c1 hnx BSr hzx
     go_wp2_with fail
     go_region_held3 (fun w' => w'.cell? ⟨W.heap.size, 1, none⟩ = some (.int .i64 tc) ∧ w'.cell? ⟨W.heap.size, 2, none⟩ = some (.int .i64 ta)) (go_keep) (first | (go_at_call 64; refine C1D.out.mono ?_; rintro e w4 ⟨rfl, hi4, hb4, hk4⟩; have HI4 := Aside0.mk hi4; have HB4 := Aside0.mk hb4; have HK4 := Aside0.mk hk4; have BS4 := NK.at_ hk4 (NK.at_ HKD.out HBSr.out); have u1 := (blk_cell BS4 1).trans rfl; have u2 := (blk_cell BS4 2).trans rfl; clear hi4 hb4 hk4 BS4))
     go_wp2_with fail
     go_roundw
     case rel => exact ⟨j + 1, by go_num, by omega, by rw [HNX.out]; simp only [i64_w], ⟨⟨by rw [HNX.out]; exact HI4.out, HB4.out, (HR.out.2.2.trans HKD.out).trans HK4.out⟩⟩⟩
     case measure => simp [intOf]; omega
    ·have b1 : decide ((j : Int) < (K : Int)) = false := decide_eq_false (by omega)
     obtain rfl : j = K := by omega
     rw [← HRES.out] at HR
     try rw [← HRES.out]
     go_wp2_with fail
     go_ret
     exact ⟨rfl, HR.out.1, HR.out.2.1, (HNK.out.trans HK2.out).trans HR.out.2.2⟩
open Go.Proofs.Ytappbijjpcaocaa.Walk
def csW (n : S60) (o : List Int) : Int :=
 if n.f0 = 2 then wrap64 (o.getD n.f2.toNat 0 + o.getD n.f3.toNat 0)
 else if n.f0 = 3 then wrap64 (n.f1 + mx (o.getD n.f2.toNat 0) (o.getD n.f3.toNat 0))
 else if n.f0 = 4 then wrap64 (n.f1 + wrap64 (n.f4 * wrap64 (n.f1 + o.getD n.f2.toNat 0)))
 else n.f1
def csL (l : List (S60)) : Nat → List Int
 | 0 => []
 | i + 1 => csL l i ++ [mn (csW (xnd l i) (csL l i)) 601]
theorem csL_len (l : List (S60)) : ∀ i, (csL l i).length = i
 | 0 => rfl
 | i + 1 => by unfold csL; rw [List.length_append, csL_len l i]; rfl
def csOk (l : List (S60)) : Bool := decide (l.length ≤ 12) && (List.range l.length).all (fun i => decide (ndOk i (xnd l i)))
def spec_l8Costs.f (l0 : List (S60)) (b : Bool) : Option (List Int) := if b = true ∧ csOk l0 = true then some (csL l0 l0.length) else none
set_option maxHeartbeats 4000000 in
set_option maxRecDepth 100000 in
theorem spec_l8Costs.calls (A0 : Option Addr) (c0 : Nat) (l0 : List (S60)) (b : Bool) (r : List Int) (w : World) (hr0 : Kd.C k60 w A0 l0.length l0) (hc0 : l0.length ≤ c0) (h : spec_l8Costs.f l0 b = some r) :
  Calls Try.prog 54 #[.slice A0 l0.length c0, .bool b] w fun e w' => ∃ v0_ : Value, e = .returned (v0_) ∧ Kd.R (Kd.int .i64) 3 w' w.heap.size (fun _ => True) v0_ r ∧ Below w.heap.size w w' := by
 have huN := Try.underlying60
 unfold spec_l8Costs.f at h
 by_cases hb : b = true ∧ csOk l0 = true
 ·rw [if_pos hb] at h
  obtain rfl := Option.some.inj h
  obtain ⟨rfl, hok⟩ := hb
  unfold csOk at hok
  rw [Bool.and_eq_true, List.all_eq_true] at hok
  have hl12 := of_decide_eq_true hok.1
  have hnd : ∀ i, i < l0.length → ndOk i (xnd l0 i) := fun i hi => of_decide_eq_true (hok.2 i (List.mem_range.2 hi))
  have HR0 := Lib.hid hr0
  have HL := Lib.hid hl12
  have HND := Lib.hid hnd
  have HE : Hid (Kd.R (Kd.int .i64) 3 (w.alloc (.cells #[] 3)) w.heap.size (fun _ => True) (.slice (some ⟨w.heap.size, 0, none⟩) 0 0) []) := Lib.hid (Kd.R_of_own (h1 := fun _ => rfl) (own_lit w w.heap.size 3 .i64 [] (Nat.le_refl _) (by simp)) (fun _ _ => trivial))
  clear hr0 hc0 h hok hnd
  go_enter Try.func54, Try.ntmps54
  go_wp2_with fail
  go_loopw [5, 6] (fun v5 v6 w' => ∃ i : Nat, v6 = .int .i64 (i : Int) ∧ i ≤ l0.length ∧ Aside0 (Kd.R (Kd.int .i64) 3 w' w.heap.size (fun _ => True) v5 (csL l0 i)) ∧ Aside0 (Below w.heap.size w w')) (fun v5 v6 _ => l0.length - (intOf v6).toNat)
  case atStart => exact ⟨0, rfl, Nat.zero_le _, ⟨HE.out⟩, ⟨below_alloc (Below.refl _ _) _⟩⟩
  case round =>
   clear HE
   obtain ⟨i, rfl, hi, HO, HB⟩ := hrel
   by_cases hlt : i < l0.length
   ·have b1 : decide ((i : Int) < (l0.length : Int)) = true := decide_eq_true (by omega)
    obtain ⟨ad0, e0, hy0, hy1, hy2, hy3, hy4⟩ := at_T60 (Kd.C_below HR0.out HB.out) (i : Int) (by omega) (by omega)
    cases e0
    have hnd := HND.out i hlt
    simp only [Int.toNat_natCast] at hy0 hy1 hy2 hy3 hy4
    have hrd : rd_T60 l0 (i : Int) = xnd l0 i := rfl
    rw [hrd] at hy0 hy1 hy2 hy3 hy4
    have hnx : csL l0 (i + 1) = csL l0 i ++ [mn (csW (xnd l0 i) (csL l0 i)) 601] := rfl
    have hln := csL_len l0 i
    unfold csW at hnx
    generalize xnd l0 i = z at hnd hnx hy0 hy1 hy2 hy3 hy4
    obtain ⟨tk, tc, ta, tb, tn⟩ := z
    unfold ndOk at hnd
    simp only at hnd hnx hy0 hy1 hy2 hy3 hy4
    obtain ⟨hkind, hseq, hbr, hlp⟩ := hnd
    have p0 : 0 ≤ (i : Int) := by omega
    have p1 : (i : Int) < (l0.length : Int) := by omega
    have hw1 : IntKind.i64.wrap ((i : Int) + 1) = (i : Int) + 1 := by rw [i64_w]; unfold wrap64; omega
    rcases hkind with rfl | rfl | rfl | rfl
    ·rw [if_neg (by decide), if_neg (by decide), if_neg (by decide)] at hnx
     have HN := Lib.hid hnx
     clear hnx hseq hbr hlp hrd hln
     go_upto_region 17 with (fail)
     generalize hq_ : World.alloc wr _ = w2
     ((
      have n0_ : Aside0 (Below w.heap.size w w2) := ⟨(by rw [← hq_]; first | exact pw_below_drewN (below_alloc HB.out _) _ | exact below_alloc HB.out _)⟩
      have n1_ : Aside0 (Kd.R (Kd.int .i64) 3 w2 w.heap.size (fun _ => True) u5 (csL l0 i)) := ⟨(by rw [← hq_]; first | exact Kd.R_drewN (Kd.R_alloc HO.out _) _ | exact Kd.R_alloc HO.out _)⟩
      clear hq_ HB HO
      have HB := n0_
      have HO := n1_
      clear n0_ n1_
      go_wp2_with ((with_reducible refine gate_builtin (b := .append) (xs := #[.tmp 85, .tmp 88]) rfl ?_); at_builtin; refine Kd.R_append (Kd.int .i64) (w0 := w) w.heap.size rfl (.tmp 85) (.tmp 88) 23 3 (.int .i64 0) 8 rfl Try.underlying23 info3 rfl (by decide) (by omega) u5 (csL l0 i) (mn tc 601) [.int .i64 (mn tc 601)] (fun _ => True) (fun _ => False) rfl rfl ?aP (fun _ hk => hk.elim) ?aF ?aO ?aB ?aS ?aL ?_; (case aP => exact rfl); (case aB => exact HB.out); (case aF => exact (fun _ _ => trivial)); (case aO => exact HO.out); (case aS => exact HB.out.size); (case aL => rw [csL_len]; have := HL.out; omega); intro v1 w5 ho hb hg hat; rw [← HN.out] at ho; have HO5 := Aside0.mk ho; have HB5 := Aside0.mk hb; clear ho hb hg hat)
      go_roundw
      (case rel => exact ⟨i + 1, by go_num, by omega, HO5, HB5⟩)
      (case measure => simp [intOf]; omega)))
    ·obtain ⟨h1, h2, h3, h4⟩ := hseq rfl
     rw [if_pos rfl] at hnx
     obtain ⟨g, cap, ev, _⟩ := Kd.R_form HO.out (by omega)
     rw [hln] at ev
     subst ev
     obtain ⟨hxa, _⟩ := Kd.R_celln 0 HO.out ta (by omega) (by omega)
     obtain ⟨hxb, _⟩ := Kd.R_celln 0 HO.out tb (by omega) (by omega)
     have r1 : rdOf 0 (csL l0 i) ta = (csL l0 i).getD ta.toNat 0 := rfl
     have r2 : rdOf 0 (csL l0 i) tb = (csL l0 i).getD tb.toNat 0 := rfl
     rw [r1] at hxa
     rw [r2] at hxb
     generalize (csL l0 i).getD ta.toNat 0 = xa at hxa hnx
     generalize (csL l0 i).getD tb.toNat 0 = xb at hxb hnx
     have q0 : ta < (i : Int) := by omega
     have q1 : tb < (i : Int) := by omega
     obtain ⟨c, hc⟩ : ∃ c, c = wrap64 (xa + xb) := ⟨_, rfl⟩
     have hww : IntKind.i64.wrap (xa + xb) = c := by rw [i64_w, hc]
     rw [← hc] at hnx
     have n1 := World.new_ne wr _ hxa
     have n2 := World.new_ne wr _ hxb
     have HN := Lib.hid hnx
     clear hnx hseq hbr hlp hrd hln r1 r2 hc
     go_wp2_with fail
     go_quiet (fail)
     generalize hq_ : World.drewN (World.alloc wr _) _ = w2
     ((
      have n0_ : Aside0 (Below w.heap.size w w2) := ⟨(by rw [← hq_]; first | exact pw_below_drewN (below_alloc HB.out _) _ | exact below_alloc HB.out _)⟩
      have n1_ : Aside0 (Kd.R (Kd.int .i64) 3 w2 w.heap.size (fun _ => True) (.slice (some ⟨g, 0, none⟩) i cap) (csL l0 i)) := ⟨(by rw [← hq_]; first | exact Kd.R_drewN (Kd.R_alloc HO.out _) _ | exact Kd.R_alloc HO.out _)⟩
      clear hq_ HB HO
      have HB := n0_
      have HO := n1_
      clear n0_ n1_
      go_wp2_with ((with_reducible refine gate_builtin (b := .append) (xs := #[.tmp 85, .tmp 88]) rfl ?_); at_builtin; refine Kd.R_append (Kd.int .i64) (w0 := w) w.heap.size rfl (.tmp 85) (.tmp 88) 23 3 (.int .i64 0) 8 rfl Try.underlying23 info3 rfl (by decide) (by omega) (.slice (some ⟨g, 0, none⟩) i cap) (csL l0 i) (mn c 601) [.int .i64 (mn c 601)] (fun _ => True) (fun _ => False) rfl rfl ?aP (fun _ hk => hk.elim) ?aF ?aO ?aB ?aS ?aL ?_; (case aP => exact rfl); (case aB => exact HB.out); (case aF => exact (fun _ _ => trivial)); (case aO => exact HO.out); (case aS => exact HB.out.size); (case aL => rw [csL_len]; have := HL.out; omega); intro v1 w5 ho hb hg hat; rw [← HN.out] at ho; have HO5 := Aside0.mk ho; have HB5 := Aside0.mk hb; clear ho hb hg hat)
      go_roundw
      (case rel => exact ⟨i + 1, by go_num, by omega, HO5, HB5⟩)
      (case measure => simp [intOf]; omega)))
    ·obtain ⟨h1, h2, h3, h4⟩ := hbr rfl
     rw [if_neg (by decide), if_pos rfl] at hnx
     obtain ⟨g, cap, ev, _⟩ := Kd.R_form HO.out (by omega)
     rw [hln] at ev
     subst ev
     obtain ⟨hxa, _⟩ := Kd.R_celln 0 HO.out ta (by omega) (by omega)
     have r1 : rdOf 0 (csL l0 i) ta = (csL l0 i).getD ta.toNat 0 := rfl
     rw [r1] at hxa
     generalize (csL l0 i).getD ta.toNat 0 = xa at hxa hnx
     have q0 : ta < (i : Int) := by omega
     have n1 := World.new_ne wr _ hxa
     obtain ⟨hxb, _⟩ := Kd.R_celln 0 HO.out tb (by omega) (by omega)
     have r2 : rdOf 0 (csL l0 i) tb = (csL l0 i).getD tb.toNat 0 := rfl
     rw [r2] at hxb
     generalize (csL l0 i).getD tb.toNat 0 = xb at hxb hnx
     have q1 : tb < (i : Int) := by omega
     have n2 := World.new_ne wr _ hxb
     obtain ⟨m, hm⟩ : ∃ m, m = mx xa xb := ⟨_, rfl⟩
     have hm2 : (if xa < xb then xb else xa) = m := hm.symm
     obtain ⟨c, hc⟩ : ∃ c, c = wrap64 (tc + m) := ⟨_, rfl⟩
     have hww : IntKind.i64.wrap (tc + m) = c := by rw [i64_w, hc]
     rw [← hm, ← hc] at hnx
     have HN := Lib.hid hnx
     clear hnx hseq hbr hlp hrd hln r1 r2 hc hm
     go_wp2_with fail
     go_quiet (fail)
     generalize hq_ : World.drewN (World.alloc wr _) _ = w2
     ((
      have n0_ : Aside0 (Below w.heap.size w w2) := ⟨(by rw [← hq_]; first | exact pw_below_drewN (below_alloc HB.out _) _ | exact below_alloc HB.out _)⟩
      have n1_ : Aside0 (Kd.R (Kd.int .i64) 3 w2 w.heap.size (fun _ => True) (.slice (some ⟨g, 0, none⟩) i cap) (csL l0 i)) := ⟨(by rw [← hq_]; first | exact Kd.R_drewN (Kd.R_alloc HO.out _) _ | exact Kd.R_alloc HO.out _)⟩
      clear hq_ HB HO
      have HB := n0_
      have HO := n1_
      clear n0_ n1_
      go_wp2_with ((with_reducible refine gate_builtin (b := .append) (xs := #[.tmp 85, .tmp 88]) rfl ?_); at_builtin; refine Kd.R_append (Kd.int .i64) (w0 := w) w.heap.size rfl (.tmp 85) (.tmp 88) 23 3 (.int .i64 0) 8 rfl Try.underlying23 info3 rfl (by decide) (by omega) (.slice (some ⟨g, 0, none⟩) i cap) (csL l0 i) (mn c 601) [.int .i64 (mn c 601)] (fun _ => True) (fun _ => False) rfl rfl ?aP (fun _ hk => hk.elim) ?aF ?aO ?aB ?aS ?aL ?_; (case aP => exact rfl); (case aB => exact HB.out); (case aF => exact (fun _ _ => trivial)); (case aO => exact HO.out); (case aS => exact HB.out.size); (case aL => rw [csL_len]; have := HL.out; omega); intro v1 w5 ho hb hg hat; rw [← HN.out] at ho; have HO5 := Aside0.mk ho; have HB5 := Aside0.mk hb; clear ho hb hg hat)
      go_roundw
      (case rel => exact ⟨i + 1, by go_num, by omega, HO5, HB5⟩)
      (case measure => simp [intOf]; omega)))
    ·obtain ⟨h1, h2, h3, h4⟩ := hlp rfl
     rw [if_neg (by decide), if_neg (by decide), if_pos rfl] at hnx
     obtain ⟨g, cap, ev, _⟩ := Kd.R_form HO.out (by omega)
     rw [hln] at ev
     subst ev
     obtain ⟨hxa, _⟩ := Kd.R_celln 0 HO.out ta (by omega) (by omega)
     have r1 : rdOf 0 (csL l0 i) ta = (csL l0 i).getD ta.toNat 0 := rfl
     rw [r1] at hxa
     generalize (csL l0 i).getD ta.toNat 0 = xa at hxa hnx
     have q0 : ta < (i : Int) := by omega
     have n1 := World.new_ne wr _ hxa
     obtain ⟨d1, hd1⟩ : ∃ d1, d1 = wrap64 (tc + xa) := ⟨_, rfl⟩
     obtain ⟨d2, hd2⟩ : ∃ d2, d2 = wrap64 (tn * d1) := ⟨_, rfl⟩
     obtain ⟨c, hc⟩ : ∃ c, c = wrap64 (tc + d2) := ⟨_, rfl⟩
     have hw2 : IntKind.i64.wrap (tc + xa) = d1 := by rw [i64_w, hd1]
     have hw3 : IntKind.i64.wrap (tn * d1) = d2 := by rw [i64_w, hd2]
     have hww : IntKind.i64.wrap (tc + d2) = c := by rw [i64_w, hc]
     rw [← hd1, ← hd2, ← hc] at hnx
     have HN := Lib.hid hnx
     clear hnx hseq hbr hlp hrd hln r1 hc hd1 hd2
     go_wp2_with fail
     go_quiet (fail)
     generalize hq_ : World.drewN (World.alloc wr _) _ = w2
     ((
      have n0_ : Aside0 (Below w.heap.size w w2) := ⟨(by rw [← hq_]; first | exact pw_below_drewN (below_alloc HB.out _) _ | exact below_alloc HB.out _)⟩
      have n1_ : Aside0 (Kd.R (Kd.int .i64) 3 w2 w.heap.size (fun _ => True) (.slice (some ⟨g, 0, none⟩) i cap) (csL l0 i)) := ⟨(by rw [← hq_]; first | exact Kd.R_drewN (Kd.R_alloc HO.out _) _ | exact Kd.R_alloc HO.out _)⟩
      clear hq_ HB HO
      have HB := n0_
      have HO := n1_
      clear n0_ n1_
      go_wp2_with ((with_reducible refine gate_builtin (b := .append) (xs := #[.tmp 85, .tmp 88]) rfl ?_); at_builtin; refine Kd.R_append (Kd.int .i64) (w0 := w) w.heap.size rfl (.tmp 85) (.tmp 88) 23 3 (.int .i64 0) 8 rfl Try.underlying23 info3 rfl (by decide) (by omega) (.slice (some ⟨g, 0, none⟩) i cap) (csL l0 i) (mn c 601) [.int .i64 (mn c 601)] (fun _ => True) (fun _ => False) rfl rfl ?aP (fun _ hk => hk.elim) ?aF ?aO ?aB ?aS ?aL ?_; (case aP => exact rfl); (case aB => exact HB.out); (case aF => exact (fun _ _ => trivial)); (case aO => exact HO.out); (case aS => exact HB.out.size); (case aL => rw [csL_len]; have := HL.out; omega); intro v1 w5 ho hb hg hat; rw [← HN.out] at ho; have HO5 := Aside0.mk ho; have HB5 := Aside0.mk hb; clear ho hb hg hat)
      go_roundw
      (case rel => exact ⟨i + 1, by go_num, by omega, HO5, HB5⟩)
      (case measure => simp [intOf]; omega)))
   ·have b1 : decide ((i : Int) < (l0.length : Int)) = false := decide_eq_false (by omega)
    obtain rfl : i = l0.length := by omega
    go_wp2_with fail
    go_ret
    exact ⟨_, rfl, HO.out, HB.out⟩
 ·rw [if_neg hb] at h; cases h
end Go.Proofs.Ytappbijjpcaocaa.Print
namespace Go.Proofs.Ytappbijjpcaocaa.Print
open Go.RowKit Go.Proofs.YtappbijjpcaocaaW.PrintWords Go.Proofs.YtappbijjpcaocaaW.PrintLast Go.Proofs.YtappbijjpcaocaaW.PrintMore
attribute [local go_sem] max2_int min2_int max_two min_two max_three min_three max_four min_four
set_option linter.unusedVariables false
set_option linter.unusedSimpArgs false
/-! ### impl_in: function 49 -/
def impl_in.f (a0 : Int) (a1 : Int) (a2 : Int) : Option (Bool) := if a0 ≥ a1 then (some (decide (a0 ≤ a2))) else (some false)
set_option maxHeartbeats 8000000 in
set_option maxRecDepth 100000 in
theorem impl_in.calls (a0 : Int) (a1 : Int) (a2 : Int) (r : Bool) (w : World) (h : impl_in.f a0 a1 a2 = some r) :
  Calls Try.prog 49 #[.int .i64 a0, .int .i64 a1, .int .i64 a2] w fun e w' => e = .returned (.bool r) ∧ Drawn0 w w' := by
 have H : (if a0 ≥ a1 then (some (decide (a0 ≤ a2))) else (some false)) = some r := h
 clear h
 by_cases c4 : a0 ≥ a1
 ·rw [if_pos c4] at H
  have c4b0 : decide (a1 ≤ a0) = true := decide_eq_true c4
  clear c4
  obtain rfl := Option.some.inj H
  go_enter Try.func49, Try.ntmps49
  go_wp2
  go_ret
  exact ⟨by first | rfl | (simp; done) | (simp [*]; done) | (simp only [i64_w, i32_w]; done) | (simp [*, i64_w, i32_w]; done), by repeat (first | exact Drawn0.refl _ | apply Drawn0.step)⟩
 ·rw [if_neg c4] at H
  have c4b0 : decide (a1 ≤ a0) = false := decide_eq_false c4
  clear c4
  obtain rfl := Option.some.inj H
  go_enter Try.func49, Try.ntmps49
  go_wp2
  go_ret
  exact ⟨by first | rfl | (simp; done) | (simp [*]; done) | (simp only [i64_w, i32_w]; done) | (simp [*, i64_w, i32_w]; done), by repeat (first | exact Drawn0.refl _ | apply Drawn0.step)⟩
attribute [local go_sem high] eqA60
/-! ### impl_nodeValid: function 56 -/
def impl_nodeValid.f (a0_0 : Int) (a0_1 : Int) (a0_2 : Int) (a0_3 : Int) (a0_4 : Int) (a1 : Int) : Option (Bool) := (impl_in.f a0_2 0 (wrap64 (a1 - 1))).bind fun t103 => ((impl_in.f a0_3 0 (wrap64 (a1 - 1))).bind fun t104 => ((impl_in.f a0_1 1 9).bind fun t105 => (if a0_0 = 1 then (if t105 = true then (some (0 == a0_2 && (0 == a0_3 && (0 == a0_4)))) else (some false)) else (if a0_0 = 2 then (if t103 = true then (if t104 = true then (some (0 == a0_1 && (0 == a0_4))) else (some false)) else (some false)) else (if a0_0 = 3 then (if t105 = true then (if t103 = true then (if t104 = true then (some (0 == a0_4)) else (some false)) else (some false)) else (some false)) else (if a0_0 = 4 then (if t105 = true then (if t103 = true then ((impl_in.f a0_4 0 4).bind fun t106 => (if t106 = true then (some (0 == a0_3)) else (some false))) else (some false)) else (some false)) else (some false)))))))
def impl_nodeValid.T2 : Bool × List (List Nat × List Nat) := (true, [([], []), ([0], [0]), ([], []), ([2], [2]), ([1, 3], [1, 3]), ([], []), ([5], [5]), ([], []), ([7], [7]), ([6, 8, 4], [6, 8]), ([4, 9, 0, 1, 2, 3, 4], [4]), ([9, 10, 0, 1, 2, 3, 4, 5, 6, 7, 8, 9, 10], [9])])
def impl_nodeValid.B2 : List Nat := [0, 1, 0, 4, 15, 0, 32, 0, 128, 511, 1023, 2047]
theorem impl_nodeValid.tab2 : rtab .any (opsOf Try.f56 2) = impl_nodeValid.T2 := by kernel_rfl
theorem impl_nodeValid.bits2 : waitsOk impl_nodeValid.T2.2 impl_nodeValid.B2 = true := by kernel_rfl
def impl_nodeValid.T9 : Bool × List (List Nat × List Nat) := (true, [([], []), ([0], [0]), ([], []), ([2], [2]), ([], []), ([4], [4]), ([5], [5]), ([5, 6], [5, 6]), ([0, 1], []), ([8, 1, 5, 0, 1], [1, 8]), ([0, 1, 2, 3, 8, 9], []), ([10, 3, 9, 0, 1, 2, 3, 8, 9], [3, 10]), ([7, 11, 0, 1, 2, 3, 4, 5, 6, 7, 8, 9, 10, 11], [7])])
def impl_nodeValid.B9 : List Nat := [0, 1, 0, 4, 0, 16, 48, 112, 3, 307, 831, 1855, 4095]
theorem impl_nodeValid.tab9 : rtab .any (opsOf Try.f56 9) = impl_nodeValid.T9 := by kernel_rfl
theorem impl_nodeValid.bits9 : waitsOk impl_nodeValid.T9.2 impl_nodeValid.B9 = true := by kernel_rfl
def impl_nodeValid.T11 : Bool × List (List Nat × List Nat) := (true, [([], []), ([0], [0]), ([], []), ([2], [2]), ([], []), ([4], [4]), ([], []), ([6], [6]), ([7], [7]), ([7, 8], [7, 8]), ([9, 7], [9]), ([10], [10]), ([10, 11], [10, 11]), ([0, 1], []), ([13, 1, 10, 0, 1], [1, 13]), ([0, 1, 2, 3, 13, 14], []), ([15, 3, 14, 0, 1, 2, 3, 13, 14], [3, 15]), ([0, 1, 2, 3, 4, 5, 13, 14, 15, 16], []), ([17, 5, 16, 0, 1, 2, 3, 4, 5, 13, 14, 15, 16], [5, 17]), ([12, 18, 0, 1, 2, 3, 4, 5, 6, 7, 8, 9, 10, 11, 12, 13, 14, 15, 16, 17, 18], [12])])
def impl_nodeValid.B11 : List Nat := [0, 1, 0, 4, 0, 16, 0, 64, 192, 448, 960, 1984, 4032, 3, 10179, 26575, 59343, 124927, 255999, 524287]
theorem impl_nodeValid.tab11 : rtab .any (opsOf Try.f56 11) = impl_nodeValid.T11 := by kernel_rfl
theorem impl_nodeValid.bits11 : waitsOk impl_nodeValid.T11.2 impl_nodeValid.B11 = true := by kernel_rfl
def impl_nodeValid.T13 : Bool × List (List Nat × List Nat) := (true, [([], []), ([0], [0]), ([], []), ([2], [2]), ([], []), ([4], [4]), ([], []), ([6], [6]), ([7], [7]), ([7, 8], [7, 8]), ([9, 7], [9]), ([10], [10]), ([11, 10], [10, 11]), ([12, 10, 10], [10, 12]), ([10, 13], [10, 13]), ([0, 1], []), ([15, 1, 13, 0, 1], [1, 15]), ([0, 1, 2, 3, 15, 16], []), ([17, 3, 16, 0, 1, 2, 3, 15, 16], [3, 17]), ([0, 1, 2, 3, 4, 5, 15, 16, 17, 18], []), ([19, 5, 18, 0, 1, 2, 3, 4, 5, 15, 16, 17, 18], [5, 19]), ([14, 20, 0, 1, 2, 3, 4, 5, 6, 7, 8, 9, 10, 11, 12, 13, 14, 15, 16, 17, 18, 19, 20], [14])])
def impl_nodeValid.B13 : List Nat := [0, 1, 0, 4, 0, 16, 0, 64, 192, 448, 960, 1984, 4032, 8128, 16320, 3, 49091, 114639, 245711, 507903, 1032191, 2097151]
theorem impl_nodeValid.tab13 : rtab .any (opsOf Try.f56 13) = impl_nodeValid.T13 := by kernel_rfl
theorem impl_nodeValid.bits13 : waitsOk impl_nodeValid.T13.2 impl_nodeValid.B13 = true := by kernel_rfl
theorem new_blk (w : World) (o : Obj) : (w.alloc o).heap[w.heap.size]? = some o := show (w.heap.push o)[w.heap.size]? = some o from Array.getElem?_push_size
theorem size_blk (w : World) (o : Obj) : (w.alloc o).heap.size = w.heap.size + 1 := show (w.heap.push o).size = _ from Array.size_push _
theorem in_q (a b c : Int) (r : Bool) (W : World) (h : impl_in.f a b c = some r) : Calls Try.prog 49 #[.int .i64 a, .int .i64 b, .int .i64 c] W fun e w' => e = .returned (.bool r) ∧ ∃ m, w' = W.drewN m := by
 refine (impl_in.calls a b c _ W h).mono ?_
 rintro e w' ⟨rfl, hd⟩
 exact ⟨rfl, hd.out⟩
attribute [local go_sem high] eqA60
/-! ### impl_nodeValid: function 56 -/
open Go.Proofs.Ytappbijjpcaocaa.Walk
set_option maxHeartbeats 8000000 in
set_option maxRecDepth 100000 in
theorem impl_nodeValid.k2 (a0_0 : Int) (a0_1 : Int) (a0_2 : Int) (a0_3 : Int) (a0_4 : Int) (a1 : Int) (r : Bool) (w : World) (t103 t104 t105 : Bool) (A3 : Aside0 (impl_in.f a0_2 0 (wrap64 (a1 - 1)) = some t103)) (A4 : Aside0 (impl_in.f a0_3 0 (wrap64 (a1 - 1)) = some t104)) (A5 : Aside0 (impl_in.f a0_1 1 9 = some t105)) (c6b0 : (a0_0 == 1) = false) (c6b1 : (a0_0 != 1) = true) (c26 : a0_0 = 2) (H : (if a0_0 = 2 then (if t103 = true then (if t104 = true then (some (0 == a0_1 && (0 == a0_4))) else (some false)) else (some false)) else (if a0_0 = 3 then (if t105 = true then (if t103 = true then (if t104 = true then (some (0 == a0_4)) else (some false)) else (some false)) else (some false)) else (if a0_0 = 4 then (if t105 = true then (if t103 = true then ((impl_in.f a0_4 0 4).bind fun t106 => (if t106 = true then (some (0 == a0_3)) else (some false))) else (some false)) else (some false)) else (some false)))) = some r) :
  Calls Try.prog 56 #[.agg #[.int .i64 a0_0, .int .i64 a0_1, .int .i64 a0_2, .int .i64 a0_3, .int .i64 a0_4], .int .i64 a1] w fun e w' => e = .returned (.bool r) ∧ Below w.heap.size w w' := by
 have hu60 := Try.underlying60
 have HB := Aside0.mk (Below.refl w.heap.size w)
 rw [if_pos c26] at H
 have c26b0 : (a0_0 == 2) = true := beq_iff_eq.mpr c26
 have c26b1 : (a0_0 != 2) = false := bne_eq_false_iff_eq.mpr c26
 clear c26
 by_cases c27 : t103 = true
 ·subst c27
  have H1 : (if t104 = true then (some (0 == a0_1 && (0 == a0_4))) else (some false)) = some r := by rw [if_pos rfl] at H; exact H
  clear H
  have H := H1
  clear H1
  by_cases c28 : t104 = true
  ·subst c28
   have H1 : (some (0 == a0_1 && (0 == a0_4))) = some r := by rw [if_pos rfl] at H; exact H
   clear H
   have H := H1
   clear H1
   obtain rfl := Option.some.inj H
   have Q1 := Lib.hid (fun W => in_q a0_2 0 (wrap64 (a1 - 1)) _ W A3.out)
   have Q2 := Lib.hid (fun W => in_q a0_3 0 (wrap64 (a1 - 1)) _ W A4.out)
   have Q3 := Lib.hid (fun W => in_q a0_1 1 9 _ W A5.out)
   go_enter Try.func56, Try.ntmps56
   go_wp2_with fail
   go_quiet ((go_at_call 49; with_reducible first | exact Calls.quiet_of (Q1.out _) | exact Calls.quiet_of (Q2.out _) | (rw [i64_w]; first | exact Calls.quiet_of (Q1.out _) | exact Calls.quiet_of (Q2.out _))))
   go_wp2_with (go_at_call 49; with_reducible refine (Q3.out _).mono ?_; rintro e w' ⟨rfl, m, rfl⟩)
   generalize hq_ : World.drewN (World.alloc (World.alloc w _) _) _ = w35
   have HB : Aside0 (Below w.heap.size w w35) := ⟨by rw [← hq_]; repeat (first | exact Below.refl _ _ | apply below_alloc | apply pw_below_drewN | refine below_set ?_ (Nat.le_succ _))⟩
   have BK101 : Aside0 (w35.heap[w.heap.size]? = some (.cells #[.int .i64 a0_0, .int .i64 a0_1, .int .i64 a0_2, .int .i64 a0_3, .int .i64 a0_4] 60 (0, 0))) := ⟨by rw [← hq_]; exact blk_drewN (blk_alloc (new_blk _ _) _) _⟩
   have BK102 : Aside0 (w35.heap[w.heap.size + 1]? = some (.cells #[.int .i64 a0_0, .int .i64 0, .int .i64 0, .int .i64 0, .int .i64 0] 60 (0, 0))) := ⟨by rw [← hq_]; exact blk_drewN (by rw [← size_blk w (.cells #[.int .i64 a0_0, .int .i64 a0_1, .int .i64 a0_2, .int .i64 a0_3, .int .i64 a0_4] 60)]; exact new_blk _ _) _⟩
   clear hq_
   have GE101 : Aside0 (w.heap.size ≤ w.heap.size) := ⟨Nat.le_refl _⟩
   have GE102 : Aside0 (w.heap.size ≤ w.heap.size + 1) := ⟨Nat.le_succ _⟩
   have NB101_102 : Aside0 (w.heap.size ≠ w.heap.size + 1) := ⟨by omega⟩
   have NB102_101 : Aside0 (w.heap.size + 1 ≠ w.heap.size) := ⟨by omega⟩
   generalize hgb2 : w.heap.size + 1 = gb102 at BK102 GE102 NB101_102 NB102_101 ⊢
   generalize hgb1 : w.heap.size = gb101 at BK101 NB101_102 NB102_101 ⊢
   replace GE101 : Aside0 (w.heap.size ≤ gb101) := ⟨by omega⟩
   have hcn0_ : w35.cell? ⟨gb101, 0, none⟩ = some (.int .i64 a0_0) := (blk_cell BK101.out 0).trans rfl
   have hfn0_ := blk_frozen BK101.out 0
   have hcn1_ : w35.cell? ⟨gb101, 1, none⟩ = some (.int .i64 a0_1) := (blk_cell BK101.out 1).trans rfl
   have hfn1_ := blk_frozen BK101.out 1
   have hcn2_ : w35.cell? ⟨gb101, 2, none⟩ = some (.int .i64 a0_2) := (blk_cell BK101.out 2).trans rfl
   have hfn2_ := blk_frozen BK101.out 2
   have hcn3_ : w35.cell? ⟨gb101, 3, none⟩ = some (.int .i64 a0_3) := (blk_cell BK101.out 3).trans rfl
   have hfn3_ := blk_frozen BK101.out 3
   have hcn4_ : w35.cell? ⟨gb101, 4, none⟩ = some (.int .i64 a0_4) := (blk_cell BK101.out 4).trans rfl
   have hfn4_ := blk_frozen BK101.out 4
   have n0_ := Aside0.mk (blk_drew BK101.out)
   have n1_ := Aside0.mk (blk_drew BK102.out)
   have n2_ := Aside0.mk (below_drew1 HB.out)
   clear BK101
   clear BK102
   clear HB
   have BK101 := n0_
   have BK102 := n1_
   have HB := n2_
   clear n0_ n1_ n2_
   refine start_ (n := 13) (S := fun w' => w'.cell? ⟨gb101, 0, none⟩ = some (.int .i64 a0_0) ∧ w'.cell? ⟨gb101, 1, none⟩ = some (.int .i64 a0_1) ∧ w'.cell? ⟨gb101, 2, none⟩ = some (.int .i64 a0_2) ∧ w'.cell? ⟨gb101, 3, none⟩ = some (.int .i64 a0_3) ∧ w'.cell? ⟨gb101, 4, none⟩ = some (.int .i64 a0_4)) (ds := []) #[false, false, false, false, false, false, false, false, false, false, false, false, false] (by kernel_rfl) rfl rfl ⟨(blk_cell BK101.out 0).trans rfl, (blk_cell BK101.out 1).trans rfl, (blk_cell BK101.out 2).trans rfl, (blk_cell BK101.out 3).trans rfl, (blk_cell BK101.out 4).trans rfl⟩ (fun hHeld => ?_); refine with_tabW impl_nodeValid.tab9 impl_nodeValid.bits9 (fun HT_ HW_ => ?_)
   generalize w35.drew = w37 at BK101 BK102 HB hHeld ⊢
   refine pure_ (i := 0) (N := some 36) (v := ?_) (a' := ?_) #[true, false, false, false, false, false, false, false, false, false, false, false, false] rfl rfl (any_of HT_.out (by kernel_rfl)) (fun _ _ _ h => h) (Or.inl ⟨by rfl, ?_⟩) ?_ ?_
   rotate_left
   ·intro w'
    go_simp
    with_reducible rfl
   rotate_left
   ·simp only [Act.put, List.setIfInBounds_toArray, List.set_cons_zero, List.set_cons_succ, i64_w, i32_w]
    rfl
   refine pure_ (i := 2) (N := some 38) (v := ?_) (a' := ?_) #[true, false, true, false, false, false, false, false, false, false, false, false, false] rfl rfl (any_of HT_.out (by kernel_rfl)) (fun _ _ _ h => h) (Or.inl ⟨by rfl, ?_⟩) ?_ ?_
   rotate_left
   ·intro w'
    go_simp
    with_reducible rfl
   rotate_left
   ·simp only [Act.put, List.setIfInBounds_toArray, List.set_cons_zero, List.set_cons_succ, i64_w, i32_w]
    rfl
   refine pure_ (i := 4) (N := some 40) (v := ?_) (a' := ?_) #[true, false, true, false, true, false, false, false, false, false, false, false, false] rfl rfl (any_of HT_.out (by kernel_rfl)) (fun _ _ _ h => h) (Or.inl ⟨by rfl, ?_⟩) ?_ ?_
   rotate_left
   ·intro w'
    go_simp
    with_reducible rfl
   rotate_left
   ·simp only [Act.put, List.setIfInBounds_toArray, List.set_cons_zero, List.set_cons_succ, i64_w, i32_w]
    rfl
   refine pure_ (i := 5) (N := some 41) (v := ?_) (a' := ?_) #[true, false, true, false, true, true, false, false, false, false, false, false, false] rfl rfl (any_of HT_.out (by kernel_rfl)) (fun _ _ _ h => h) (Or.inl ⟨by rfl, ?_⟩) ?_ ?_
   rotate_left
   ·intro w'
    go_simp
    with_reducible rfl
   rotate_left
   ·simp only [Act.put, List.setIfInBounds_toArray, List.set_cons_zero, List.set_cons_succ, i64_w, i32_w]
    rfl
   refine pure_ (i := 6) (N := some 42) (v := ?_) (a' := ?_) #[true, false, true, false, true, true, true, false, false, false, false, false, false] rfl rfl (any_of HT_.out (by kernel_rfl)) (fun _ _ _ h => h) (Or.inl ⟨by rfl, ?_⟩) ?_ ?_
   rotate_left
   ·intro w'
    go_simp
    with_reducible rfl
   rotate_left
   ·simp only [Act.put, List.setIfInBounds_toArray, List.set_cons_zero, List.set_cons_succ, i64_w, i32_w]
    rfl
   refine pure_ (i := 7) (N := some 43) (v := ?_) (a' := ?_) #[true, false, true, false, true, true, true, true, false, false, false, false, false] rfl rfl (any_of HT_.out (by kernel_rfl)) (fun _ _ _ h => h) (Or.inl ⟨by rfl, ?_⟩) ?_ ?_
   rotate_left
   ·intro w'
    go_simp
    with_reducible rfl
   rotate_left
   ·simp only [Act.put, List.setIfInBounds_toArray, List.set_cons_zero, List.set_cons_succ, i64_w, i32_w]
    rfl
   refine take_ (i := 1) (N := some 37) (v := ?_) (a' := ?_) #[true, true, true, false, true, true, true, true, false, false, false, false, false] rfl rfl (take_ofW HT_.out HW_.out (by kernel_rfl)) (fun _ _ _ h => h) (Or.inl ⟨by rfl, ?_⟩) hHeld ?_ ?_
   rotate_left
   ·rintro w' ⟨s0, s1, s2, s3, s4⟩
    go_simp
    with_reducible rfl
   rotate_left
   ·simp only [Act.put, List.setIfInBounds_toArray, List.set_cons_zero, List.set_cons_succ, i64_w, i32_w]
    rfl
   refine pure_ (i := 8) (N := some 44) (v := ?_) (a' := ?_) #[true, true, true, false, true, true, true, true, true, false, false, false, false] rfl rfl (any_of HT_.out (by kernel_rfl)) (fun _ _ _ h => h) (Or.inl ⟨by rfl, ?_⟩) ?_ ?_
   rotate_left
   ·intro w'
    go_simp
    with_reducible rfl
   rotate_left
   ·simp only [Act.put, List.setIfInBounds_toArray, List.set_cons_zero, List.set_cons_succ, i64_w, i32_w]
    rfl
   refine take_ (i := 3) (N := some 39) (v := ?_) (a' := ?_) #[true, true, true, true, true, true, true, true, true, false, false, false, false] rfl rfl (take_ofW HT_.out HW_.out (by kernel_rfl)) (fun _ _ _ h => h) (Or.inl ⟨by rfl, ?_⟩) hHeld ?_ ?_
   rotate_left
   ·rintro w' ⟨s0, s1, s2, s3, s4⟩
    go_simp
    with_reducible rfl
   rotate_left
   ·simp only [Act.put, List.setIfInBounds_toArray, List.set_cons_zero, List.set_cons_succ, i64_w, i32_w]
    rfl
   refine one_ (i := 9) (N := none) #[true, true, true, true, true, true, true, true, true, true, false, false, false] rfl rfl (one_of HT_.out (by kernel_rfl)) (by decide) (fun K hK => ?_)
   have hs38 : w37.cell? ⟨gb102, 2, none⟩ = some (.int .i64 0) := (blk_cell BK102.out 2).trans rfl
   have hfs38 := blk_frozen BK102.out 2
   have hns38_0 := NB101_102.out
   have hms38_0 := NB102_101.out
   refine skip_ (w1 := ?_) (by rfl) rfl ?_ ?_
   rotate_left
   ·go_simp
    rfl
   refine hK.out _ _ ⟨((cell_far (p := ⟨gb102, _, none⟩) NB101_102.out _).trans (hHeld.1)), ((cell_far (p := ⟨gb102, _, none⟩) NB101_102.out _).trans (hHeld.2.1)), ((cell_far (p := ⟨gb102, _, none⟩) NB101_102.out _).trans (hHeld.2.2.1)), ((cell_far (p := ⟨gb102, _, none⟩) NB101_102.out _).trans (hHeld.2.2.2.1)), ((cell_far (p := ⟨gb102, _, none⟩) NB101_102.out _).trans (hHeld.2.2.2.2))⟩ (fun hHeld => ?_)
   clear hK K
   refine pure_ (i := 10) (N := some 45) (v := ?_) (a' := ?_) #[true, true, true, true, true, true, true, true, true, true, true, false, false] rfl rfl (any_of HT_.out (by kernel_rfl)) (fun _ _ _ h => h) (Or.inl ⟨by rfl, ?_⟩) ?_ ?_
   rotate_left
   ·intro w'
    go_simp
    with_reducible rfl
   rotate_left
   ·simp only [Act.put, List.setIfInBounds_toArray, List.set_cons_zero, List.set_cons_succ, i64_w, i32_w]
    rfl
   refine one_ (i := 11) (N := none) #[true, true, true, true, true, true, true, true, true, true, true, true, false] rfl rfl (one_of HT_.out (by kernel_rfl)) (by decide) (fun K hK => ?_)
   have hs39 : w37.cell? ⟨gb102, 3, none⟩ = some (.int .i64 0) := (blk_cell BK102.out 3).trans rfl
   have hfs39 := blk_frozen BK102.out 3
   have hns39_0 := NB101_102.out
   have hms39_0 := NB102_101.out
   refine skip_ (w1 := ?_) (by rfl) rfl ?_ ?_
   rotate_left
   ·go_simp
    rfl
   refine hK.out _ _ ⟨((cell_far (p := ⟨gb102, _, none⟩) NB101_102.out _).trans (hHeld.1)), ((cell_far (p := ⟨gb102, _, none⟩) NB101_102.out _).trans (hHeld.2.1)), ((cell_far (p := ⟨gb102, _, none⟩) NB101_102.out _).trans (hHeld.2.2.1)), ((cell_far (p := ⟨gb102, _, none⟩) NB101_102.out _).trans (hHeld.2.2.2.1)), ((cell_far (p := ⟨gb102, _, none⟩) NB101_102.out _).trans (hHeld.2.2.2.2))⟩ (fun hHeld => ?_)
   clear hK K
   refine pure_ (i := 12) (N := some 9) (v := ?_) (a' := ?_) #[true, true, true, true, true, true, true, true, true, true, true, true, true] rfl rfl (any_of HT_.out (by kernel_rfl)) (fun _ _ _ h => h) (Or.inl ⟨by rfl, ?_⟩) ?_ ?_
   rotate_left
   ·intro w'
    go_simp
    with_reducible rfl
   rotate_left
   ·simp only [Act.put, List.setIfInBounds_toArray, List.set_cons_zero, List.set_cons_succ, i64_w, i32_w]
    rfl
   refine done_ (done_of HT_.out (by kernel_rfl)) ?_
   have hcz40_0 : w37.cell? ⟨gb102, 0, none⟩ = some (.int .i64 a0_0) := (blk_cell BK102.out 0).trans rfl
   have hcz40_1 : w37.cell? ⟨gb102, 1, none⟩ = some (.int .i64 0) := (blk_cell BK102.out 1).trans rfl
   have hcz40_2 : w37.cell? ⟨gb102, 2, none⟩ = some (.int .i64 0) := (blk_cell BK102.out 2).trans rfl
   have hcz40_3 : w37.cell? ⟨gb102, 3, none⟩ = some (.int .i64 0) := (blk_cell BK102.out 3).trans rfl
   have hcz40_4 : w37.cell? ⟨gb102, 4, none⟩ = some (.int .i64 0) := (blk_cell BK102.out 4).trans rfl
   have hfz40_0 := blk_frozen BK102.out 0
   have hfz40_1 := blk_frozen BK102.out 1
   have hfz40_2 := blk_frozen BK102.out 2
   have hfz40_3 := blk_frozen BK102.out 3
   have hfz40_4 := blk_frozen BK102.out 4
   have hcz41_0 : w37.cell? ⟨gb101, 0, none⟩ = some (.int .i64 a0_0) := (blk_cell BK101.out 0).trans rfl
   have hcz41_1 : w37.cell? ⟨gb101, 1, none⟩ = some (.int .i64 a0_1) := (blk_cell BK101.out 1).trans rfl
   have hcz41_2 : w37.cell? ⟨gb101, 2, none⟩ = some (.int .i64 a0_2) := (blk_cell BK101.out 2).trans rfl
   have hcz41_3 : w37.cell? ⟨gb101, 3, none⟩ = some (.int .i64 a0_3) := (blk_cell BK101.out 3).trans rfl
   have hcz41_4 : w37.cell? ⟨gb101, 4, none⟩ = some (.int .i64 a0_4) := (blk_cell BK101.out 4).trans rfl
   have hfz41_0 := blk_frozen BK101.out 0
   have hfz41_1 := blk_frozen BK101.out 1
   have hfz41_2 := blk_frozen BK101.out 2
   have hfz41_3 := blk_frozen BK101.out 3
   have hfz41_4 := blk_frozen BK101.out 4
   try go_wp2
   go_ret
   exact ⟨by first | rfl | (simp [errW_none, errW_some] <;> rfl) | (simp [*, errW_none, errW_some] <;> rfl), by repeat (first | (with_reducible first | exact HB.out | apply below_alloc | apply pw_below_drewN | apply below_drew1 | refine below_set ?_ GE101.out | refine below_set ?_ GE102.out) | exact HB.out)⟩
  ·replace c28 := Bool.eq_false_iff.mpr c28
   subst c28
   have H1 : (some false) = some r := by rw [if_neg (show ¬ (false = true) by decide)] at H; exact H
   clear H
   have H := H1
   clear H1
   obtain rfl := Option.some.inj H
   have Q1 := Lib.hid (fun W => in_q a0_2 0 (wrap64 (a1 - 1)) _ W A3.out)
   have Q2 := Lib.hid (fun W => in_q a0_3 0 (wrap64 (a1 - 1)) _ W A4.out)
   have Q3 := Lib.hid (fun W => in_q a0_1 1 9 _ W A5.out)
   go_enter Try.func56, Try.ntmps56
   go_wp2_with fail
   go_quiet ((go_at_call 49; with_reducible first | exact Calls.quiet_of (Q1.out _) | exact Calls.quiet_of (Q2.out _) | (rw [i64_w]; first | exact Calls.quiet_of (Q1.out _) | exact Calls.quiet_of (Q2.out _))))
   go_wp2_with (go_at_call 49; with_reducible refine (Q3.out _).mono ?_; rintro e w' ⟨rfl, m, rfl⟩)
   generalize hq_ : World.drewN (World.alloc (World.alloc w _) _) _ = w48
   have HB : Aside0 (Below w.heap.size w w48) := ⟨by rw [← hq_]; repeat (first | exact Below.refl _ _ | apply below_alloc | apply pw_below_drewN | refine below_set ?_ (Nat.le_succ _))⟩
   have BK101 : Aside0 (w48.heap[w.heap.size]? = some (.cells #[.int .i64 a0_0, .int .i64 a0_1, .int .i64 a0_2, .int .i64 a0_3, .int .i64 a0_4] 60 (0, 0))) := ⟨by rw [← hq_]; exact blk_drewN (blk_alloc (new_blk _ _) _) _⟩
   have BK102 : Aside0 (w48.heap[w.heap.size + 1]? = some (.cells #[.int .i64 a0_0, .int .i64 0, .int .i64 0, .int .i64 0, .int .i64 0] 60 (0, 0))) := ⟨by rw [← hq_]; exact blk_drewN (by rw [← size_blk w (.cells #[.int .i64 a0_0, .int .i64 a0_1, .int .i64 a0_2, .int .i64 a0_3, .int .i64 a0_4] 60)]; exact new_blk _ _) _⟩
   clear hq_
   have GE101 : Aside0 (w.heap.size ≤ w.heap.size) := ⟨Nat.le_refl _⟩
   have GE102 : Aside0 (w.heap.size ≤ w.heap.size + 1) := ⟨Nat.le_succ _⟩
   have NB101_102 : Aside0 (w.heap.size ≠ w.heap.size + 1) := ⟨by omega⟩
   have NB102_101 : Aside0 (w.heap.size + 1 ≠ w.heap.size) := ⟨by omega⟩
   generalize hgb2 : w.heap.size + 1 = gb102 at BK102 GE102 NB101_102 NB102_101 ⊢
   generalize hgb1 : w.heap.size = gb101 at BK101 NB101_102 NB102_101 ⊢
   replace GE101 : Aside0 (w.heap.size ≤ gb101) := ⟨by omega⟩
   have hcn0_ : w48.cell? ⟨gb101, 0, none⟩ = some (.int .i64 a0_0) := (blk_cell BK101.out 0).trans rfl
   have hfn0_ := blk_frozen BK101.out 0
   have hcn1_ : w48.cell? ⟨gb101, 1, none⟩ = some (.int .i64 a0_1) := (blk_cell BK101.out 1).trans rfl
   have hfn1_ := blk_frozen BK101.out 1
   have hcn2_ : w48.cell? ⟨gb101, 2, none⟩ = some (.int .i64 a0_2) := (blk_cell BK101.out 2).trans rfl
   have hfn2_ := blk_frozen BK101.out 2
   have hcn3_ : w48.cell? ⟨gb101, 3, none⟩ = some (.int .i64 a0_3) := (blk_cell BK101.out 3).trans rfl
   have hfn3_ := blk_frozen BK101.out 3
   have hcn4_ : w48.cell? ⟨gb101, 4, none⟩ = some (.int .i64 a0_4) := (blk_cell BK101.out 4).trans rfl
   have hfn4_ := blk_frozen BK101.out 4
   have n0_ := Aside0.mk (blk_drew BK101.out)
   have n1_ := Aside0.mk (blk_drew BK102.out)
   have n2_ := Aside0.mk (below_drew1 HB.out)
   clear BK101
   clear BK102
   clear HB
   have BK101 := n0_
   have BK102 := n1_
   have HB := n2_
   clear n0_ n1_ n2_
   refine start_ (n := 13) (S := fun w' => w'.cell? ⟨gb101, 0, none⟩ = some (.int .i64 a0_0) ∧ w'.cell? ⟨gb101, 1, none⟩ = some (.int .i64 a0_1) ∧ w'.cell? ⟨gb101, 2, none⟩ = some (.int .i64 a0_2) ∧ w'.cell? ⟨gb101, 3, none⟩ = some (.int .i64 a0_3) ∧ w'.cell? ⟨gb101, 4, none⟩ = some (.int .i64 a0_4)) (ds := []) #[false, false, false, false, false, false, false, false, false, false, false, false, false] (by kernel_rfl) rfl rfl ⟨(blk_cell BK101.out 0).trans rfl, (blk_cell BK101.out 1).trans rfl, (blk_cell BK101.out 2).trans rfl, (blk_cell BK101.out 3).trans rfl, (blk_cell BK101.out 4).trans rfl⟩ (fun hHeld => ?_); refine with_tabW impl_nodeValid.tab9 impl_nodeValid.bits9 (fun HT_ HW_ => ?_)
   generalize w48.drew = w50 at BK101 BK102 HB hHeld ⊢
   refine pure_ (i := 0) (N := some 36) (v := ?_) (a' := ?_) #[true, false, false, false, false, false, false, false, false, false, false, false, false] rfl rfl (any_of HT_.out (by kernel_rfl)) (fun _ _ _ h => h) (Or.inl ⟨by rfl, ?_⟩) ?_ ?_
   rotate_left
   ·intro w'
    go_simp
    with_reducible rfl
   rotate_left
   ·simp only [Act.put, List.setIfInBounds_toArray, List.set_cons_zero, List.set_cons_succ, i64_w, i32_w]
    rfl
   refine pure_ (i := 2) (N := some 38) (v := ?_) (a' := ?_) #[true, false, true, false, false, false, false, false, false, false, false, false, false] rfl rfl (any_of HT_.out (by kernel_rfl)) (fun _ _ _ h => h) (Or.inl ⟨by rfl, ?_⟩) ?_ ?_
   rotate_left
   ·intro w'
    go_simp
    with_reducible rfl
   rotate_left
   ·simp only [Act.put, List.setIfInBounds_toArray, List.set_cons_zero, List.set_cons_succ, i64_w, i32_w]
    rfl
   refine pure_ (i := 4) (N := some 40) (v := ?_) (a' := ?_) #[true, false, true, false, true, false, false, false, false, false, false, false, false] rfl rfl (any_of HT_.out (by kernel_rfl)) (fun _ _ _ h => h) (Or.inl ⟨by rfl, ?_⟩) ?_ ?_
   rotate_left
   ·intro w'
    go_simp
    with_reducible rfl
   rotate_left
   ·simp only [Act.put, List.setIfInBounds_toArray, List.set_cons_zero, List.set_cons_succ, i64_w, i32_w]
    rfl
   refine pure_ (i := 5) (N := some 41) (v := ?_) (a' := ?_) #[true, false, true, false, true, true, false, false, false, false, false, false, false] rfl rfl (any_of HT_.out (by kernel_rfl)) (fun _ _ _ h => h) (Or.inl ⟨by rfl, ?_⟩) ?_ ?_
   rotate_left
   ·intro w'
    go_simp
    with_reducible rfl
   rotate_left
   ·simp only [Act.put, List.setIfInBounds_toArray, List.set_cons_zero, List.set_cons_succ, i64_w, i32_w]
    rfl
   refine pure_ (i := 6) (N := some 42) (v := ?_) (a' := ?_) #[true, false, true, false, true, true, true, false, false, false, false, false, false] rfl rfl (any_of HT_.out (by kernel_rfl)) (fun _ _ _ h => h) (Or.inl ⟨by rfl, ?_⟩) ?_ ?_
   rotate_left
   ·intro w'
    go_simp
    with_reducible rfl
   rotate_left
   ·simp only [Act.put, List.setIfInBounds_toArray, List.set_cons_zero, List.set_cons_succ, i64_w, i32_w]
    rfl
   refine pure_ (i := 7) (N := some 43) (v := ?_) (a' := ?_) #[true, false, true, false, true, true, true, true, false, false, false, false, false] rfl rfl (any_of HT_.out (by kernel_rfl)) (fun _ _ _ h => h) (Or.inl ⟨by rfl, ?_⟩) ?_ ?_
   rotate_left
   ·intro w'
    go_simp
    with_reducible rfl
   rotate_left
   ·simp only [Act.put, List.setIfInBounds_toArray, List.set_cons_zero, List.set_cons_succ, i64_w, i32_w]
    rfl
   refine take_ (i := 1) (N := some 37) (v := ?_) (a' := ?_) #[true, true, true, false, true, true, true, true, false, false, false, false, false] rfl rfl (take_ofW HT_.out HW_.out (by kernel_rfl)) (fun _ _ _ h => h) (Or.inl ⟨by rfl, ?_⟩) hHeld ?_ ?_
   rotate_left
   ·rintro w' ⟨s0, s1, s2, s3, s4⟩
    go_simp
    with_reducible rfl
   rotate_left
   ·simp only [Act.put, List.setIfInBounds_toArray, List.set_cons_zero, List.set_cons_succ, i64_w, i32_w]
    rfl
   refine pure_ (i := 8) (N := some 44) (v := ?_) (a' := ?_) #[true, true, true, false, true, true, true, true, true, false, false, false, false] rfl rfl (any_of HT_.out (by kernel_rfl)) (fun _ _ _ h => h) (Or.inl ⟨by rfl, ?_⟩) ?_ ?_
   rotate_left
   ·intro w'
    go_simp
    with_reducible rfl
   rotate_left
   ·simp only [Act.put, List.setIfInBounds_toArray, List.set_cons_zero, List.set_cons_succ, i64_w, i32_w]
    rfl
   refine take_ (i := 3) (N := some 39) (v := ?_) (a' := ?_) #[true, true, true, true, true, true, true, true, true, false, false, false, false] rfl rfl (take_ofW HT_.out HW_.out (by kernel_rfl)) (fun _ _ _ h => h) (Or.inl ⟨by rfl, ?_⟩) hHeld ?_ ?_
   rotate_left
   ·rintro w' ⟨s0, s1, s2, s3, s4⟩
    go_simp
    with_reducible rfl
   rotate_left
   ·simp only [Act.put, List.setIfInBounds_toArray, List.set_cons_zero, List.set_cons_succ, i64_w, i32_w]
    rfl
   refine one_ (i := 9) (N := none) #[true, true, true, true, true, true, true, true, true, true, false, false, false] rfl rfl (one_of HT_.out (by kernel_rfl)) (by decide) (fun K hK => ?_)
   have hs51 : w50.cell? ⟨gb102, 2, none⟩ = some (.int .i64 0) := (blk_cell BK102.out 2).trans rfl
   have hfs51 := blk_frozen BK102.out 2
   have hns51_0 := NB101_102.out
   have hms51_0 := NB102_101.out
   refine skip_ (w1 := ?_) (by rfl) rfl ?_ ?_
   rotate_left
   ·go_simp
    rfl
   refine hK.out _ _ ⟨((cell_far (p := ⟨gb102, _, none⟩) NB101_102.out _).trans (hHeld.1)), ((cell_far (p := ⟨gb102, _, none⟩) NB101_102.out _).trans (hHeld.2.1)), ((cell_far (p := ⟨gb102, _, none⟩) NB101_102.out _).trans (hHeld.2.2.1)), ((cell_far (p := ⟨gb102, _, none⟩) NB101_102.out _).trans (hHeld.2.2.2.1)), ((cell_far (p := ⟨gb102, _, none⟩) NB101_102.out _).trans (hHeld.2.2.2.2))⟩ (fun hHeld => ?_)
   clear hK K
   refine pure_ (i := 10) (N := some 45) (v := ?_) (a' := ?_) #[true, true, true, true, true, true, true, true, true, true, true, false, false] rfl rfl (any_of HT_.out (by kernel_rfl)) (fun _ _ _ h => h) (Or.inl ⟨by rfl, ?_⟩) ?_ ?_
   rotate_left
   ·intro w'
    go_simp
    with_reducible rfl
   rotate_left
   ·simp only [Act.put, List.setIfInBounds_toArray, List.set_cons_zero, List.set_cons_succ, i64_w, i32_w]
    rfl
   refine one_ (i := 11) (N := none) #[true, true, true, true, true, true, true, true, true, true, true, true, false] rfl rfl (one_of HT_.out (by kernel_rfl)) (by decide) (fun K hK => ?_)
   have hs52 : w50.cell? ⟨gb102, 3, none⟩ = some (.int .i64 0) := (blk_cell BK102.out 3).trans rfl
   have hfs52 := blk_frozen BK102.out 3
   have hns52_0 := NB101_102.out
   have hms52_0 := NB102_101.out
   refine skip_ (w1 := ?_) (by rfl) rfl ?_ ?_
   rotate_left
   ·go_simp
    rfl
   refine hK.out _ _ ⟨((cell_far (p := ⟨gb102, _, none⟩) NB101_102.out _).trans (hHeld.1)), ((cell_far (p := ⟨gb102, _, none⟩) NB101_102.out _).trans (hHeld.2.1)), ((cell_far (p := ⟨gb102, _, none⟩) NB101_102.out _).trans (hHeld.2.2.1)), ((cell_far (p := ⟨gb102, _, none⟩) NB101_102.out _).trans (hHeld.2.2.2.1)), ((cell_far (p := ⟨gb102, _, none⟩) NB101_102.out _).trans (hHeld.2.2.2.2))⟩ (fun hHeld => ?_)
   clear hK K
   refine pure_ (i := 12) (N := some 9) (v := ?_) (a' := ?_) #[true, true, true, true, true, true, true, true, true, true, true, true, true] rfl rfl (any_of HT_.out (by kernel_rfl)) (fun _ _ _ h => h) (Or.inl ⟨by rfl, ?_⟩) ?_ ?_
   rotate_left
   ·intro w'
    go_simp
    with_reducible rfl
   rotate_left
   ·simp only [Act.put, List.setIfInBounds_toArray, List.set_cons_zero, List.set_cons_succ, i64_w, i32_w]
    rfl
   refine done_ (done_of HT_.out (by kernel_rfl)) ?_
   try go_wp2
   go_ret
   exact ⟨by first | rfl | (simp [errW_none, errW_some] <;> rfl) | (simp [*, errW_none, errW_some] <;> rfl), by repeat (first | (with_reducible first | exact HB.out | apply below_alloc | apply pw_below_drewN | apply below_drew1 | refine below_set ?_ GE101.out | refine below_set ?_ GE102.out) | exact HB.out)⟩
 ·replace c27 := Bool.eq_false_iff.mpr c27
  subst c27
  have H1 : (some false) = some r := by rw [if_neg (show ¬ (false = true) by decide)] at H; exact H
  clear H
  have H := H1
  clear H1
  obtain rfl := Option.some.inj H
  have Q1 := Lib.hid (fun W => in_q a0_2 0 (wrap64 (a1 - 1)) _ W A3.out)
  have Q2 := Lib.hid (fun W => in_q a0_3 0 (wrap64 (a1 - 1)) _ W A4.out)
  have Q3 := Lib.hid (fun W => in_q a0_1 1 9 _ W A5.out)
  go_enter Try.func56, Try.ntmps56
  go_wp2_with fail
  go_quiet ((go_at_call 49; with_reducible first | exact Calls.quiet_of (Q1.out _) | exact Calls.quiet_of (Q2.out _) | (rw [i64_w]; first | exact Calls.quiet_of (Q1.out _) | exact Calls.quiet_of (Q2.out _))))
  go_wp2_with (go_at_call 49; with_reducible refine (Q3.out _).mono ?_; rintro e w' ⟨rfl, m, rfl⟩)
  generalize hq_ : World.drewN (World.alloc (World.alloc w _) _) _ = w59
  have HB : Aside0 (Below w.heap.size w w59) := ⟨by rw [← hq_]; repeat (first | exact Below.refl _ _ | apply below_alloc | apply pw_below_drewN | refine below_set ?_ (Nat.le_succ _))⟩
  have BK101 : Aside0 (w59.heap[w.heap.size]? = some (.cells #[.int .i64 a0_0, .int .i64 a0_1, .int .i64 a0_2, .int .i64 a0_3, .int .i64 a0_4] 60 (0, 0))) := ⟨by rw [← hq_]; exact blk_drewN (blk_alloc (new_blk _ _) _) _⟩
  have BK102 : Aside0 (w59.heap[w.heap.size + 1]? = some (.cells #[.int .i64 a0_0, .int .i64 0, .int .i64 0, .int .i64 0, .int .i64 0] 60 (0, 0))) := ⟨by rw [← hq_]; exact blk_drewN (by rw [← size_blk w (.cells #[.int .i64 a0_0, .int .i64 a0_1, .int .i64 a0_2, .int .i64 a0_3, .int .i64 a0_4] 60)]; exact new_blk _ _) _⟩
  clear hq_
  have GE101 : Aside0 (w.heap.size ≤ w.heap.size) := ⟨Nat.le_refl _⟩
  have GE102 : Aside0 (w.heap.size ≤ w.heap.size + 1) := ⟨Nat.le_succ _⟩
  have NB101_102 : Aside0 (w.heap.size ≠ w.heap.size + 1) := ⟨by omega⟩
  have NB102_101 : Aside0 (w.heap.size + 1 ≠ w.heap.size) := ⟨by omega⟩
  generalize hgb2 : w.heap.size + 1 = gb102 at BK102 GE102 NB101_102 NB102_101 ⊢
  generalize hgb1 : w.heap.size = gb101 at BK101 NB101_102 NB102_101 ⊢
  replace GE101 : Aside0 (w.heap.size ≤ gb101) := ⟨by omega⟩
  have hcn0_ : w59.cell? ⟨gb101, 0, none⟩ = some (.int .i64 a0_0) := (blk_cell BK101.out 0).trans rfl
  have hfn0_ := blk_frozen BK101.out 0
  have hcn1_ : w59.cell? ⟨gb101, 1, none⟩ = some (.int .i64 a0_1) := (blk_cell BK101.out 1).trans rfl
  have hfn1_ := blk_frozen BK101.out 1
  have hcn2_ : w59.cell? ⟨gb101, 2, none⟩ = some (.int .i64 a0_2) := (blk_cell BK101.out 2).trans rfl
  have hfn2_ := blk_frozen BK101.out 2
  have hcn3_ : w59.cell? ⟨gb101, 3, none⟩ = some (.int .i64 a0_3) := (blk_cell BK101.out 3).trans rfl
  have hfn3_ := blk_frozen BK101.out 3
  have hcn4_ : w59.cell? ⟨gb101, 4, none⟩ = some (.int .i64 a0_4) := (blk_cell BK101.out 4).trans rfl
  have hfn4_ := blk_frozen BK101.out 4
  have n0_ := Aside0.mk (blk_drew BK101.out)
  have n1_ := Aside0.mk (blk_drew BK102.out)
  have n2_ := Aside0.mk (below_drew1 HB.out)
  clear BK101
  clear BK102
  clear HB
  have BK101 := n0_
  have BK102 := n1_
  have HB := n2_
  clear n0_ n1_ n2_
  refine start_ (n := 13) (S := fun w' => w'.cell? ⟨gb101, 0, none⟩ = some (.int .i64 a0_0) ∧ w'.cell? ⟨gb101, 1, none⟩ = some (.int .i64 a0_1) ∧ w'.cell? ⟨gb101, 2, none⟩ = some (.int .i64 a0_2) ∧ w'.cell? ⟨gb101, 3, none⟩ = some (.int .i64 a0_3) ∧ w'.cell? ⟨gb101, 4, none⟩ = some (.int .i64 a0_4)) (ds := []) #[false, false, false, false, false, false, false, false, false, false, false, false, false] (by kernel_rfl) rfl rfl ⟨(blk_cell BK101.out 0).trans rfl, (blk_cell BK101.out 1).trans rfl, (blk_cell BK101.out 2).trans rfl, (blk_cell BK101.out 3).trans rfl, (blk_cell BK101.out 4).trans rfl⟩ (fun hHeld => ?_); refine with_tabW impl_nodeValid.tab9 impl_nodeValid.bits9 (fun HT_ HW_ => ?_)
  generalize w59.drew = w61 at BK101 BK102 HB hHeld ⊢
  refine pure_ (i := 0) (N := some 36) (v := ?_) (a' := ?_) #[true, false, false, false, false, false, false, false, false, false, false, false, false] rfl rfl (any_of HT_.out (by kernel_rfl)) (fun _ _ _ h => h) (Or.inl ⟨by rfl, ?_⟩) ?_ ?_
  rotate_left
  ·intro w'
   go_simp
   with_reducible rfl
  rotate_left
  ·simp only [Act.put, List.setIfInBounds_toArray, List.set_cons_zero, List.set_cons_succ, i64_w, i32_w]
   rfl
  refine pure_ (i := 2) (N := some 38) (v := ?_) (a' := ?_) #[true, false, true, false, false, false, false, false, false, false, false, false, false] rfl rfl (any_of HT_.out (by kernel_rfl)) (fun _ _ _ h => h) (Or.inl ⟨by rfl, ?_⟩) ?_ ?_
  rotate_left
  ·intro w'
   go_simp
   with_reducible rfl
  rotate_left
  ·simp only [Act.put, List.setIfInBounds_toArray, List.set_cons_zero, List.set_cons_succ, i64_w, i32_w]
   rfl
  refine pure_ (i := 4) (N := some 40) (v := ?_) (a' := ?_) #[true, false, true, false, true, false, false, false, false, false, false, false, false] rfl rfl (any_of HT_.out (by kernel_rfl)) (fun _ _ _ h => h) (Or.inl ⟨by rfl, ?_⟩) ?_ ?_
  rotate_left
  ·intro w'
   go_simp
   with_reducible rfl
  rotate_left
  ·simp only [Act.put, List.setIfInBounds_toArray, List.set_cons_zero, List.set_cons_succ, i64_w, i32_w]
   rfl
  refine pure_ (i := 5) (N := some 41) (v := ?_) (a' := ?_) #[true, false, true, false, true, true, false, false, false, false, false, false, false] rfl rfl (any_of HT_.out (by kernel_rfl)) (fun _ _ _ h => h) (Or.inl ⟨by rfl, ?_⟩) ?_ ?_
  rotate_left
  ·intro w'
   go_simp
   with_reducible rfl
  rotate_left
  ·simp only [Act.put, List.setIfInBounds_toArray, List.set_cons_zero, List.set_cons_succ, i64_w, i32_w]
   rfl
  refine pure_ (i := 6) (N := some 42) (v := undef) (a' := ?_) #[true, false, true, false, true, true, true, false, false, false, false, false, false] rfl rfl (any_of HT_.out (by kernel_rfl)) (fun _ _ _ h => h) (Or.inr ⟨by rfl, rfl⟩) ?_ ?_
  rotate_left
  ·simp only [Act.put, List.setIfInBounds_toArray, List.set_cons_zero, List.set_cons_succ, i64_w, i32_w]
   rfl
  refine pure_ (i := 7) (N := some 43) (v := ?_) (a' := ?_) #[true, false, true, false, true, true, true, true, false, false, false, false, false] rfl rfl (any_of HT_.out (by kernel_rfl)) (fun _ _ _ h => h) (Or.inl ⟨by rfl, ?_⟩) ?_ ?_
  rotate_left
  ·intro w'
   go_simp
   with_reducible rfl
  rotate_left
  ·simp only [Act.put, List.setIfInBounds_toArray, List.set_cons_zero, List.set_cons_succ, i64_w, i32_w]
   rfl
  refine take_ (i := 1) (N := some 37) (v := ?_) (a' := ?_) #[true, true, true, false, true, true, true, true, false, false, false, false, false] rfl rfl (take_ofW HT_.out HW_.out (by kernel_rfl)) (fun _ _ _ h => h) (Or.inl ⟨by rfl, ?_⟩) hHeld ?_ ?_
  rotate_left
  ·rintro w' ⟨s0, s1, s2, s3, s4⟩
   go_simp
   with_reducible rfl
  rotate_left
  ·simp only [Act.put, List.setIfInBounds_toArray, List.set_cons_zero, List.set_cons_succ, i64_w, i32_w]
   rfl
  refine pure_ (i := 8) (N := some 44) (v := ?_) (a' := ?_) #[true, true, true, false, true, true, true, true, true, false, false, false, false] rfl rfl (any_of HT_.out (by kernel_rfl)) (fun _ _ _ h => h) (Or.inl ⟨by rfl, ?_⟩) ?_ ?_
  rotate_left
  ·intro w'
   go_simp
   with_reducible rfl
  rotate_left
  ·simp only [Act.put, List.setIfInBounds_toArray, List.set_cons_zero, List.set_cons_succ, i64_w, i32_w]
   rfl
  refine take_ (i := 3) (N := some 39) (v := ?_) (a' := ?_) #[true, true, true, true, true, true, true, true, true, false, false, false, false] rfl rfl (take_ofW HT_.out HW_.out (by kernel_rfl)) (fun _ _ _ h => h) (Or.inl ⟨by rfl, ?_⟩) hHeld ?_ ?_
  rotate_left
  ·rintro w' ⟨s0, s1, s2, s3, s4⟩
   go_simp
   with_reducible rfl
  rotate_left
  ·simp only [Act.put, List.setIfInBounds_toArray, List.set_cons_zero, List.set_cons_succ, i64_w, i32_w]
   rfl
  refine one_ (i := 9) (N := none) #[true, true, true, true, true, true, true, true, true, true, false, false, false] rfl rfl (one_of HT_.out (by kernel_rfl)) (by decide) (fun K hK => ?_)
  have hs62 : w61.cell? ⟨gb102, 2, none⟩ = some (.int .i64 0) := (blk_cell BK102.out 2).trans rfl
  have hfs62 := blk_frozen BK102.out 2
  have hns62_0 := NB101_102.out
  have hms62_0 := NB102_101.out
  refine skip_ (w1 := ?_) (by rfl) rfl ?_ ?_
  rotate_left
  ·go_simp
   rfl
  refine hK.out _ _ ⟨((cell_far (p := ⟨gb102, _, none⟩) NB101_102.out _).trans (hHeld.1)), ((cell_far (p := ⟨gb102, _, none⟩) NB101_102.out _).trans (hHeld.2.1)), ((cell_far (p := ⟨gb102, _, none⟩) NB101_102.out _).trans (hHeld.2.2.1)), ((cell_far (p := ⟨gb102, _, none⟩) NB101_102.out _).trans (hHeld.2.2.2.1)), ((cell_far (p := ⟨gb102, _, none⟩) NB101_102.out _).trans (hHeld.2.2.2.2))⟩ (fun hHeld => ?_)
  clear hK K
  refine pure_ (i := 10) (N := some 45) (v := ?_) (a' := ?_) #[true, true, true, true, true, true, true, true, true, true, true, false, false] rfl rfl (any_of HT_.out (by kernel_rfl)) (fun _ _ _ h => h) (Or.inl ⟨by rfl, ?_⟩) ?_ ?_
  rotate_left
  ·intro w'
   go_simp
   with_reducible rfl
  rotate_left
  ·simp only [Act.put, List.setIfInBounds_toArray, List.set_cons_zero, List.set_cons_succ, i64_w, i32_w]
   rfl
  refine one_ (i := 11) (N := none) #[true, true, true, true, true, true, true, true, true, true, true, true, false] rfl rfl (one_of HT_.out (by kernel_rfl)) (by decide) (fun K hK => ?_)
  have hs63 : w61.cell? ⟨gb102, 3, none⟩ = some (.int .i64 0) := (blk_cell BK102.out 3).trans rfl
  have hfs63 := blk_frozen BK102.out 3
  have hns63_0 := NB101_102.out
  have hms63_0 := NB102_101.out
  refine skip_ (w1 := ?_) (by rfl) rfl ?_ ?_
  rotate_left
  ·go_simp
   rfl
  refine hK.out _ _ ⟨((cell_far (p := ⟨gb102, _, none⟩) NB101_102.out _).trans (hHeld.1)), ((cell_far (p := ⟨gb102, _, none⟩) NB101_102.out _).trans (hHeld.2.1)), ((cell_far (p := ⟨gb102, _, none⟩) NB101_102.out _).trans (hHeld.2.2.1)), ((cell_far (p := ⟨gb102, _, none⟩) NB101_102.out _).trans (hHeld.2.2.2.1)), ((cell_far (p := ⟨gb102, _, none⟩) NB101_102.out _).trans (hHeld.2.2.2.2))⟩ (fun hHeld => ?_)
  clear hK K
  refine pure_ (i := 12) (N := some 9) (v := ?_) (a' := ?_) #[true, true, true, true, true, true, true, true, true, true, true, true, true] rfl rfl (any_of HT_.out (by kernel_rfl)) (fun _ _ _ h => h) (Or.inl ⟨by rfl, ?_⟩) ?_ ?_
  rotate_left
  ·intro w'
   go_simp
   with_reducible rfl
  rotate_left
  ·simp only [Act.put, List.setIfInBounds_toArray, List.set_cons_zero, List.set_cons_succ, i64_w, i32_w]
   rfl
  refine done_ (done_of HT_.out (by kernel_rfl)) ?_
  try go_wp2
  go_ret
  exact ⟨by first | rfl | (simp [errW_none, errW_some] <;> rfl) | (simp [*, errW_none, errW_some] <;> rfl), by repeat (first | (with_reducible first | exact HB.out | apply below_alloc | apply pw_below_drewN | apply below_drew1 | refine below_set ?_ GE101.out | refine below_set ?_ GE102.out) | exact HB.out)⟩
attribute [local go_sem high] eqA60
/-! ### impl_nodeValid: function 56 -/
open Go.Proofs.Ytappbijjpcaocaa.Walk
set_option maxHeartbeats 8000000 in
set_option maxRecDepth 100000 in
theorem impl_nodeValid.k3 (a0_0 : Int) (a0_1 : Int) (a0_2 : Int) (a0_3 : Int) (a0_4 : Int) (a1 : Int) (r : Bool) (w : World) (t103 t104 t105 : Bool) (A3 : Aside0 (impl_in.f a0_2 0 (wrap64 (a1 - 1)) = some t103)) (A4 : Aside0 (impl_in.f a0_3 0 (wrap64 (a1 - 1)) = some t104)) (A5 : Aside0 (impl_in.f a0_1 1 9 = some t105)) (c6b0 : (a0_0 == 1) = false) (c6b1 : (a0_0 != 1) = true) (c26b0 : (a0_0 == 2) = false) (c26b1 : (a0_0 != 2) = true) (c64 : a0_0 = 3) (H : (if a0_0 = 3 then (if t105 = true then (if t103 = true then (if t104 = true then (some (0 == a0_4)) else (some false)) else (some false)) else (some false)) else (if a0_0 = 4 then (if t105 = true then (if t103 = true then ((impl_in.f a0_4 0 4).bind fun t106 => (if t106 = true then (some (0 == a0_3)) else (some false))) else (some false)) else (some false)) else (some false))) = some r) :
  Calls Try.prog 56 #[.agg #[.int .i64 a0_0, .int .i64 a0_1, .int .i64 a0_2, .int .i64 a0_3, .int .i64 a0_4], .int .i64 a1] w fun e w' => e = .returned (.bool r) ∧ Below w.heap.size w w' := by
 have hu60 := Try.underlying60
 have HB := Aside0.mk (Below.refl w.heap.size w)
 rw [if_pos c64] at H
 have c64b0 : (a0_0 == 3) = true := beq_iff_eq.mpr c64
 have c64b1 : (a0_0 != 3) = false := bne_eq_false_iff_eq.mpr c64
 clear c64
 by_cases c65 : t105 = true
 ·subst c65
  have H1 : (if t103 = true then (if t104 = true then (some (0 == a0_4)) else (some false)) else (some false)) = some r := by rw [if_pos rfl] at H; exact H
  clear H
  have H := H1
  clear H1
  by_cases c66 : t103 = true
  ·subst c66
   have H1 : (if t104 = true then (some (0 == a0_4)) else (some false)) = some r := by rw [if_pos rfl] at H; exact H
   clear H
   have H := H1
   clear H1
   by_cases c67 : t104 = true
   ·subst c67
    have H1 : (some (0 == a0_4)) = some r := by rw [if_pos rfl] at H; exact H
    clear H
    have H := H1
    clear H1
    obtain rfl := Option.some.inj H
    have Q1 := Lib.hid (fun W => in_q a0_2 0 (wrap64 (a1 - 1)) _ W A3.out)
    have Q2 := Lib.hid (fun W => in_q a0_3 0 (wrap64 (a1 - 1)) _ W A4.out)
    have Q3 := Lib.hid (fun W => in_q a0_1 1 9 _ W A5.out)
    go_enter Try.func56, Try.ntmps56
    go_wp2_with fail
    go_quiet ((go_at_call 49; with_reducible first | exact Calls.quiet_of (Q1.out _) | exact Calls.quiet_of (Q2.out _) | (rw [i64_w]; first | exact Calls.quiet_of (Q1.out _) | exact Calls.quiet_of (Q2.out _))))
    go_wp2_with (go_at_call 49; with_reducible refine (Q3.out _).mono ?_; rintro e w' ⟨rfl, m, rfl⟩)
    generalize hq_ : World.drewN (World.alloc (World.alloc w _) _) _ = w74
    have HB : Aside0 (Below w.heap.size w w74) := ⟨by rw [← hq_]; repeat (first | exact Below.refl _ _ | apply below_alloc | apply pw_below_drewN | refine below_set ?_ (Nat.le_succ _))⟩
    have BK101 : Aside0 (w74.heap[w.heap.size]? = some (.cells #[.int .i64 a0_0, .int .i64 a0_1, .int .i64 a0_2, .int .i64 a0_3, .int .i64 a0_4] 60 (0, 0))) := ⟨by rw [← hq_]; exact blk_drewN (blk_alloc (new_blk _ _) _) _⟩
    have BK102 : Aside0 (w74.heap[w.heap.size + 1]? = some (.cells #[.int .i64 a0_0, .int .i64 0, .int .i64 0, .int .i64 0, .int .i64 0] 60 (0, 0))) := ⟨by rw [← hq_]; exact blk_drewN (by rw [← size_blk w (.cells #[.int .i64 a0_0, .int .i64 a0_1, .int .i64 a0_2, .int .i64 a0_3, .int .i64 a0_4] 60)]; exact new_blk _ _) _⟩
    clear hq_
    have GE101 : Aside0 (w.heap.size ≤ w.heap.size) := ⟨Nat.le_refl _⟩
    have GE102 : Aside0 (w.heap.size ≤ w.heap.size + 1) := ⟨Nat.le_succ _⟩
    have NB101_102 : Aside0 (w.heap.size ≠ w.heap.size + 1) := ⟨by omega⟩
    have NB102_101 : Aside0 (w.heap.size + 1 ≠ w.heap.size) := ⟨by omega⟩
    generalize hgb2 : w.heap.size + 1 = gb102 at BK102 GE102 NB101_102 NB102_101 ⊢
    generalize hgb1 : w.heap.size = gb101 at BK101 NB101_102 NB102_101 ⊢
    replace GE101 : Aside0 (w.heap.size ≤ gb101) := ⟨by omega⟩
    have hcn0_ : w74.cell? ⟨gb101, 0, none⟩ = some (.int .i64 a0_0) := (blk_cell BK101.out 0).trans rfl
    have hfn0_ := blk_frozen BK101.out 0
    have hcn1_ : w74.cell? ⟨gb101, 1, none⟩ = some (.int .i64 a0_1) := (blk_cell BK101.out 1).trans rfl
    have hfn1_ := blk_frozen BK101.out 1
    have hcn2_ : w74.cell? ⟨gb101, 2, none⟩ = some (.int .i64 a0_2) := (blk_cell BK101.out 2).trans rfl
    have hfn2_ := blk_frozen BK101.out 2
    have hcn3_ : w74.cell? ⟨gb101, 3, none⟩ = some (.int .i64 a0_3) := (blk_cell BK101.out 3).trans rfl
    have hfn3_ := blk_frozen BK101.out 3
    have hcn4_ : w74.cell? ⟨gb101, 4, none⟩ = some (.int .i64 a0_4) := (blk_cell BK101.out 4).trans rfl
    have hfn4_ := blk_frozen BK101.out 4
    have n0_ := Aside0.mk (blk_drew BK101.out)
    have n1_ := Aside0.mk (blk_drew BK102.out)
    have n2_ := Aside0.mk (below_drew1 HB.out)
    clear BK101
    clear BK102
    clear HB
    have BK101 := n0_
    have BK102 := n1_
    have HB := n2_
    clear n0_ n1_ n2_
    refine start_ (n := 20) (S := fun w' => w'.cell? ⟨gb101, 0, none⟩ = some (.int .i64 a0_0) ∧ w'.cell? ⟨gb101, 1, none⟩ = some (.int .i64 a0_1) ∧ w'.cell? ⟨gb101, 2, none⟩ = some (.int .i64 a0_2) ∧ w'.cell? ⟨gb101, 3, none⟩ = some (.int .i64 a0_3) ∧ w'.cell? ⟨gb101, 4, none⟩ = some (.int .i64 a0_4)) (ds := []) #[false, false, false, false, false, false, false, false, false, false, false, false, false, false, false, false, false, false, false, false] (by kernel_rfl) rfl rfl ⟨(blk_cell BK101.out 0).trans rfl, (blk_cell BK101.out 1).trans rfl, (blk_cell BK101.out 2).trans rfl, (blk_cell BK101.out 3).trans rfl, (blk_cell BK101.out 4).trans rfl⟩ (fun hHeld => ?_); refine with_tabW impl_nodeValid.tab11 impl_nodeValid.bits11 (fun HT_ HW_ => ?_)
    generalize w74.drew = w76 at BK101 BK102 HB hHeld ⊢
    refine pure_ (i := 0) (N := some 48) (v := ?_) (a' := ?_) #[true, false, false, false, false, false, false, false, false, false, false, false, false, false, false, false, false, false, false, false] rfl rfl (any_of HT_.out (by kernel_rfl)) (fun _ _ _ h => h) (Or.inl ⟨by rfl, ?_⟩) ?_ ?_
    rotate_left
    ·intro w'
     go_simp
     with_reducible rfl
    rotate_left
    ·simp only [Act.put, List.setIfInBounds_toArray, List.set_cons_zero, List.set_cons_succ, i64_w, i32_w]
     rfl
    refine pure_ (i := 2) (N := some 50) (v := ?_) (a' := ?_) #[true, false, true, false, false, false, false, false, false, false, false, false, false, false, false, false, false, false, false, false] rfl rfl (any_of HT_.out (by kernel_rfl)) (fun _ _ _ h => h) (Or.inl ⟨by rfl, ?_⟩) ?_ ?_
    rotate_left
    ·intro w'
     go_simp
     with_reducible rfl
    rotate_left
    ·simp only [Act.put, List.setIfInBounds_toArray, List.set_cons_zero, List.set_cons_succ, i64_w, i32_w]
     rfl
    refine pure_ (i := 4) (N := some 52) (v := ?_) (a' := ?_) #[true, false, true, false, true, false, false, false, false, false, false, false, false, false, false, false, false, false, false, false] rfl rfl (any_of HT_.out (by kernel_rfl)) (fun _ _ _ h => h) (Or.inl ⟨by rfl, ?_⟩) ?_ ?_
    rotate_left
    ·intro w'
     go_simp
     with_reducible rfl
    rotate_left
    ·simp only [Act.put, List.setIfInBounds_toArray, List.set_cons_zero, List.set_cons_succ, i64_w, i32_w]
     rfl
    refine pure_ (i := 6) (N := some 54) (v := ?_) (a' := ?_) #[true, false, true, false, true, false, true, false, false, false, false, false, false, false, false, false, false, false, false, false] rfl rfl (any_of HT_.out (by kernel_rfl)) (fun _ _ _ h => h) (Or.inl ⟨by rfl, ?_⟩) ?_ ?_
    rotate_left
    ·intro w'
     go_simp
     with_reducible rfl
    rotate_left
    ·simp only [Act.put, List.setIfInBounds_toArray, List.set_cons_zero, List.set_cons_succ, i64_w, i32_w]
     rfl
    refine pure_ (i := 7) (N := some 55) (v := ?_) (a' := ?_) #[true, false, true, false, true, false, true, true, false, false, false, false, false, false, false, false, false, false, false, false] rfl rfl (any_of HT_.out (by kernel_rfl)) (fun _ _ _ h => h) (Or.inl ⟨by rfl, ?_⟩) ?_ ?_
    rotate_left
    ·intro w'
     go_simp
     with_reducible rfl
    rotate_left
    ·simp only [Act.put, List.setIfInBounds_toArray, List.set_cons_zero, List.set_cons_succ, i64_w, i32_w]
     rfl
    refine pure_ (i := 8) (N := some 56) (v := ?_) (a' := ?_) #[true, false, true, false, true, false, true, true, true, false, false, false, false, false, false, false, false, false, false, false] rfl rfl (any_of HT_.out (by kernel_rfl)) (fun _ _ _ h => h) (Or.inl ⟨by rfl, ?_⟩) ?_ ?_
    rotate_left
    ·intro w'
     go_simp
     with_reducible rfl
    rotate_left
    ·simp only [Act.put, List.setIfInBounds_toArray, List.set_cons_zero, List.set_cons_succ, i64_w, i32_w]
     rfl
    refine pure_ (i := 9) (N := some 57) (v := ?_) (a' := ?_) #[true, false, true, false, true, false, true, true, true, true, false, false, false, false, false, false, false, false, false, false] rfl rfl (any_of HT_.out (by kernel_rfl)) (fun _ _ _ h => h) (Or.inl ⟨by rfl, ?_⟩) ?_ ?_
    rotate_left
    ·intro w'
     go_simp
     with_reducible rfl
    rotate_left
    ·simp only [Act.put, List.setIfInBounds_toArray, List.set_cons_zero, List.set_cons_succ, i64_w, i32_w]
     rfl
    refine pure_ (i := 10) (N := some 58) (v := ?_) (a' := ?_) #[true, false, true, false, true, false, true, true, true, true, true, false, false, false, false, false, false, false, false, false] rfl rfl (any_of HT_.out (by kernel_rfl)) (fun _ _ _ h => h) (Or.inl ⟨by rfl, ?_⟩) ?_ ?_
    rotate_left
    ·intro w'
     go_simp
     with_reducible rfl
    rotate_left
    ·simp only [Act.put, List.setIfInBounds_toArray, List.set_cons_zero, List.set_cons_succ, i64_w, i32_w]
     rfl
    refine pure_ (i := 11) (N := some 59) (v := ?_) (a' := ?_) #[true, false, true, false, true, false, true, true, true, true, true, true, false, false, false, false, false, false, false, false] rfl rfl (any_of HT_.out (by kernel_rfl)) (fun _ _ _ h => h) (Or.inl ⟨by rfl, ?_⟩) ?_ ?_
    rotate_left
    ·intro w'
     go_simp
     with_reducible rfl
    rotate_left
    ·simp only [Act.put, List.setIfInBounds_toArray, List.set_cons_zero, List.set_cons_succ, i64_w, i32_w]
     rfl
    refine pure_ (i := 12) (N := some 60) (v := ?_) (a' := ?_) #[true, false, true, false, true, false, true, true, true, true, true, true, true, false, false, false, false, false, false, false] rfl rfl (any_of HT_.out (by kernel_rfl)) (fun _ _ _ h => h) (Or.inl ⟨by rfl, ?_⟩) ?_ ?_
    rotate_left
    ·intro w'
     go_simp
     with_reducible rfl
    rotate_left
    ·simp only [Act.put, List.setIfInBounds_toArray, List.set_cons_zero, List.set_cons_succ, i64_w, i32_w]
     rfl
    refine take_ (i := 1) (N := some 49) (v := ?_) (a' := ?_) #[true, true, true, false, true, false, true, true, true, true, true, true, true, false, false, false, false, false, false, false] rfl rfl (take_ofW HT_.out HW_.out (by kernel_rfl)) (fun _ _ _ h => h) (Or.inl ⟨by rfl, ?_⟩) hHeld ?_ ?_
    rotate_left
    ·rintro w' ⟨s0, s1, s2, s3, s4⟩
     go_simp
     with_reducible rfl
    rotate_left
    ·simp only [Act.put, List.setIfInBounds_toArray, List.set_cons_zero, List.set_cons_succ, i64_w, i32_w]
     rfl
    refine pure_ (i := 13) (N := some 61) (v := ?_) (a' := ?_) #[true, true, true, false, true, false, true, true, true, true, true, true, true, true, false, false, false, false, false, false] rfl rfl (any_of HT_.out (by kernel_rfl)) (fun _ _ _ h => h) (Or.inl ⟨by rfl, ?_⟩) ?_ ?_
    rotate_left
    ·intro w'
     go_simp
     with_reducible rfl
    rotate_left
    ·simp only [Act.put, List.setIfInBounds_toArray, List.set_cons_zero, List.set_cons_succ, i64_w, i32_w]
     rfl
    refine take_ (i := 3) (N := some 51) (v := ?_) (a' := ?_) #[true, true, true, true, true, false, true, true, true, true, true, true, true, true, false, false, false, false, false, false] rfl rfl (take_ofW HT_.out HW_.out (by kernel_rfl)) (fun _ _ _ h => h) (Or.inl ⟨by rfl, ?_⟩) hHeld ?_ ?_
    rotate_left
    ·rintro w' ⟨s0, s1, s2, s3, s4⟩
     go_simp
     with_reducible rfl
    rotate_left
    ·simp only [Act.put, List.setIfInBounds_toArray, List.set_cons_zero, List.set_cons_succ, i64_w, i32_w]
     rfl
    refine take_ (i := 5) (N := some 53) (v := ?_) (a' := ?_) #[true, true, true, true, true, true, true, true, true, true, true, true, true, true, false, false, false, false, false, false] rfl rfl (take_ofW HT_.out HW_.out (by kernel_rfl)) (fun _ _ _ h => h) (Or.inl ⟨by rfl, ?_⟩) hHeld ?_ ?_
    rotate_left
    ·rintro w' ⟨s0, s1, s2, s3, s4⟩
     go_simp
     with_reducible rfl
    rotate_left
    ·simp only [Act.put, List.setIfInBounds_toArray, List.set_cons_zero, List.set_cons_succ, i64_w, i32_w]
     rfl
    refine one_ (i := 14) (N := none) #[true, true, true, true, true, true, true, true, true, true, true, true, true, true, true, false, false, false, false, false] rfl rfl (one_of HT_.out (by kernel_rfl)) (by decide) (fun K hK => ?_)
    have hs77 : w76.cell? ⟨gb102, 1, none⟩ = some (.int .i64 0) := (blk_cell BK102.out 1).trans rfl
    have hfs77 := blk_frozen BK102.out 1
    have hns77_0 := NB101_102.out
    have hms77_0 := NB102_101.out
    refine skip_ (w1 := ?_) (by rfl) rfl ?_ ?_
    rotate_left
    ·go_simp
     rfl
    refine hK.out _ _ ⟨((cell_far (p := ⟨gb102, _, none⟩) NB101_102.out _).trans (hHeld.1)), ((cell_far (p := ⟨gb102, _, none⟩) NB101_102.out _).trans (hHeld.2.1)), ((cell_far (p := ⟨gb102, _, none⟩) NB101_102.out _).trans (hHeld.2.2.1)), ((cell_far (p := ⟨gb102, _, none⟩) NB101_102.out _).trans (hHeld.2.2.2.1)), ((cell_far (p := ⟨gb102, _, none⟩) NB101_102.out _).trans (hHeld.2.2.2.2))⟩ (fun hHeld => ?_)
    clear hK K
    refine pure_ (i := 15) (N := some 62) (v := ?_) (a' := ?_) #[true, true, true, true, true, true, true, true, true, true, true, true, true, true, true, true, false, false, false, false] rfl rfl (any_of HT_.out (by kernel_rfl)) (fun _ _ _ h => h) (Or.inl ⟨by rfl, ?_⟩) ?_ ?_
    rotate_left
    ·intro w'
     go_simp
     with_reducible rfl
    rotate_left
    ·simp only [Act.put, List.setIfInBounds_toArray, List.set_cons_zero, List.set_cons_succ, i64_w, i32_w]
     rfl
    refine one_ (i := 16) (N := none) #[true, true, true, true, true, true, true, true, true, true, true, true, true, true, true, true, true, false, false, false] rfl rfl (one_of HT_.out (by kernel_rfl)) (by decide) (fun K hK => ?_)
    have hs78 : w76.cell? ⟨gb102, 2, none⟩ = some (.int .i64 0) := (blk_cell BK102.out 2).trans rfl
    have hfs78 := blk_frozen BK102.out 2
    have hns78_0 := NB101_102.out
    have hms78_0 := NB102_101.out
    refine skip_ (w1 := ?_) (by rfl) rfl ?_ ?_
    rotate_left
    ·go_simp
     rfl
    refine hK.out _ _ ⟨((cell_far (p := ⟨gb102, _, none⟩) NB101_102.out _).trans (hHeld.1)), ((cell_far (p := ⟨gb102, _, none⟩) NB101_102.out _).trans (hHeld.2.1)), ((cell_far (p := ⟨gb102, _, none⟩) NB101_102.out _).trans (hHeld.2.2.1)), ((cell_far (p := ⟨gb102, _, none⟩) NB101_102.out _).trans (hHeld.2.2.2.1)), ((cell_far (p := ⟨gb102, _, none⟩) NB101_102.out _).trans (hHeld.2.2.2.2))⟩ (fun hHeld => ?_)
    clear hK K
    refine pure_ (i := 17) (N := some 63) (v := ?_) (a' := ?_) #[true, true, true, true, true, true, true, true, true, true, true, true, true, true, true, true, true, true, false, false] rfl rfl (any_of HT_.out (by kernel_rfl)) (fun _ _ _ h => h) (Or.inl ⟨by rfl, ?_⟩) ?_ ?_
    rotate_left
    ·intro w'
     go_simp
     with_reducible rfl
    rotate_left
    ·simp only [Act.put, List.setIfInBounds_toArray, List.set_cons_zero, List.set_cons_succ, i64_w, i32_w]
     rfl
    refine one_ (i := 18) (N := none) #[true, true, true, true, true, true, true, true, true, true, true, true, true, true, true, true, true, true, true, false] rfl rfl (one_of HT_.out (by kernel_rfl)) (by decide) (fun K hK => ?_)
    have hs79 : w76.cell? ⟨gb102, 3, none⟩ = some (.int .i64 0) := (blk_cell BK102.out 3).trans rfl
    have hfs79 := blk_frozen BK102.out 3
    have hns79_0 := NB101_102.out
    have hms79_0 := NB102_101.out
    refine skip_ (w1 := ?_) (by rfl) rfl ?_ ?_
    rotate_left
    ·go_simp
     rfl
    refine hK.out _ _ ⟨((cell_far (p := ⟨gb102, _, none⟩) NB101_102.out _).trans (hHeld.1)), ((cell_far (p := ⟨gb102, _, none⟩) NB101_102.out _).trans (hHeld.2.1)), ((cell_far (p := ⟨gb102, _, none⟩) NB101_102.out _).trans (hHeld.2.2.1)), ((cell_far (p := ⟨gb102, _, none⟩) NB101_102.out _).trans (hHeld.2.2.2.1)), ((cell_far (p := ⟨gb102, _, none⟩) NB101_102.out _).trans (hHeld.2.2.2.2))⟩ (fun hHeld => ?_)
    clear hK K
    refine pure_ (i := 19) (N := some 9) (v := ?_) (a' := ?_) #[true, true, true, true, true, true, true, true, true, true, true, true, true, true, true, true, true, true, true, true] rfl rfl (any_of HT_.out (by kernel_rfl)) (fun _ _ _ h => h) (Or.inl ⟨by rfl, ?_⟩) ?_ ?_
    rotate_left
    ·intro w'
     go_simp
     with_reducible rfl
    rotate_left
    ·simp only [Act.put, List.setIfInBounds_toArray, List.set_cons_zero, List.set_cons_succ, i64_w, i32_w]
     rfl
    refine done_ (done_of HT_.out (by kernel_rfl)) ?_
    have hcz80_0 : w76.cell? ⟨gb102, 0, none⟩ = some (.int .i64 a0_0) := (blk_cell BK102.out 0).trans rfl
    have hcz80_1 : w76.cell? ⟨gb102, 1, none⟩ = some (.int .i64 0) := (blk_cell BK102.out 1).trans rfl
    have hcz80_2 : w76.cell? ⟨gb102, 2, none⟩ = some (.int .i64 0) := (blk_cell BK102.out 2).trans rfl
    have hcz80_3 : w76.cell? ⟨gb102, 3, none⟩ = some (.int .i64 0) := (blk_cell BK102.out 3).trans rfl
    have hcz80_4 : w76.cell? ⟨gb102, 4, none⟩ = some (.int .i64 0) := (blk_cell BK102.out 4).trans rfl
    have hfz80_0 := blk_frozen BK102.out 0
    have hfz80_1 := blk_frozen BK102.out 1
    have hfz80_2 := blk_frozen BK102.out 2
    have hfz80_3 := blk_frozen BK102.out 3
    have hfz80_4 := blk_frozen BK102.out 4
    have hcz81_0 : w76.cell? ⟨gb101, 0, none⟩ = some (.int .i64 a0_0) := (blk_cell BK101.out 0).trans rfl
    have hcz81_1 : w76.cell? ⟨gb101, 1, none⟩ = some (.int .i64 a0_1) := (blk_cell BK101.out 1).trans rfl
    have hcz81_2 : w76.cell? ⟨gb101, 2, none⟩ = some (.int .i64 a0_2) := (blk_cell BK101.out 2).trans rfl
    have hcz81_3 : w76.cell? ⟨gb101, 3, none⟩ = some (.int .i64 a0_3) := (blk_cell BK101.out 3).trans rfl
    have hcz81_4 : w76.cell? ⟨gb101, 4, none⟩ = some (.int .i64 a0_4) := (blk_cell BK101.out 4).trans rfl
    have hfz81_0 := blk_frozen BK101.out 0
    have hfz81_1 := blk_frozen BK101.out 1
    have hfz81_2 := blk_frozen BK101.out 2
    have hfz81_3 := blk_frozen BK101.out 3
    have hfz81_4 := blk_frozen BK101.out 4
    try go_wp2
    go_ret
    exact ⟨by first | rfl | (simp [errW_none, errW_some] <;> rfl) | (simp [*, errW_none, errW_some] <;> rfl), by repeat (first | (with_reducible first | exact HB.out | apply below_alloc | apply pw_below_drewN | apply below_drew1 | refine below_set ?_ GE101.out | refine below_set ?_ GE102.out) | exact HB.out)⟩
   ·replace c67 := Bool.eq_false_iff.mpr c67
    subst c67
    have H1 : (some false) = some r := by rw [if_neg (show ¬ (false = true) by decide)] at H; exact H
    clear H
    have H := H1
    clear H1
    obtain rfl := Option.some.inj H
    have Q1 := Lib.hid (fun W => in_q a0_2 0 (wrap64 (a1 - 1)) _ W A3.out)
    have Q2 := Lib.hid (fun W => in_q a0_3 0 (wrap64 (a1 - 1)) _ W A4.out)
    have Q3 := Lib.hid (fun W => in_q a0_1 1 9 _ W A5.out)
    go_enter Try.func56, Try.ntmps56
    go_wp2_with fail
    go_quiet ((go_at_call 49; with_reducible first | exact Calls.quiet_of (Q1.out _) | exact Calls.quiet_of (Q2.out _) | (rw [i64_w]; first | exact Calls.quiet_of (Q1.out _) | exact Calls.quiet_of (Q2.out _))))
    go_wp2_with (go_at_call 49; with_reducible refine (Q3.out _).mono ?_; rintro e w' ⟨rfl, m, rfl⟩)
    generalize hq_ : World.drewN (World.alloc (World.alloc w _) _) _ = w88
    have HB : Aside0 (Below w.heap.size w w88) := ⟨by rw [← hq_]; repeat (first | exact Below.refl _ _ | apply below_alloc | apply pw_below_drewN | refine below_set ?_ (Nat.le_succ _))⟩
    have BK101 : Aside0 (w88.heap[w.heap.size]? = some (.cells #[.int .i64 a0_0, .int .i64 a0_1, .int .i64 a0_2, .int .i64 a0_3, .int .i64 a0_4] 60 (0, 0))) := ⟨by rw [← hq_]; exact blk_drewN (blk_alloc (new_blk _ _) _) _⟩
    have BK102 : Aside0 (w88.heap[w.heap.size + 1]? = some (.cells #[.int .i64 a0_0, .int .i64 0, .int .i64 0, .int .i64 0, .int .i64 0] 60 (0, 0))) := ⟨by rw [← hq_]; exact blk_drewN (by rw [← size_blk w (.cells #[.int .i64 a0_0, .int .i64 a0_1, .int .i64 a0_2, .int .i64 a0_3, .int .i64 a0_4] 60)]; exact new_blk _ _) _⟩
    clear hq_
    have GE101 : Aside0 (w.heap.size ≤ w.heap.size) := ⟨Nat.le_refl _⟩
    have GE102 : Aside0 (w.heap.size ≤ w.heap.size + 1) := ⟨Nat.le_succ _⟩
    have NB101_102 : Aside0 (w.heap.size ≠ w.heap.size + 1) := ⟨by omega⟩
    have NB102_101 : Aside0 (w.heap.size + 1 ≠ w.heap.size) := ⟨by omega⟩
    generalize hgb2 : w.heap.size + 1 = gb102 at BK102 GE102 NB101_102 NB102_101 ⊢
    generalize hgb1 : w.heap.size = gb101 at BK101 NB101_102 NB102_101 ⊢
    replace GE101 : Aside0 (w.heap.size ≤ gb101) := ⟨by omega⟩
    have hcn0_ : w88.cell? ⟨gb101, 0, none⟩ = some (.int .i64 a0_0) := (blk_cell BK101.out 0).trans rfl
    have hfn0_ := blk_frozen BK101.out 0
    have hcn1_ : w88.cell? ⟨gb101, 1, none⟩ = some (.int .i64 a0_1) := (blk_cell BK101.out 1).trans rfl
    have hfn1_ := blk_frozen BK101.out 1
    have hcn2_ : w88.cell? ⟨gb101, 2, none⟩ = some (.int .i64 a0_2) := (blk_cell BK101.out 2).trans rfl
    have hfn2_ := blk_frozen BK101.out 2
    have hcn3_ : w88.cell? ⟨gb101, 3, none⟩ = some (.int .i64 a0_3) := (blk_cell BK101.out 3).trans rfl
    have hfn3_ := blk_frozen BK101.out 3
    have hcn4_ : w88.cell? ⟨gb101, 4, none⟩ = some (.int .i64 a0_4) := (blk_cell BK101.out 4).trans rfl
    have hfn4_ := blk_frozen BK101.out 4
    have n0_ := Aside0.mk (blk_drew BK101.out)
    have n1_ := Aside0.mk (blk_drew BK102.out)
    have n2_ := Aside0.mk (below_drew1 HB.out)
    clear BK101
    clear BK102
    clear HB
    have BK101 := n0_
    have BK102 := n1_
    have HB := n2_
    clear n0_ n1_ n2_
    refine start_ (n := 20) (S := fun w' => w'.cell? ⟨gb101, 0, none⟩ = some (.int .i64 a0_0) ∧ w'.cell? ⟨gb101, 1, none⟩ = some (.int .i64 a0_1) ∧ w'.cell? ⟨gb101, 2, none⟩ = some (.int .i64 a0_2) ∧ w'.cell? ⟨gb101, 3, none⟩ = some (.int .i64 a0_3) ∧ w'.cell? ⟨gb101, 4, none⟩ = some (.int .i64 a0_4)) (ds := []) #[false, false, false, false, false, false, false, false, false, false, false, false, false, false, false, false, false, false, false, false] (by kernel_rfl) rfl rfl ⟨(blk_cell BK101.out 0).trans rfl, (blk_cell BK101.out 1).trans rfl, (blk_cell BK101.out 2).trans rfl, (blk_cell BK101.out 3).trans rfl, (blk_cell BK101.out 4).trans rfl⟩ (fun hHeld => ?_); refine with_tabW impl_nodeValid.tab11 impl_nodeValid.bits11 (fun HT_ HW_ => ?_)
    generalize w88.drew = w90 at BK101 BK102 HB hHeld ⊢
    refine pure_ (i := 0) (N := some 48) (v := ?_) (a' := ?_) #[true, false, false, false, false, false, false, false, false, false, false, false, false, false, false, false, false, false, false, false] rfl rfl (any_of HT_.out (by kernel_rfl)) (fun _ _ _ h => h) (Or.inl ⟨by rfl, ?_⟩) ?_ ?_
    rotate_left
    ·intro w'
     go_simp
     with_reducible rfl
    rotate_left
    ·simp only [Act.put, List.setIfInBounds_toArray, List.set_cons_zero, List.set_cons_succ, i64_w, i32_w]
     rfl
    refine pure_ (i := 2) (N := some 50) (v := ?_) (a' := ?_) #[true, false, true, false, false, false, false, false, false, false, false, false, false, false, false, false, false, false, false, false] rfl rfl (any_of HT_.out (by kernel_rfl)) (fun _ _ _ h => h) (Or.inl ⟨by rfl, ?_⟩) ?_ ?_
    rotate_left
    ·intro w'
     go_simp
     with_reducible rfl
    rotate_left
    ·simp only [Act.put, List.setIfInBounds_toArray, List.set_cons_zero, List.set_cons_succ, i64_w, i32_w]
     rfl
    refine pure_ (i := 4) (N := some 52) (v := ?_) (a' := ?_) #[true, false, true, false, true, false, false, false, false, false, false, false, false, false, false, false, false, false, false, false] rfl rfl (any_of HT_.out (by kernel_rfl)) (fun _ _ _ h => h) (Or.inl ⟨by rfl, ?_⟩) ?_ ?_
    rotate_left
    ·intro w'
     go_simp
     with_reducible rfl
    rotate_left
    ·simp only [Act.put, List.setIfInBounds_toArray, List.set_cons_zero, List.set_cons_succ, i64_w, i32_w]
     rfl
    refine pure_ (i := 6) (N := some 54) (v := ?_) (a' := ?_) #[true, false, true, false, true, false, true, false, false, false, false, false, false, false, false, false, false, false, false, false] rfl rfl (any_of HT_.out (by kernel_rfl)) (fun _ _ _ h => h) (Or.inl ⟨by rfl, ?_⟩) ?_ ?_
    rotate_left
    ·intro w'
     go_simp
     with_reducible rfl
    rotate_left
    ·simp only [Act.put, List.setIfInBounds_toArray, List.set_cons_zero, List.set_cons_succ, i64_w, i32_w]
     rfl
    refine pure_ (i := 7) (N := some 55) (v := ?_) (a' := ?_) #[true, false, true, false, true, false, true, true, false, false, false, false, false, false, false, false, false, false, false, false] rfl rfl (any_of HT_.out (by kernel_rfl)) (fun _ _ _ h => h) (Or.inl ⟨by rfl, ?_⟩) ?_ ?_
    rotate_left
    ·intro w'
     go_simp
     with_reducible rfl
    rotate_left
    ·simp only [Act.put, List.setIfInBounds_toArray, List.set_cons_zero, List.set_cons_succ, i64_w, i32_w]
     rfl
    refine pure_ (i := 8) (N := some 56) (v := ?_) (a' := ?_) #[true, false, true, false, true, false, true, true, true, false, false, false, false, false, false, false, false, false, false, false] rfl rfl (any_of HT_.out (by kernel_rfl)) (fun _ _ _ h => h) (Or.inl ⟨by rfl, ?_⟩) ?_ ?_
    rotate_left
    ·intro w'
     go_simp
     with_reducible rfl
    rotate_left
    ·simp only [Act.put, List.setIfInBounds_toArray, List.set_cons_zero, List.set_cons_succ, i64_w, i32_w]
     rfl
    refine pure_ (i := 9) (N := some 57) (v := ?_) (a' := ?_) #[true, false, true, false, true, false, true, true, true, true, false, false, false, false, false, false, false, false, false, false] rfl rfl (any_of HT_.out (by kernel_rfl)) (fun _ _ _ h => h) (Or.inl ⟨by rfl, ?_⟩) ?_ ?_
    rotate_left
    ·intro w'
     go_simp
     with_reducible rfl
    rotate_left
    ·simp only [Act.put, List.setIfInBounds_toArray, List.set_cons_zero, List.set_cons_succ, i64_w, i32_w]
     rfl
    refine pure_ (i := 10) (N := some 58) (v := ?_) (a' := ?_) #[true, false, true, false, true, false, true, true, true, true, true, false, false, false, false, false, false, false, false, false] rfl rfl (any_of HT_.out (by kernel_rfl)) (fun _ _ _ h => h) (Or.inl ⟨by rfl, ?_⟩) ?_ ?_
    rotate_left
    ·intro w'
     go_simp
     with_reducible rfl
    rotate_left
    ·simp only [Act.put, List.setIfInBounds_toArray, List.set_cons_zero, List.set_cons_succ, i64_w, i32_w]
     rfl
    refine pure_ (i := 11) (N := some 59) (v := ?_) (a' := ?_) #[true, false, true, false, true, false, true, true, true, true, true, true, false, false, false, false, false, false, false, false] rfl rfl (any_of HT_.out (by kernel_rfl)) (fun _ _ _ h => h) (Or.inl ⟨by rfl, ?_⟩) ?_ ?_
    rotate_left
    ·intro w'
     go_simp
     with_reducible rfl
    rotate_left
    ·simp only [Act.put, List.setIfInBounds_toArray, List.set_cons_zero, List.set_cons_succ, i64_w, i32_w]
     rfl
    refine pure_ (i := 12) (N := some 60) (v := ?_) (a' := ?_) #[true, false, true, false, true, false, true, true, true, true, true, true, true, false, false, false, false, false, false, false] rfl rfl (any_of HT_.out (by kernel_rfl)) (fun _ _ _ h => h) (Or.inl ⟨by rfl, ?_⟩) ?_ ?_
    rotate_left
    ·intro w'
     go_simp
     with_reducible rfl
    rotate_left
    ·simp only [Act.put, List.setIfInBounds_toArray, List.set_cons_zero, List.set_cons_succ, i64_w, i32_w]
     rfl
    refine take_ (i := 1) (N := some 49) (v := ?_) (a' := ?_) #[true, true, true, false, true, false, true, true, true, true, true, true, true, false, false, false, false, false, false, false] rfl rfl (take_ofW HT_.out HW_.out (by kernel_rfl)) (fun _ _ _ h => h) (Or.inl ⟨by rfl, ?_⟩) hHeld ?_ ?_
    rotate_left
    ·rintro w' ⟨s0, s1, s2, s3, s4⟩
     go_simp
     with_reducible rfl
    rotate_left
    ·simp only [Act.put, List.setIfInBounds_toArray, List.set_cons_zero, List.set_cons_succ, i64_w, i32_w]
     rfl
    refine pure_ (i := 13) (N := some 61) (v := ?_) (a' := ?_) #[true, true, true, false, true, false, true, true, true, true, true, true, true, true, false, false, false, false, false, false] rfl rfl (any_of HT_.out (by kernel_rfl)) (fun _ _ _ h => h) (Or.inl ⟨by rfl, ?_⟩) ?_ ?_
    rotate_left
    ·intro w'
     go_simp
     with_reducible rfl
    rotate_left
    ·simp only [Act.put, List.setIfInBounds_toArray, List.set_cons_zero, List.set_cons_succ, i64_w, i32_w]
     rfl
    refine take_ (i := 3) (N := some 51) (v := ?_) (a' := ?_) #[true, true, true, true, true, false, true, true, true, true, true, true, true, true, false, false, false, false, false, false] rfl rfl (take_ofW HT_.out HW_.out (by kernel_rfl)) (fun _ _ _ h => h) (Or.inl ⟨by rfl, ?_⟩) hHeld ?_ ?_
    rotate_left
    ·rintro w' ⟨s0, s1, s2, s3, s4⟩
     go_simp
     with_reducible rfl
    rotate_left
    ·simp only [Act.put, List.setIfInBounds_toArray, List.set_cons_zero, List.set_cons_succ, i64_w, i32_w]
     rfl
    refine take_ (i := 5) (N := some 53) (v := ?_) (a' := ?_) #[true, true, true, true, true, true, true, true, true, true, true, true, true, true, false, false, false, false, false, false] rfl rfl (take_ofW HT_.out HW_.out (by kernel_rfl)) (fun _ _ _ h => h) (Or.inl ⟨by rfl, ?_⟩) hHeld ?_ ?_
    rotate_left
    ·rintro w' ⟨s0, s1, s2, s3, s4⟩
     go_simp
     with_reducible rfl
    rotate_left
    ·simp only [Act.put, List.setIfInBounds_toArray, List.set_cons_zero, List.set_cons_succ, i64_w, i32_w]
     rfl
    refine one_ (i := 14) (N := none) #[true, true, true, true, true, true, true, true, true, true, true, true, true, true, true, false, false, false, false, false] rfl rfl (one_of HT_.out (by kernel_rfl)) (by decide) (fun K hK => ?_)
    have hs91 : w90.cell? ⟨gb102, 1, none⟩ = some (.int .i64 0) := (blk_cell BK102.out 1).trans rfl
    have hfs91 := blk_frozen BK102.out 1
    have hns91_0 := NB101_102.out
    have hms91_0 := NB102_101.out
    refine skip_ (w1 := ?_) (by rfl) rfl ?_ ?_
    rotate_left
    ·go_simp
     rfl
    refine hK.out _ _ ⟨((cell_far (p := ⟨gb102, _, none⟩) NB101_102.out _).trans (hHeld.1)), ((cell_far (p := ⟨gb102, _, none⟩) NB101_102.out _).trans (hHeld.2.1)), ((cell_far (p := ⟨gb102, _, none⟩) NB101_102.out _).trans (hHeld.2.2.1)), ((cell_far (p := ⟨gb102, _, none⟩) NB101_102.out _).trans (hHeld.2.2.2.1)), ((cell_far (p := ⟨gb102, _, none⟩) NB101_102.out _).trans (hHeld.2.2.2.2))⟩ (fun hHeld => ?_)
    clear hK K
    refine pure_ (i := 15) (N := some 62) (v := ?_) (a' := ?_) #[true, true, true, true, true, true, true, true, true, true, true, true, true, true, true, true, false, false, false, false] rfl rfl (any_of HT_.out (by kernel_rfl)) (fun _ _ _ h => h) (Or.inl ⟨by rfl, ?_⟩) ?_ ?_
    rotate_left
    ·intro w'
     go_simp
     with_reducible rfl
    rotate_left
    ·simp only [Act.put, List.setIfInBounds_toArray, List.set_cons_zero, List.set_cons_succ, i64_w, i32_w]
     rfl
    refine one_ (i := 16) (N := none) #[true, true, true, true, true, true, true, true, true, true, true, true, true, true, true, true, true, false, false, false] rfl rfl (one_of HT_.out (by kernel_rfl)) (by decide) (fun K hK => ?_)
    have hs92 : w90.cell? ⟨gb102, 2, none⟩ = some (.int .i64 0) := (blk_cell BK102.out 2).trans rfl
    have hfs92 := blk_frozen BK102.out 2
    have hns92_0 := NB101_102.out
    have hms92_0 := NB102_101.out
    refine skip_ (w1 := ?_) (by rfl) rfl ?_ ?_
    rotate_left
    ·go_simp
     rfl
    refine hK.out _ _ ⟨((cell_far (p := ⟨gb102, _, none⟩) NB101_102.out _).trans (hHeld.1)), ((cell_far (p := ⟨gb102, _, none⟩) NB101_102.out _).trans (hHeld.2.1)), ((cell_far (p := ⟨gb102, _, none⟩) NB101_102.out _).trans (hHeld.2.2.1)), ((cell_far (p := ⟨gb102, _, none⟩) NB101_102.out _).trans (hHeld.2.2.2.1)), ((cell_far (p := ⟨gb102, _, none⟩) NB101_102.out _).trans (hHeld.2.2.2.2))⟩ (fun hHeld => ?_)
    clear hK K
    refine pure_ (i := 17) (N := some 63) (v := ?_) (a' := ?_) #[true, true, true, true, true, true, true, true, true, true, true, true, true, true, true, true, true, true, false, false] rfl rfl (any_of HT_.out (by kernel_rfl)) (fun _ _ _ h => h) (Or.inl ⟨by rfl, ?_⟩) ?_ ?_
    rotate_left
    ·intro w'
     go_simp
     with_reducible rfl
    rotate_left
    ·simp only [Act.put, List.setIfInBounds_toArray, List.set_cons_zero, List.set_cons_succ, i64_w, i32_w]
     rfl
    refine one_ (i := 18) (N := none) #[true, true, true, true, true, true, true, true, true, true, true, true, true, true, true, true, true, true, true, false] rfl rfl (one_of HT_.out (by kernel_rfl)) (by decide) (fun K hK => ?_)
    have hs93 : w90.cell? ⟨gb102, 3, none⟩ = some (.int .i64 0) := (blk_cell BK102.out 3).trans rfl
    have hfs93 := blk_frozen BK102.out 3
    have hns93_0 := NB101_102.out
    have hms93_0 := NB102_101.out
    refine skip_ (w1 := ?_) (by rfl) rfl ?_ ?_
    rotate_left
    ·go_simp
     rfl
    refine hK.out _ _ ⟨((cell_far (p := ⟨gb102, _, none⟩) NB101_102.out _).trans (hHeld.1)), ((cell_far (p := ⟨gb102, _, none⟩) NB101_102.out _).trans (hHeld.2.1)), ((cell_far (p := ⟨gb102, _, none⟩) NB101_102.out _).trans (hHeld.2.2.1)), ((cell_far (p := ⟨gb102, _, none⟩) NB101_102.out _).trans (hHeld.2.2.2.1)), ((cell_far (p := ⟨gb102, _, none⟩) NB101_102.out _).trans (hHeld.2.2.2.2))⟩ (fun hHeld => ?_)
    clear hK K
    refine pure_ (i := 19) (N := some 9) (v := ?_) (a' := ?_) #[true, true, true, true, true, true, true, true, true, true, true, true, true, true, true, true, true, true, true, true] rfl rfl (any_of HT_.out (by kernel_rfl)) (fun _ _ _ h => h) (Or.inl ⟨by rfl, ?_⟩) ?_ ?_
    rotate_left
    ·intro w'
     go_simp
     with_reducible rfl
    rotate_left
    ·simp only [Act.put, List.setIfInBounds_toArray, List.set_cons_zero, List.set_cons_succ, i64_w, i32_w]
     rfl
    refine done_ (done_of HT_.out (by kernel_rfl)) ?_
    try go_wp2
    go_ret
    exact ⟨by first | rfl | (simp [errW_none, errW_some] <;> rfl) | (simp [*, errW_none, errW_some] <;> rfl), by repeat (first | (with_reducible first | exact HB.out | apply below_alloc | apply pw_below_drewN | apply below_drew1 | refine below_set ?_ GE101.out | refine below_set ?_ GE102.out) | exact HB.out)⟩
  ·replace c66 := Bool.eq_false_iff.mpr c66
   subst c66
   have H1 : (some false) = some r := by rw [if_neg (show ¬ (false = true) by decide)] at H; exact H
   clear H
   have H := H1
   clear H1
   obtain rfl := Option.some.inj H
   have Q1 := Lib.hid (fun W => in_q a0_2 0 (wrap64 (a1 - 1)) _ W A3.out)
   have Q2 := Lib.hid (fun W => in_q a0_3 0 (wrap64 (a1 - 1)) _ W A4.out)
   have Q3 := Lib.hid (fun W => in_q a0_1 1 9 _ W A5.out)
   go_enter Try.func56, Try.ntmps56
   go_wp2_with fail
   go_quiet ((go_at_call 49; with_reducible first | exact Calls.quiet_of (Q1.out _) | exact Calls.quiet_of (Q2.out _) | (rw [i64_w]; first | exact Calls.quiet_of (Q1.out _) | exact Calls.quiet_of (Q2.out _))))
   go_wp2_with (go_at_call 49; with_reducible refine (Q3.out _).mono ?_; rintro e w' ⟨rfl, m, rfl⟩)
   generalize hq_ : World.drewN (World.alloc (World.alloc w _) _) _ = w100
   have HB : Aside0 (Below w.heap.size w w100) := ⟨by rw [← hq_]; repeat (first | exact Below.refl _ _ | apply below_alloc | apply pw_below_drewN | refine below_set ?_ (Nat.le_succ _))⟩
   have BK101 : Aside0 (w100.heap[w.heap.size]? = some (.cells #[.int .i64 a0_0, .int .i64 a0_1, .int .i64 a0_2, .int .i64 a0_3, .int .i64 a0_4] 60 (0, 0))) := ⟨by rw [← hq_]; exact blk_drewN (blk_alloc (new_blk _ _) _) _⟩
   have BK102 : Aside0 (w100.heap[w.heap.size + 1]? = some (.cells #[.int .i64 a0_0, .int .i64 0, .int .i64 0, .int .i64 0, .int .i64 0] 60 (0, 0))) := ⟨by rw [← hq_]; exact blk_drewN (by rw [← size_blk w (.cells #[.int .i64 a0_0, .int .i64 a0_1, .int .i64 a0_2, .int .i64 a0_3, .int .i64 a0_4] 60)]; exact new_blk _ _) _⟩
   clear hq_
   have GE101 : Aside0 (w.heap.size ≤ w.heap.size) := ⟨Nat.le_refl _⟩
   have GE102 : Aside0 (w.heap.size ≤ w.heap.size + 1) := ⟨Nat.le_succ _⟩
   have NB101_102 : Aside0 (w.heap.size ≠ w.heap.size + 1) := ⟨by omega⟩
   have NB102_101 : Aside0 (w.heap.size + 1 ≠ w.heap.size) := ⟨by omega⟩
   generalize hgb2 : w.heap.size + 1 = gb102 at BK102 GE102 NB101_102 NB102_101 ⊢
   generalize hgb1 : w.heap.size = gb101 at BK101 NB101_102 NB102_101 ⊢
   replace GE101 : Aside0 (w.heap.size ≤ gb101) := ⟨by omega⟩
   have hcn0_ : w100.cell? ⟨gb101, 0, none⟩ = some (.int .i64 a0_0) := (blk_cell BK101.out 0).trans rfl
   have hfn0_ := blk_frozen BK101.out 0
   have hcn1_ : w100.cell? ⟨gb101, 1, none⟩ = some (.int .i64 a0_1) := (blk_cell BK101.out 1).trans rfl
   have hfn1_ := blk_frozen BK101.out 1
   have hcn2_ : w100.cell? ⟨gb101, 2, none⟩ = some (.int .i64 a0_2) := (blk_cell BK101.out 2).trans rfl
   have hfn2_ := blk_frozen BK101.out 2
   have hcn3_ : w100.cell? ⟨gb101, 3, none⟩ = some (.int .i64 a0_3) := (blk_cell BK101.out 3).trans rfl
   have hfn3_ := blk_frozen BK101.out 3
   have hcn4_ : w100.cell? ⟨gb101, 4, none⟩ = some (.int .i64 a0_4) := (blk_cell BK101.out 4).trans rfl
   have hfn4_ := blk_frozen BK101.out 4
   have n0_ := Aside0.mk (blk_drew BK101.out)
   have n1_ := Aside0.mk (blk_drew BK102.out)
   have n2_ := Aside0.mk (below_drew1 HB.out)
   clear BK101
   clear BK102
   clear HB
   have BK101 := n0_
   have BK102 := n1_
   have HB := n2_
   clear n0_ n1_ n2_
   refine start_ (n := 20) (S := fun w' => w'.cell? ⟨gb101, 0, none⟩ = some (.int .i64 a0_0) ∧ w'.cell? ⟨gb101, 1, none⟩ = some (.int .i64 a0_1) ∧ w'.cell? ⟨gb101, 2, none⟩ = some (.int .i64 a0_2) ∧ w'.cell? ⟨gb101, 3, none⟩ = some (.int .i64 a0_3) ∧ w'.cell? ⟨gb101, 4, none⟩ = some (.int .i64 a0_4)) (ds := []) #[false, false, false, false, false, false, false, false, false, false, false, false, false, false, false, false, false, false, false, false] (by kernel_rfl) rfl rfl ⟨(blk_cell BK101.out 0).trans rfl, (blk_cell BK101.out 1).trans rfl, (blk_cell BK101.out 2).trans rfl, (blk_cell BK101.out 3).trans rfl, (blk_cell BK101.out 4).trans rfl⟩ (fun hHeld => ?_); refine with_tabW impl_nodeValid.tab11 impl_nodeValid.bits11 (fun HT_ HW_ => ?_)
   generalize w100.drew = w102 at BK101 BK102 HB hHeld ⊢
   refine pure_ (i := 0) (N := some 48) (v := ?_) (a' := ?_) #[true, false, false, false, false, false, false, false, false, false, false, false, false, false, false, false, false, false, false, false] rfl rfl (any_of HT_.out (by kernel_rfl)) (fun _ _ _ h => h) (Or.inl ⟨by rfl, ?_⟩) ?_ ?_
   rotate_left
   ·intro w'
    go_simp
    with_reducible rfl
   rotate_left
   ·simp only [Act.put, List.setIfInBounds_toArray, List.set_cons_zero, List.set_cons_succ, i64_w, i32_w]
    rfl
   refine pure_ (i := 2) (N := some 50) (v := ?_) (a' := ?_) #[true, false, true, false, false, false, false, false, false, false, false, false, false, false, false, false, false, false, false, false] rfl rfl (any_of HT_.out (by kernel_rfl)) (fun _ _ _ h => h) (Or.inl ⟨by rfl, ?_⟩) ?_ ?_
   rotate_left
   ·intro w'
    go_simp
    with_reducible rfl
   rotate_left
   ·simp only [Act.put, List.setIfInBounds_toArray, List.set_cons_zero, List.set_cons_succ, i64_w, i32_w]
    rfl
   refine pure_ (i := 4) (N := some 52) (v := ?_) (a' := ?_) #[true, false, true, false, true, false, false, false, false, false, false, false, false, false, false, false, false, false, false, false] rfl rfl (any_of HT_.out (by kernel_rfl)) (fun _ _ _ h => h) (Or.inl ⟨by rfl, ?_⟩) ?_ ?_
   rotate_left
   ·intro w'
    go_simp
    with_reducible rfl
   rotate_left
   ·simp only [Act.put, List.setIfInBounds_toArray, List.set_cons_zero, List.set_cons_succ, i64_w, i32_w]
    rfl
   refine pure_ (i := 6) (N := some 54) (v := ?_) (a' := ?_) #[true, false, true, false, true, false, true, false, false, false, false, false, false, false, false, false, false, false, false, false] rfl rfl (any_of HT_.out (by kernel_rfl)) (fun _ _ _ h => h) (Or.inl ⟨by rfl, ?_⟩) ?_ ?_
   rotate_left
   ·intro w'
    go_simp
    with_reducible rfl
   rotate_left
   ·simp only [Act.put, List.setIfInBounds_toArray, List.set_cons_zero, List.set_cons_succ, i64_w, i32_w]
    rfl
   refine pure_ (i := 7) (N := some 55) (v := ?_) (a' := ?_) #[true, false, true, false, true, false, true, true, false, false, false, false, false, false, false, false, false, false, false, false] rfl rfl (any_of HT_.out (by kernel_rfl)) (fun _ _ _ h => h) (Or.inl ⟨by rfl, ?_⟩) ?_ ?_
   rotate_left
   ·intro w'
    go_simp
    with_reducible rfl
   rotate_left
   ·simp only [Act.put, List.setIfInBounds_toArray, List.set_cons_zero, List.set_cons_succ, i64_w, i32_w]
    rfl
   refine pure_ (i := 8) (N := some 56) (v := ?_) (a' := ?_) #[true, false, true, false, true, false, true, true, true, false, false, false, false, false, false, false, false, false, false, false] rfl rfl (any_of HT_.out (by kernel_rfl)) (fun _ _ _ h => h) (Or.inl ⟨by rfl, ?_⟩) ?_ ?_
   rotate_left
   ·intro w'
    go_simp
    with_reducible rfl
   rotate_left
   ·simp only [Act.put, List.setIfInBounds_toArray, List.set_cons_zero, List.set_cons_succ, i64_w, i32_w]
    rfl
   refine pure_ (i := 9) (N := some 57) (v := ?_) (a' := ?_) #[true, false, true, false, true, false, true, true, true, true, false, false, false, false, false, false, false, false, false, false] rfl rfl (any_of HT_.out (by kernel_rfl)) (fun _ _ _ h => h) (Or.inl ⟨by rfl, ?_⟩) ?_ ?_
   rotate_left
   ·intro w'
    go_simp
    with_reducible rfl
   rotate_left
   ·simp only [Act.put, List.setIfInBounds_toArray, List.set_cons_zero, List.set_cons_succ, i64_w, i32_w]
    rfl
   refine pure_ (i := 10) (N := some 58) (v := ?_) (a' := ?_) #[true, false, true, false, true, false, true, true, true, true, true, false, false, false, false, false, false, false, false, false] rfl rfl (any_of HT_.out (by kernel_rfl)) (fun _ _ _ h => h) (Or.inl ⟨by rfl, ?_⟩) ?_ ?_
   rotate_left
   ·intro w'
    go_simp
    with_reducible rfl
   rotate_left
   ·simp only [Act.put, List.setIfInBounds_toArray, List.set_cons_zero, List.set_cons_succ, i64_w, i32_w]
    rfl
   refine pure_ (i := 11) (N := some 59) (v := undef) (a' := ?_) #[true, false, true, false, true, false, true, true, true, true, true, true, false, false, false, false, false, false, false, false] rfl rfl (any_of HT_.out (by kernel_rfl)) (fun _ _ _ h => h) (Or.inr ⟨by rfl, rfl⟩) ?_ ?_
   rotate_left
   ·simp only [Act.put, List.setIfInBounds_toArray, List.set_cons_zero, List.set_cons_succ, i64_w, i32_w]
    rfl
   refine pure_ (i := 12) (N := some 60) (v := ?_) (a' := ?_) #[true, false, true, false, true, false, true, true, true, true, true, true, true, false, false, false, false, false, false, false] rfl rfl (any_of HT_.out (by kernel_rfl)) (fun _ _ _ h => h) (Or.inl ⟨by rfl, ?_⟩) ?_ ?_
   rotate_left
   ·intro w'
    go_simp
    with_reducible rfl
   rotate_left
   ·simp only [Act.put, List.setIfInBounds_toArray, List.set_cons_zero, List.set_cons_succ, i64_w, i32_w]
    rfl
   refine take_ (i := 1) (N := some 49) (v := ?_) (a' := ?_) #[true, true, true, false, true, false, true, true, true, true, true, true, true, false, false, false, false, false, false, false] rfl rfl (take_ofW HT_.out HW_.out (by kernel_rfl)) (fun _ _ _ h => h) (Or.inl ⟨by rfl, ?_⟩) hHeld ?_ ?_
   rotate_left
   ·rintro w' ⟨s0, s1, s2, s3, s4⟩
    go_simp
    with_reducible rfl
   rotate_left
   ·simp only [Act.put, List.setIfInBounds_toArray, List.set_cons_zero, List.set_cons_succ, i64_w, i32_w]
    rfl
   refine pure_ (i := 13) (N := some 61) (v := ?_) (a' := ?_) #[true, true, true, false, true, false, true, true, true, true, true, true, true, true, false, false, false, false, false, false] rfl rfl (any_of HT_.out (by kernel_rfl)) (fun _ _ _ h => h) (Or.inl ⟨by rfl, ?_⟩) ?_ ?_
   rotate_left
   ·intro w'
    go_simp
    with_reducible rfl
   rotate_left
   ·simp only [Act.put, List.setIfInBounds_toArray, List.set_cons_zero, List.set_cons_succ, i64_w, i32_w]
    rfl
   refine take_ (i := 3) (N := some 51) (v := ?_) (a' := ?_) #[true, true, true, true, true, false, true, true, true, true, true, true, true, true, false, false, false, false, false, false] rfl rfl (take_ofW HT_.out HW_.out (by kernel_rfl)) (fun _ _ _ h => h) (Or.inl ⟨by rfl, ?_⟩) hHeld ?_ ?_
   rotate_left
   ·rintro w' ⟨s0, s1, s2, s3, s4⟩
    go_simp
    with_reducible rfl
   rotate_left
   ·simp only [Act.put, List.setIfInBounds_toArray, List.set_cons_zero, List.set_cons_succ, i64_w, i32_w]
    rfl
   refine take_ (i := 5) (N := some 53) (v := ?_) (a' := ?_) #[true, true, true, true, true, true, true, true, true, true, true, true, true, true, false, false, false, false, false, false] rfl rfl (take_ofW HT_.out HW_.out (by kernel_rfl)) (fun _ _ _ h => h) (Or.inl ⟨by rfl, ?_⟩) hHeld ?_ ?_
   rotate_left
   ·rintro w' ⟨s0, s1, s2, s3, s4⟩
    go_simp
    with_reducible rfl
   rotate_left
   ·simp only [Act.put, List.setIfInBounds_toArray, List.set_cons_zero, List.set_cons_succ, i64_w, i32_w]
    rfl
   refine one_ (i := 14) (N := none) #[true, true, true, true, true, true, true, true, true, true, true, true, true, true, true, false, false, false, false, false] rfl rfl (one_of HT_.out (by kernel_rfl)) (by decide) (fun K hK => ?_)
   have hs103 : w102.cell? ⟨gb102, 1, none⟩ = some (.int .i64 0) := (blk_cell BK102.out 1).trans rfl
   have hfs103 := blk_frozen BK102.out 1
   have hns103_0 := NB101_102.out
   have hms103_0 := NB102_101.out
   refine skip_ (w1 := ?_) (by rfl) rfl ?_ ?_
   rotate_left
   ·go_simp
    rfl
   refine hK.out _ _ ⟨((cell_far (p := ⟨gb102, _, none⟩) NB101_102.out _).trans (hHeld.1)), ((cell_far (p := ⟨gb102, _, none⟩) NB101_102.out _).trans (hHeld.2.1)), ((cell_far (p := ⟨gb102, _, none⟩) NB101_102.out _).trans (hHeld.2.2.1)), ((cell_far (p := ⟨gb102, _, none⟩) NB101_102.out _).trans (hHeld.2.2.2.1)), ((cell_far (p := ⟨gb102, _, none⟩) NB101_102.out _).trans (hHeld.2.2.2.2))⟩ (fun hHeld => ?_)
   clear hK K
   refine pure_ (i := 15) (N := some 62) (v := ?_) (a' := ?_) #[true, true, true, true, true, true, true, true, true, true, true, true, true, true, true, true, false, false, false, false] rfl rfl (any_of HT_.out (by kernel_rfl)) (fun _ _ _ h => h) (Or.inl ⟨by rfl, ?_⟩) ?_ ?_
   rotate_left
   ·intro w'
    go_simp
    with_reducible rfl
   rotate_left
   ·simp only [Act.put, List.setIfInBounds_toArray, List.set_cons_zero, List.set_cons_succ, i64_w, i32_w]
    rfl
   refine one_ (i := 16) (N := none) #[true, true, true, true, true, true, true, true, true, true, true, true, true, true, true, true, true, false, false, false] rfl rfl (one_of HT_.out (by kernel_rfl)) (by decide) (fun K hK => ?_)
   have hs104 : w102.cell? ⟨gb102, 2, none⟩ = some (.int .i64 0) := (blk_cell BK102.out 2).trans rfl
   have hfs104 := blk_frozen BK102.out 2
   have hns104_0 := NB101_102.out
   have hms104_0 := NB102_101.out
   refine skip_ (w1 := ?_) (by rfl) rfl ?_ ?_
   rotate_left
   ·go_simp
    rfl
   refine hK.out _ _ ⟨((cell_far (p := ⟨gb102, _, none⟩) NB101_102.out _).trans (hHeld.1)), ((cell_far (p := ⟨gb102, _, none⟩) NB101_102.out _).trans (hHeld.2.1)), ((cell_far (p := ⟨gb102, _, none⟩) NB101_102.out _).trans (hHeld.2.2.1)), ((cell_far (p := ⟨gb102, _, none⟩) NB101_102.out _).trans (hHeld.2.2.2.1)), ((cell_far (p := ⟨gb102, _, none⟩) NB101_102.out _).trans (hHeld.2.2.2.2))⟩ (fun hHeld => ?_)
   clear hK K
   refine pure_ (i := 17) (N := some 63) (v := ?_) (a' := ?_) #[true, true, true, true, true, true, true, true, true, true, true, true, true, true, true, true, true, true, false, false] rfl rfl (any_of HT_.out (by kernel_rfl)) (fun _ _ _ h => h) (Or.inl ⟨by rfl, ?_⟩) ?_ ?_
   rotate_left
   ·intro w'
    go_simp
    with_reducible rfl
   rotate_left
   ·simp only [Act.put, List.setIfInBounds_toArray, List.set_cons_zero, List.set_cons_succ, i64_w, i32_w]
    rfl
   refine one_ (i := 18) (N := none) #[true, true, true, true, true, true, true, true, true, true, true, true, true, true, true, true, true, true, true, false] rfl rfl (one_of HT_.out (by kernel_rfl)) (by decide) (fun K hK => ?_)
   have hs105 : w102.cell? ⟨gb102, 3, none⟩ = some (.int .i64 0) := (blk_cell BK102.out 3).trans rfl
   have hfs105 := blk_frozen BK102.out 3
   have hns105_0 := NB101_102.out
   have hms105_0 := NB102_101.out
   refine skip_ (w1 := ?_) (by rfl) rfl ?_ ?_
   rotate_left
   ·go_simp
    rfl
   refine hK.out _ _ ⟨((cell_far (p := ⟨gb102, _, none⟩) NB101_102.out _).trans (hHeld.1)), ((cell_far (p := ⟨gb102, _, none⟩) NB101_102.out _).trans (hHeld.2.1)), ((cell_far (p := ⟨gb102, _, none⟩) NB101_102.out _).trans (hHeld.2.2.1)), ((cell_far (p := ⟨gb102, _, none⟩) NB101_102.out _).trans (hHeld.2.2.2.1)), ((cell_far (p := ⟨gb102, _, none⟩) NB101_102.out _).trans (hHeld.2.2.2.2))⟩ (fun hHeld => ?_)
   clear hK K
   refine pure_ (i := 19) (N := some 9) (v := ?_) (a' := ?_) #[true, true, true, true, true, true, true, true, true, true, true, true, true, true, true, true, true, true, true, true] rfl rfl (any_of HT_.out (by kernel_rfl)) (fun _ _ _ h => h) (Or.inl ⟨by rfl, ?_⟩) ?_ ?_
   rotate_left
   ·intro w'
    go_simp
    with_reducible rfl
   rotate_left
   ·simp only [Act.put, List.setIfInBounds_toArray, List.set_cons_zero, List.set_cons_succ, i64_w, i32_w]
    rfl
   refine done_ (done_of HT_.out (by kernel_rfl)) ?_
   try go_wp2
   go_ret
   exact ⟨by first | rfl | (simp [errW_none, errW_some] <;> rfl) | (simp [*, errW_none, errW_some] <;> rfl), by repeat (first | (with_reducible first | exact HB.out | apply below_alloc | apply pw_below_drewN | apply below_drew1 | refine below_set ?_ GE101.out | refine below_set ?_ GE102.out) | exact HB.out)⟩
 ·replace c65 := Bool.eq_false_iff.mpr c65
  subst c65
  have H1 : (some false) = some r := by rw [if_neg (show ¬ (false = true) by decide)] at H; exact H
  clear H
  have H := H1
  clear H1
  obtain rfl := Option.some.inj H
  have Q1 := Lib.hid (fun W => in_q a0_2 0 (wrap64 (a1 - 1)) _ W A3.out)
  have Q2 := Lib.hid (fun W => in_q a0_3 0 (wrap64 (a1 - 1)) _ W A4.out)
  have Q3 := Lib.hid (fun W => in_q a0_1 1 9 _ W A5.out)
  go_enter Try.func56, Try.ntmps56
  go_wp2_with fail
  go_quiet ((go_at_call 49; with_reducible first | exact Calls.quiet_of (Q1.out _) | exact Calls.quiet_of (Q2.out _) | (rw [i64_w]; first | exact Calls.quiet_of (Q1.out _) | exact Calls.quiet_of (Q2.out _))))
  go_wp2_with (go_at_call 49; with_reducible refine (Q3.out _).mono ?_; rintro e w' ⟨rfl, m, rfl⟩)
  generalize hq_ : World.drewN (World.alloc (World.alloc w _) _) _ = w112
  have HB : Aside0 (Below w.heap.size w w112) := ⟨by rw [← hq_]; repeat (first | exact Below.refl _ _ | apply below_alloc | apply pw_below_drewN | refine below_set ?_ (Nat.le_succ _))⟩
  have BK101 : Aside0 (w112.heap[w.heap.size]? = some (.cells #[.int .i64 a0_0, .int .i64 a0_1, .int .i64 a0_2, .int .i64 a0_3, .int .i64 a0_4] 60 (0, 0))) := ⟨by rw [← hq_]; exact blk_drewN (blk_alloc (new_blk _ _) _) _⟩
  have BK102 : Aside0 (w112.heap[w.heap.size + 1]? = some (.cells #[.int .i64 a0_0, .int .i64 0, .int .i64 0, .int .i64 0, .int .i64 0] 60 (0, 0))) := ⟨by rw [← hq_]; exact blk_drewN (by rw [← size_blk w (.cells #[.int .i64 a0_0, .int .i64 a0_1, .int .i64 a0_2, .int .i64 a0_3, .int .i64 a0_4] 60)]; exact new_blk _ _) _⟩
  clear hq_
  have GE101 : Aside0 (w.heap.size ≤ w.heap.size) := ⟨Nat.le_refl _⟩
  have GE102 : Aside0 (w.heap.size ≤ w.heap.size + 1) := ⟨Nat.le_succ _⟩
  have NB101_102 : Aside0 (w.heap.size ≠ w.heap.size + 1) := ⟨by omega⟩
  have NB102_101 : Aside0 (w.heap.size + 1 ≠ w.heap.size) := ⟨by omega⟩
  generalize hgb2 : w.heap.size + 1 = gb102 at BK102 GE102 NB101_102 NB102_101 ⊢
  generalize hgb1 : w.heap.size = gb101 at BK101 NB101_102 NB102_101 ⊢
  replace GE101 : Aside0 (w.heap.size ≤ gb101) := ⟨by omega⟩
  have hcn0_ : w112.cell? ⟨gb101, 0, none⟩ = some (.int .i64 a0_0) := (blk_cell BK101.out 0).trans rfl
  have hfn0_ := blk_frozen BK101.out 0
  have hcn1_ : w112.cell? ⟨gb101, 1, none⟩ = some (.int .i64 a0_1) := (blk_cell BK101.out 1).trans rfl
  have hfn1_ := blk_frozen BK101.out 1
  have hcn2_ : w112.cell? ⟨gb101, 2, none⟩ = some (.int .i64 a0_2) := (blk_cell BK101.out 2).trans rfl
  have hfn2_ := blk_frozen BK101.out 2
  have hcn3_ : w112.cell? ⟨gb101, 3, none⟩ = some (.int .i64 a0_3) := (blk_cell BK101.out 3).trans rfl
  have hfn3_ := blk_frozen BK101.out 3
  have hcn4_ : w112.cell? ⟨gb101, 4, none⟩ = some (.int .i64 a0_4) := (blk_cell BK101.out 4).trans rfl
  have hfn4_ := blk_frozen BK101.out 4
  have n0_ := Aside0.mk (blk_drew BK101.out)
  have n1_ := Aside0.mk (blk_drew BK102.out)
  have n2_ := Aside0.mk (below_drew1 HB.out)
  clear BK101
  clear BK102
  clear HB
  have BK101 := n0_
  have BK102 := n1_
  have HB := n2_
  clear n0_ n1_ n2_
  refine start_ (n := 20) (S := fun w' => w'.cell? ⟨gb101, 0, none⟩ = some (.int .i64 a0_0) ∧ w'.cell? ⟨gb101, 1, none⟩ = some (.int .i64 a0_1) ∧ w'.cell? ⟨gb101, 2, none⟩ = some (.int .i64 a0_2) ∧ w'.cell? ⟨gb101, 3, none⟩ = some (.int .i64 a0_3) ∧ w'.cell? ⟨gb101, 4, none⟩ = some (.int .i64 a0_4)) (ds := []) #[false, false, false, false, false, false, false, false, false, false, false, false, false, false, false, false, false, false, false, false] (by kernel_rfl) rfl rfl ⟨(blk_cell BK101.out 0).trans rfl, (blk_cell BK101.out 1).trans rfl, (blk_cell BK101.out 2).trans rfl, (blk_cell BK101.out 3).trans rfl, (blk_cell BK101.out 4).trans rfl⟩ (fun hHeld => ?_); refine with_tabW impl_nodeValid.tab11 impl_nodeValid.bits11 (fun HT_ HW_ => ?_)
  generalize w112.drew = w114 at BK101 BK102 HB hHeld ⊢
  refine pure_ (i := 0) (N := some 48) (v := ?_) (a' := ?_) #[true, false, false, false, false, false, false, false, false, false, false, false, false, false, false, false, false, false, false, false] rfl rfl (any_of HT_.out (by kernel_rfl)) (fun _ _ _ h => h) (Or.inl ⟨by rfl, ?_⟩) ?_ ?_
  rotate_left
  ·intro w'
   go_simp
   with_reducible rfl
  rotate_left
  ·simp only [Act.put, List.setIfInBounds_toArray, List.set_cons_zero, List.set_cons_succ, i64_w, i32_w]
   rfl
  refine pure_ (i := 2) (N := some 50) (v := ?_) (a' := ?_) #[true, false, true, false, false, false, false, false, false, false, false, false, false, false, false, false, false, false, false, false] rfl rfl (any_of HT_.out (by kernel_rfl)) (fun _ _ _ h => h) (Or.inl ⟨by rfl, ?_⟩) ?_ ?_
  rotate_left
  ·intro w'
   go_simp
   with_reducible rfl
  rotate_left
  ·simp only [Act.put, List.setIfInBounds_toArray, List.set_cons_zero, List.set_cons_succ, i64_w, i32_w]
   rfl
  refine pure_ (i := 4) (N := some 52) (v := ?_) (a' := ?_) #[true, false, true, false, true, false, false, false, false, false, false, false, false, false, false, false, false, false, false, false] rfl rfl (any_of HT_.out (by kernel_rfl)) (fun _ _ _ h => h) (Or.inl ⟨by rfl, ?_⟩) ?_ ?_
  rotate_left
  ·intro w'
   go_simp
   with_reducible rfl
  rotate_left
  ·simp only [Act.put, List.setIfInBounds_toArray, List.set_cons_zero, List.set_cons_succ, i64_w, i32_w]
   rfl
  refine pure_ (i := 6) (N := some 54) (v := ?_) (a' := ?_) #[true, false, true, false, true, false, true, false, false, false, false, false, false, false, false, false, false, false, false, false] rfl rfl (any_of HT_.out (by kernel_rfl)) (fun _ _ _ h => h) (Or.inl ⟨by rfl, ?_⟩) ?_ ?_
  rotate_left
  ·intro w'
   go_simp
   with_reducible rfl
  rotate_left
  ·simp only [Act.put, List.setIfInBounds_toArray, List.set_cons_zero, List.set_cons_succ, i64_w, i32_w]
   rfl
  refine pure_ (i := 7) (N := some 55) (v := ?_) (a' := ?_) #[true, false, true, false, true, false, true, true, false, false, false, false, false, false, false, false, false, false, false, false] rfl rfl (any_of HT_.out (by kernel_rfl)) (fun _ _ _ h => h) (Or.inl ⟨by rfl, ?_⟩) ?_ ?_
  rotate_left
  ·intro w'
   go_simp
   with_reducible rfl
  rotate_left
  ·simp only [Act.put, List.setIfInBounds_toArray, List.set_cons_zero, List.set_cons_succ, i64_w, i32_w]
   rfl
  refine pure_ (i := 8) (N := some 56) (v := undef) (a' := ?_) #[true, false, true, false, true, false, true, true, true, false, false, false, false, false, false, false, false, false, false, false] rfl rfl (any_of HT_.out (by kernel_rfl)) (fun _ _ _ h => h) (Or.inr ⟨by rfl, rfl⟩) ?_ ?_
  rotate_left
  ·simp only [Act.put, List.setIfInBounds_toArray, List.set_cons_zero, List.set_cons_succ, i64_w, i32_w]
   rfl
  refine pure_ (i := 9) (N := some 57) (v := ?_) (a' := ?_) #[true, false, true, false, true, false, true, true, true, true, false, false, false, false, false, false, false, false, false, false] rfl rfl (any_of HT_.out (by kernel_rfl)) (fun _ _ _ h => h) (Or.inl ⟨by rfl, ?_⟩) ?_ ?_
  rotate_left
  ·intro w'
   go_simp
   with_reducible rfl
  rotate_left
  ·simp only [Act.put, List.setIfInBounds_toArray, List.set_cons_zero, List.set_cons_succ, i64_w, i32_w]
   rfl
  refine pure_ (i := 10) (N := some 58) (v := ?_) (a' := ?_) #[true, false, true, false, true, false, true, true, true, true, true, false, false, false, false, false, false, false, false, false] rfl rfl (any_of HT_.out (by kernel_rfl)) (fun _ _ _ h => h) (Or.inl ⟨by rfl, ?_⟩) ?_ ?_
  rotate_left
  ·intro w'
   go_simp
   with_reducible rfl
  rotate_left
  ·simp only [Act.put, List.setIfInBounds_toArray, List.set_cons_zero, List.set_cons_succ, i64_w, i32_w]
   rfl
  refine pure_ (i := 11) (N := some 59) (v := undef) (a' := ?_) #[true, false, true, false, true, false, true, true, true, true, true, true, false, false, false, false, false, false, false, false] rfl rfl (any_of HT_.out (by kernel_rfl)) (fun _ _ _ h => h) (Or.inr ⟨by rfl, rfl⟩) ?_ ?_
  rotate_left
  ·simp only [Act.put, List.setIfInBounds_toArray, List.set_cons_zero, List.set_cons_succ, i64_w, i32_w]
   rfl
  refine pure_ (i := 12) (N := some 60) (v := ?_) (a' := ?_) #[true, false, true, false, true, false, true, true, true, true, true, true, true, false, false, false, false, false, false, false] rfl rfl (any_of HT_.out (by kernel_rfl)) (fun _ _ _ h => h) (Or.inl ⟨by rfl, ?_⟩) ?_ ?_
  rotate_left
  ·intro w'
   go_simp
   with_reducible rfl
  rotate_left
  ·simp only [Act.put, List.setIfInBounds_toArray, List.set_cons_zero, List.set_cons_succ, i64_w, i32_w]
   rfl
  refine take_ (i := 1) (N := some 49) (v := ?_) (a' := ?_) #[true, true, true, false, true, false, true, true, true, true, true, true, true, false, false, false, false, false, false, false] rfl rfl (take_ofW HT_.out HW_.out (by kernel_rfl)) (fun _ _ _ h => h) (Or.inl ⟨by rfl, ?_⟩) hHeld ?_ ?_
  rotate_left
  ·rintro w' ⟨s0, s1, s2, s3, s4⟩
   go_simp
   with_reducible rfl
  rotate_left
  ·simp only [Act.put, List.setIfInBounds_toArray, List.set_cons_zero, List.set_cons_succ, i64_w, i32_w]
   rfl
  refine pure_ (i := 13) (N := some 61) (v := ?_) (a' := ?_) #[true, true, true, false, true, false, true, true, true, true, true, true, true, true, false, false, false, false, false, false] rfl rfl (any_of HT_.out (by kernel_rfl)) (fun _ _ _ h => h) (Or.inl ⟨by rfl, ?_⟩) ?_ ?_
  rotate_left
  ·intro w'
   go_simp
   with_reducible rfl
  rotate_left
  ·simp only [Act.put, List.setIfInBounds_toArray, List.set_cons_zero, List.set_cons_succ, i64_w, i32_w]
   rfl
  refine take_ (i := 3) (N := some 51) (v := ?_) (a' := ?_) #[true, true, true, true, true, false, true, true, true, true, true, true, true, true, false, false, false, false, false, false] rfl rfl (take_ofW HT_.out HW_.out (by kernel_rfl)) (fun _ _ _ h => h) (Or.inl ⟨by rfl, ?_⟩) hHeld ?_ ?_
  rotate_left
  ·rintro w' ⟨s0, s1, s2, s3, s4⟩
   go_simp
   with_reducible rfl
  rotate_left
  ·simp only [Act.put, List.setIfInBounds_toArray, List.set_cons_zero, List.set_cons_succ, i64_w, i32_w]
   rfl
  refine take_ (i := 5) (N := some 53) (v := ?_) (a' := ?_) #[true, true, true, true, true, true, true, true, true, true, true, true, true, true, false, false, false, false, false, false] rfl rfl (take_ofW HT_.out HW_.out (by kernel_rfl)) (fun _ _ _ h => h) (Or.inl ⟨by rfl, ?_⟩) hHeld ?_ ?_
  rotate_left
  ·rintro w' ⟨s0, s1, s2, s3, s4⟩
   go_simp
   with_reducible rfl
  rotate_left
  ·simp only [Act.put, List.setIfInBounds_toArray, List.set_cons_zero, List.set_cons_succ, i64_w, i32_w]
   rfl
  refine one_ (i := 14) (N := none) #[true, true, true, true, true, true, true, true, true, true, true, true, true, true, true, false, false, false, false, false] rfl rfl (one_of HT_.out (by kernel_rfl)) (by decide) (fun K hK => ?_)
  have hs115 : w114.cell? ⟨gb102, 1, none⟩ = some (.int .i64 0) := (blk_cell BK102.out 1).trans rfl
  have hfs115 := blk_frozen BK102.out 1
  have hns115_0 := NB101_102.out
  have hms115_0 := NB102_101.out
  refine skip_ (w1 := ?_) (by rfl) rfl ?_ ?_
  rotate_left
  ·go_simp
   rfl
  refine hK.out _ _ ⟨((cell_far (p := ⟨gb102, _, none⟩) NB101_102.out _).trans (hHeld.1)), ((cell_far (p := ⟨gb102, _, none⟩) NB101_102.out _).trans (hHeld.2.1)), ((cell_far (p := ⟨gb102, _, none⟩) NB101_102.out _).trans (hHeld.2.2.1)), ((cell_far (p := ⟨gb102, _, none⟩) NB101_102.out _).trans (hHeld.2.2.2.1)), ((cell_far (p := ⟨gb102, _, none⟩) NB101_102.out _).trans (hHeld.2.2.2.2))⟩ (fun hHeld => ?_)
  clear hK K
  refine pure_ (i := 15) (N := some 62) (v := ?_) (a' := ?_) #[true, true, true, true, true, true, true, true, true, true, true, true, true, true, true, true, false, false, false, false] rfl rfl (any_of HT_.out (by kernel_rfl)) (fun _ _ _ h => h) (Or.inl ⟨by rfl, ?_⟩) ?_ ?_
  rotate_left
  ·intro w'
   go_simp
   with_reducible rfl
  rotate_left
  ·simp only [Act.put, List.setIfInBounds_toArray, List.set_cons_zero, List.set_cons_succ, i64_w, i32_w]
   rfl
  refine one_ (i := 16) (N := none) #[true, true, true, true, true, true, true, true, true, true, true, true, true, true, true, true, true, false, false, false] rfl rfl (one_of HT_.out (by kernel_rfl)) (by decide) (fun K hK => ?_)
  have hs116 : w114.cell? ⟨gb102, 2, none⟩ = some (.int .i64 0) := (blk_cell BK102.out 2).trans rfl
  have hfs116 := blk_frozen BK102.out 2
  have hns116_0 := NB101_102.out
  have hms116_0 := NB102_101.out
  refine skip_ (w1 := ?_) (by rfl) rfl ?_ ?_
  rotate_left
  ·go_simp
   rfl
  refine hK.out _ _ ⟨((cell_far (p := ⟨gb102, _, none⟩) NB101_102.out _).trans (hHeld.1)), ((cell_far (p := ⟨gb102, _, none⟩) NB101_102.out _).trans (hHeld.2.1)), ((cell_far (p := ⟨gb102, _, none⟩) NB101_102.out _).trans (hHeld.2.2.1)), ((cell_far (p := ⟨gb102, _, none⟩) NB101_102.out _).trans (hHeld.2.2.2.1)), ((cell_far (p := ⟨gb102, _, none⟩) NB101_102.out _).trans (hHeld.2.2.2.2))⟩ (fun hHeld => ?_)
  clear hK K
  refine pure_ (i := 17) (N := some 63) (v := ?_) (a' := ?_) #[true, true, true, true, true, true, true, true, true, true, true, true, true, true, true, true, true, true, false, false] rfl rfl (any_of HT_.out (by kernel_rfl)) (fun _ _ _ h => h) (Or.inl ⟨by rfl, ?_⟩) ?_ ?_
  rotate_left
  ·intro w'
   go_simp
   with_reducible rfl
  rotate_left
  ·simp only [Act.put, List.setIfInBounds_toArray, List.set_cons_zero, List.set_cons_succ, i64_w, i32_w]
   rfl
  refine one_ (i := 18) (N := none) #[true, true, true, true, true, true, true, true, true, true, true, true, true, true, true, true, true, true, true, false] rfl rfl (one_of HT_.out (by kernel_rfl)) (by decide) (fun K hK => ?_)
  have hs117 : w114.cell? ⟨gb102, 3, none⟩ = some (.int .i64 0) := (blk_cell BK102.out 3).trans rfl
  have hfs117 := blk_frozen BK102.out 3
  have hns117_0 := NB101_102.out
  have hms117_0 := NB102_101.out
  refine skip_ (w1 := ?_) (by rfl) rfl ?_ ?_
  rotate_left
  ·go_simp
   rfl
  refine hK.out _ _ ⟨((cell_far (p := ⟨gb102, _, none⟩) NB101_102.out _).trans (hHeld.1)), ((cell_far (p := ⟨gb102, _, none⟩) NB101_102.out _).trans (hHeld.2.1)), ((cell_far (p := ⟨gb102, _, none⟩) NB101_102.out _).trans (hHeld.2.2.1)), ((cell_far (p := ⟨gb102, _, none⟩) NB101_102.out _).trans (hHeld.2.2.2.1)), ((cell_far (p := ⟨gb102, _, none⟩) NB101_102.out _).trans (hHeld.2.2.2.2))⟩ (fun hHeld => ?_)
  clear hK K
  refine pure_ (i := 19) (N := some 9) (v := ?_) (a' := ?_) #[true, true, true, true, true, true, true, true, true, true, true, true, true, true, true, true, true, true, true, true] rfl rfl (any_of HT_.out (by kernel_rfl)) (fun _ _ _ h => h) (Or.inl ⟨by rfl, ?_⟩) ?_ ?_
  rotate_left
  ·intro w'
   go_simp
   with_reducible rfl
  rotate_left
  ·simp only [Act.put, List.setIfInBounds_toArray, List.set_cons_zero, List.set_cons_succ, i64_w, i32_w]
   rfl
  refine done_ (done_of HT_.out (by kernel_rfl)) ?_
  try go_wp2
  go_ret
  exact ⟨by first | rfl | (simp [errW_none, errW_some] <;> rfl) | (simp [*, errW_none, errW_some] <;> rfl), by repeat (first | (with_reducible first | exact HB.out | apply below_alloc | apply pw_below_drewN | apply below_drew1 | refine below_set ?_ GE101.out | refine below_set ?_ GE102.out) | exact HB.out)⟩
attribute [local go_sem high] eqA60
/-! ### impl_nodeValid: function 56 -/
open Go.Proofs.Ytappbijjpcaocaa.Walk
set_option maxHeartbeats 8000000 in
set_option maxRecDepth 100000 in
theorem impl_nodeValid.k4 (a0_0 : Int) (a0_1 : Int) (a0_2 : Int) (a0_3 : Int) (a0_4 : Int) (a1 : Int) (r : Bool) (w : World) (t103 t104 t105 : Bool) (A3 : Aside0 (impl_in.f a0_2 0 (wrap64 (a1 - 1)) = some t103)) (A4 : Aside0 (impl_in.f a0_3 0 (wrap64 (a1 - 1)) = some t104)) (A5 : Aside0 (impl_in.f a0_1 1 9 = some t105)) (c6b0 : (a0_0 == 1) = false) (c6b1 : (a0_0 != 1) = true) (c26b0 : (a0_0 == 2) = false) (c26b1 : (a0_0 != 2) = true) (c64b0 : (a0_0 == 3) = false) (c64b1 : (a0_0 != 3) = true) (c118 : a0_0 = 4) (H : (if a0_0 = 4 then (if t105 = true then (if t103 = true then ((impl_in.f a0_4 0 4).bind fun t106 => (if t106 = true then (some (0 == a0_3)) else (some false))) else (some false)) else (some false)) else (some false)) = some r) :
  Calls Try.prog 56 #[.agg #[.int .i64 a0_0, .int .i64 a0_1, .int .i64 a0_2, .int .i64 a0_3, .int .i64 a0_4], .int .i64 a1] w fun e w' => e = .returned (.bool r) ∧ Below w.heap.size w w' := by
 have hu60 := Try.underlying60
 have HB := Aside0.mk (Below.refl w.heap.size w)
 rw [if_pos c118] at H
 have c118b0 : (a0_0 == 4) = true := beq_iff_eq.mpr c118
 have c118b1 : (a0_0 != 4) = false := bne_eq_false_iff_eq.mpr c118
 clear c118
 by_cases c119 : t105 = true
 ·subst c119
  have H1 : (if t103 = true then ((impl_in.f a0_4 0 4).bind fun t106 => (if t106 = true then (some (0 == a0_3)) else (some false))) else (some false)) = some r := by rw [if_pos rfl] at H; exact H
  clear H
  have H := H1
  clear H1
  by_cases c120 : t103 = true
  ·subst c120
   have H1 : ((impl_in.f a0_4 0 4).bind fun t106 => (if t106 = true then (some (0 == a0_3)) else (some false))) = some r := by rw [if_pos rfl] at H; exact H
   clear H
   have H := H1
   clear H1
   replace H := Option.bind_eq_some_iff.mp H
   obtain ⟨t106, A1210, H⟩ := H
   replace H : (if t106 = true then (some (0 == a0_3)) else (some false)) = some r := H
   have A121 := Aside0.mk A1210
   clear A1210
   by_cases c122 : t106 = true
   ·subst c122
    have H1 : (some (0 == a0_3)) = some r := by rw [if_pos rfl] at H; exact H
    clear H
    have H := H1
    clear H1
    obtain rfl := Option.some.inj H
    have Q1 := Lib.hid (fun W => in_q a0_2 0 (wrap64 (a1 - 1)) _ W A3.out)
    have Q2 := Lib.hid (fun W => in_q a0_3 0 (wrap64 (a1 - 1)) _ W A4.out)
    have Q3 := Lib.hid (fun W => in_q a0_1 1 9 _ W A5.out)
    go_enter Try.func56, Try.ntmps56
    go_wp2_with fail
    go_quiet ((go_at_call 49; with_reducible first | exact Calls.quiet_of (Q1.out _) | exact Calls.quiet_of (Q2.out _) | (rw [i64_w]; first | exact Calls.quiet_of (Q1.out _) | exact Calls.quiet_of (Q2.out _))))
    go_wp2_with (go_at_call 49; with_reducible refine (Q3.out _).mono ?_; rintro e w' ⟨rfl, m, rfl⟩)
    generalize hq_ : World.drewN (World.alloc (World.alloc w _) _) _ = w129
    have HB : Aside0 (Below w.heap.size w w129) := ⟨by rw [← hq_]; repeat (first | exact Below.refl _ _ | apply below_alloc | apply pw_below_drewN | refine below_set ?_ (Nat.le_succ _))⟩
    have BK101 : Aside0 (w129.heap[w.heap.size]? = some (.cells #[.int .i64 a0_0, .int .i64 a0_1, .int .i64 a0_2, .int .i64 a0_3, .int .i64 a0_4] 60 (0, 0))) := ⟨by rw [← hq_]; exact blk_drewN (blk_alloc (new_blk _ _) _) _⟩
    have BK102 : Aside0 (w129.heap[w.heap.size + 1]? = some (.cells #[.int .i64 a0_0, .int .i64 0, .int .i64 0, .int .i64 0, .int .i64 0] 60 (0, 0))) := ⟨by rw [← hq_]; exact blk_drewN (by rw [← size_blk w (.cells #[.int .i64 a0_0, .int .i64 a0_1, .int .i64 a0_2, .int .i64 a0_3, .int .i64 a0_4] 60)]; exact new_blk _ _) _⟩
    clear hq_
    have GE101 : Aside0 (w.heap.size ≤ w.heap.size) := ⟨Nat.le_refl _⟩
    have GE102 : Aside0 (w.heap.size ≤ w.heap.size + 1) := ⟨Nat.le_succ _⟩
    have NB101_102 : Aside0 (w.heap.size ≠ w.heap.size + 1) := ⟨by omega⟩
    have NB102_101 : Aside0 (w.heap.size + 1 ≠ w.heap.size) := ⟨by omega⟩
    generalize hgb2 : w.heap.size + 1 = gb102 at BK102 GE102 NB101_102 NB102_101 ⊢
    generalize hgb1 : w.heap.size = gb101 at BK101 NB101_102 NB102_101 ⊢
    replace GE101 : Aside0 (w.heap.size ≤ gb101) := ⟨by omega⟩
    have hcn0_ : w129.cell? ⟨gb101, 0, none⟩ = some (.int .i64 a0_0) := (blk_cell BK101.out 0).trans rfl
    have hfn0_ := blk_frozen BK101.out 0
    have hcn1_ : w129.cell? ⟨gb101, 1, none⟩ = some (.int .i64 a0_1) := (blk_cell BK101.out 1).trans rfl
    have hfn1_ := blk_frozen BK101.out 1
    have hcn2_ : w129.cell? ⟨gb101, 2, none⟩ = some (.int .i64 a0_2) := (blk_cell BK101.out 2).trans rfl
    have hfn2_ := blk_frozen BK101.out 2
    have hcn3_ : w129.cell? ⟨gb101, 3, none⟩ = some (.int .i64 a0_3) := (blk_cell BK101.out 3).trans rfl
    have hfn3_ := blk_frozen BK101.out 3
    have hcn4_ : w129.cell? ⟨gb101, 4, none⟩ = some (.int .i64 a0_4) := (blk_cell BK101.out 4).trans rfl
    have hfn4_ := blk_frozen BK101.out 4
    have n0_ := Aside0.mk (blk_drew BK101.out)
    have n1_ := Aside0.mk (blk_drew BK102.out)
    have n2_ := Aside0.mk (below_drew1 HB.out)
    clear BK101
    clear BK102
    clear HB
    have BK101 := n0_
    have BK102 := n1_
    have HB := n2_
    clear n0_ n1_ n2_
    refine start_ (n := 22) (S := fun w' => w'.cell? ⟨gb101, 0, none⟩ = some (.int .i64 a0_0) ∧ w'.cell? ⟨gb101, 1, none⟩ = some (.int .i64 a0_1) ∧ w'.cell? ⟨gb101, 2, none⟩ = some (.int .i64 a0_2) ∧ w'.cell? ⟨gb101, 3, none⟩ = some (.int .i64 a0_3) ∧ w'.cell? ⟨gb101, 4, none⟩ = some (.int .i64 a0_4)) (ds := []) #[false, false, false, false, false, false, false, false, false, false, false, false, false, false, false, false, false, false, false, false, false, false] (by kernel_rfl) rfl rfl ⟨(blk_cell BK101.out 0).trans rfl, (blk_cell BK101.out 1).trans rfl, (blk_cell BK101.out 2).trans rfl, (blk_cell BK101.out 3).trans rfl, (blk_cell BK101.out 4).trans rfl⟩ (fun hHeld => ?_); refine with_tabW impl_nodeValid.tab13 impl_nodeValid.bits13 (fun HT_ HW_ => ?_)
    generalize w129.drew = w131 at BK101 BK102 HB hHeld ⊢
    refine pure_ (i := 0) (N := some 66) (v := ?_) (a' := ?_) #[true, false, false, false, false, false, false, false, false, false, false, false, false, false, false, false, false, false, false, false, false, false] rfl rfl (any_of HT_.out (by kernel_rfl)) (fun _ _ _ h => h) (Or.inl ⟨by rfl, ?_⟩) ?_ ?_
    rotate_left
    ·intro w'
     go_simp
     with_reducible rfl
    rotate_left
    ·simp only [Act.put, List.setIfInBounds_toArray, List.set_cons_zero, List.set_cons_succ, i64_w, i32_w]
     rfl
    refine pure_ (i := 2) (N := some 68) (v := ?_) (a' := ?_) #[true, false, true, false, false, false, false, false, false, false, false, false, false, false, false, false, false, false, false, false, false, false] rfl rfl (any_of HT_.out (by kernel_rfl)) (fun _ _ _ h => h) (Or.inl ⟨by rfl, ?_⟩) ?_ ?_
    rotate_left
    ·intro w'
     go_simp
     with_reducible rfl
    rotate_left
    ·simp only [Act.put, List.setIfInBounds_toArray, List.set_cons_zero, List.set_cons_succ, i64_w, i32_w]
     rfl
    refine pure_ (i := 4) (N := some 70) (v := ?_) (a' := ?_) #[true, false, true, false, true, false, false, false, false, false, false, false, false, false, false, false, false, false, false, false, false, false] rfl rfl (any_of HT_.out (by kernel_rfl)) (fun _ _ _ h => h) (Or.inl ⟨by rfl, ?_⟩) ?_ ?_
    rotate_left
    ·intro w'
     go_simp
     with_reducible rfl
    rotate_left
    ·simp only [Act.put, List.setIfInBounds_toArray, List.set_cons_zero, List.set_cons_succ, i64_w, i32_w]
     rfl
    refine pure_ (i := 6) (N := some 72) (v := ?_) (a' := ?_) #[true, false, true, false, true, false, true, false, false, false, false, false, false, false, false, false, false, false, false, false, false, false] rfl rfl (any_of HT_.out (by kernel_rfl)) (fun _ _ _ h => h) (Or.inl ⟨by rfl, ?_⟩) ?_ ?_
    rotate_left
    ·intro w'
     go_simp
     with_reducible rfl
    rotate_left
    ·simp only [Act.put, List.setIfInBounds_toArray, List.set_cons_zero, List.set_cons_succ, i64_w, i32_w]
     rfl
    refine pure_ (i := 7) (N := some 73) (v := ?_) (a' := ?_) #[true, false, true, false, true, false, true, true, false, false, false, false, false, false, false, false, false, false, false, false, false, false] rfl rfl (any_of HT_.out (by kernel_rfl)) (fun _ _ _ h => h) (Or.inl ⟨by rfl, ?_⟩) ?_ ?_
    rotate_left
    ·intro w'
     go_simp
     with_reducible rfl
    rotate_left
    ·simp only [Act.put, List.setIfInBounds_toArray, List.set_cons_zero, List.set_cons_succ, i64_w, i32_w]
     rfl
    refine pure_ (i := 8) (N := some 74) (v := ?_) (a' := ?_) #[true, false, true, false, true, false, true, true, true, false, false, false, false, false, false, false, false, false, false, false, false, false] rfl rfl (any_of HT_.out (by kernel_rfl)) (fun _ _ _ h => h) (Or.inl ⟨by rfl, ?_⟩) ?_ ?_
    rotate_left
    ·intro w'
     go_simp
     with_reducible rfl
    rotate_left
    ·simp only [Act.put, List.setIfInBounds_toArray, List.set_cons_zero, List.set_cons_succ, i64_w, i32_w]
     rfl
    refine pure_ (i := 9) (N := some 75) (v := ?_) (a' := ?_) #[true, false, true, false, true, false, true, true, true, true, false, false, false, false, false, false, false, false, false, false, false, false] rfl rfl (any_of HT_.out (by kernel_rfl)) (fun _ _ _ h => h) (Or.inl ⟨by rfl, ?_⟩) ?_ ?_
    rotate_left
    ·intro w'
     go_simp
     with_reducible rfl
    rotate_left
    ·simp only [Act.put, List.setIfInBounds_toArray, List.set_cons_zero, List.set_cons_succ, i64_w, i32_w]
     rfl
    refine pure_ (i := 10) (N := some 76) (v := ?_) (a' := ?_) #[true, false, true, false, true, false, true, true, true, true, true, false, false, false, false, false, false, false, false, false, false, false] rfl rfl (any_of HT_.out (by kernel_rfl)) (fun _ _ _ h => h) (Or.inl ⟨by rfl, ?_⟩) ?_ ?_
    rotate_left
    ·intro w'
     go_simp
     with_reducible rfl
    rotate_left
    ·simp only [Act.put, List.setIfInBounds_toArray, List.set_cons_zero, List.set_cons_succ, i64_w, i32_w]
     rfl
    refine pure_ (i := 11) (N := some 77) (v := ?_) (a' := ?_) #[true, false, true, false, true, false, true, true, true, true, true, true, false, false, false, false, false, false, false, false, false, false] rfl rfl (any_of HT_.out (by kernel_rfl)) (fun _ _ _ h => h) (Or.inl ⟨by rfl, ?_⟩) ?_ ?_
    rotate_left
    ·intro w'
     go_simp
     with_reducible rfl
    rotate_left
    ·simp only [Act.put, List.setIfInBounds_toArray, List.set_cons_zero, List.set_cons_succ, i64_w, i32_w]
     rfl
    refine take_ (i := 1) (N := some 67) (v := ?_) (a' := ?_) #[true, true, true, false, true, false, true, true, true, true, true, true, false, false, false, false, false, false, false, false, false, false] rfl rfl (take_ofW HT_.out HW_.out (by kernel_rfl)) (fun _ _ _ h => h) (Or.inl ⟨by rfl, ?_⟩) hHeld ?_ ?_
    rotate_left
    ·rintro w' ⟨s0, s1, s2, s3, s4⟩
     go_simp
     with_reducible rfl
    rotate_left
    ·simp only [Act.put, List.setIfInBounds_toArray, List.set_cons_zero, List.set_cons_succ, i64_w, i32_w]
     rfl
    refine pure_ (i := 15) (N := some 81) (v := ?_) (a' := ?_) #[true, true, true, false, true, false, true, true, true, true, true, true, false, false, false, true, false, false, false, false, false, false] rfl rfl (any_of HT_.out (by kernel_rfl)) (fun _ _ _ h => h) (Or.inl ⟨by rfl, ?_⟩) ?_ ?_
    rotate_left
    ·intro w'
     go_simp
     with_reducible rfl
    rotate_left
    ·simp only [Act.put, List.setIfInBounds_toArray, List.set_cons_zero, List.set_cons_succ, i64_w, i32_w]
     rfl
    refine take_ (i := 3) (N := some 69) (v := ?_) (a' := ?_) #[true, true, true, true, true, false, true, true, true, true, true, true, false, false, false, true, false, false, false, false, false, false] rfl rfl (take_ofW HT_.out HW_.out (by kernel_rfl)) (fun _ _ _ h => h) (Or.inl ⟨by rfl, ?_⟩) hHeld ?_ ?_
    rotate_left
    ·rintro w' ⟨s0, s1, s2, s3, s4⟩
     go_simp
     with_reducible rfl
    rotate_left
    ·simp only [Act.put, List.setIfInBounds_toArray, List.set_cons_zero, List.set_cons_succ, i64_w, i32_w]
     rfl
    refine take_ (i := 5) (N := some 71) (v := ?_) (a' := ?_) #[true, true, true, true, true, true, true, true, true, true, true, true, false, false, false, true, false, false, false, false, false, false] rfl rfl (take_ofW HT_.out HW_.out (by kernel_rfl)) (fun _ _ _ h => h) (Or.inl ⟨by rfl, ?_⟩) hHeld ?_ ?_
    rotate_left
    ·rintro w' ⟨s0, s1, s2, s3, s4⟩
     go_simp
     with_reducible rfl
    rotate_left
    ·simp only [Act.put, List.setIfInBounds_toArray, List.set_cons_zero, List.set_cons_succ, i64_w, i32_w]
     rfl
    refine take_ (i := 12) (N := some 78) (v := ?_) (a' := ?_) #[true, true, true, true, true, true, true, true, true, true, true, true, true, false, false, true, false, false, false, false, false, false] rfl rfl (take_ofW HT_.out HW_.out (by kernel_rfl)) (fun _ _ _ h => h) (Or.inl ⟨by rfl, ?_⟩) hHeld ?_ ?_
    rotate_left
    ·rintro w' ⟨s0, s1, s2, s3, s4⟩
     go_simp
     with_reducible rfl
    rotate_left
    ·simp only [Act.put, List.setIfInBounds_toArray, List.set_cons_zero, List.set_cons_succ, i64_w, i32_w]
     rfl
    refine one_ (i := 13) (N := some 79) #[true, true, true, true, true, true, true, true, true, true, true, true, true, true, false, true, false, false, false, false, false, false] rfl rfl (one_of HT_.out (by kernel_rfl)) (by decide) (fun K hK => ?_)
    refine goes_ Try.func49 (by kernel_rfl) rfl #[.int .i64 a0_4, .int .i64 0, .int .i64 4] (by rfl) rfl rfl (by (try simp only [List.map_toArray, List.map_cons, List.map_nil]); first | done | rfl | (simp only [List.length_drop, List.length_take]; rfl)) ?_
    with_reducible refine (impl_in.calls a0_4 0 4 true _ A121.out).mono ?_
    rintro e w' ⟨rfl, ⟨nd, rfl⟩⟩
    refine ⟨_, rfl, ?_⟩
    refine hK.out _ _ ⟨(blk_cell BK101.out 0).trans rfl, (blk_cell BK101.out 1).trans rfl, (blk_cell BK101.out 2).trans rfl, (blk_cell BK101.out 3).trans rfl, (blk_cell BK101.out 4).trans rfl⟩ (fun hHeld => ?_)
    clear hK K
    refine norm_ (a' := ?_) ?_ ?_
    rotate_left
    ·show Act.put _ (some 79) _ = _
     simp only [Act.put, List.setIfInBounds_toArray, List.set_cons_zero, List.set_cons_succ, i64_w, i32_w]
     rfl
    refine pure_ (i := 14) (N := some 80) (v := ?_) (a' := ?_) #[true, true, true, true, true, true, true, true, true, true, true, true, true, true, true, true, false, false, false, false, false, false] rfl rfl (any_of HT_.out (by kernel_rfl)) (fun _ _ _ h => h) (Or.inl ⟨by rfl, ?_⟩) ?_ ?_
    rotate_left
    ·intro w'
     go_simp
     with_reducible rfl
    rotate_left
    ·simp only [Act.put, List.setIfInBounds_toArray, List.set_cons_zero, List.set_cons_succ, i64_w, i32_w]
     rfl
    refine one_ (i := 16) (N := none) #[true, true, true, true, true, true, true, true, true, true, true, true, true, true, true, true, true, false, false, false, false, false] rfl rfl (one_of HT_.out (by kernel_rfl)) (by decide) (fun K hK => ?_)
    have hs132 : w131.cell? ⟨gb102, 1, none⟩ = some (.int .i64 0) := (blk_cell BK102.out 1).trans rfl
    have hfs132 := blk_frozen BK102.out 1
    have hns132_0 := NB101_102.out
    have hms132_0 := NB102_101.out
    refine skip_ (w1 := ?_) (by rfl) rfl ?_ ?_
    rotate_left
    ·go_simp
     rfl
    refine hK.out _ _ ⟨((cell_far (p := ⟨gb102, _, none⟩) NB101_102.out _).trans (hHeld.1)), ((cell_far (p := ⟨gb102, _, none⟩) NB101_102.out _).trans (hHeld.2.1)), ((cell_far (p := ⟨gb102, _, none⟩) NB101_102.out _).trans (hHeld.2.2.1)), ((cell_far (p := ⟨gb102, _, none⟩) NB101_102.out _).trans (hHeld.2.2.2.1)), ((cell_far (p := ⟨gb102, _, none⟩) NB101_102.out _).trans (hHeld.2.2.2.2))⟩ (fun hHeld => ?_)
    clear hK K
    refine pure_ (i := 17) (N := some 82) (v := ?_) (a' := ?_) #[true, true, true, true, true, true, true, true, true, true, true, true, true, true, true, true, true, true, false, false, false, false] rfl rfl (any_of HT_.out (by kernel_rfl)) (fun _ _ _ h => h) (Or.inl ⟨by rfl, ?_⟩) ?_ ?_
    rotate_left
    ·intro w'
     go_simp
     with_reducible rfl
    rotate_left
    ·simp only [Act.put, List.setIfInBounds_toArray, List.set_cons_zero, List.set_cons_succ, i64_w, i32_w]
     rfl
    refine one_ (i := 18) (N := none) #[true, true, true, true, true, true, true, true, true, true, true, true, true, true, true, true, true, true, true, false, false, false] rfl rfl (one_of HT_.out (by kernel_rfl)) (by decide) (fun K hK => ?_)
    have hs133 : w131.cell? ⟨gb102, 2, none⟩ = some (.int .i64 0) := (blk_cell BK102.out 2).trans rfl
    have hfs133 := blk_frozen BK102.out 2
    have hns133_0 := NB101_102.out
    have hms133_0 := NB102_101.out
    refine skip_ (w1 := ?_) (by rfl) rfl ?_ ?_
    rotate_left
    ·go_simp
     rfl
    refine hK.out _ _ ⟨((cell_far (p := ⟨gb102, _, none⟩) NB101_102.out _).trans (hHeld.1)), ((cell_far (p := ⟨gb102, _, none⟩) NB101_102.out _).trans (hHeld.2.1)), ((cell_far (p := ⟨gb102, _, none⟩) NB101_102.out _).trans (hHeld.2.2.1)), ((cell_far (p := ⟨gb102, _, none⟩) NB101_102.out _).trans (hHeld.2.2.2.1)), ((cell_far (p := ⟨gb102, _, none⟩) NB101_102.out _).trans (hHeld.2.2.2.2))⟩ (fun hHeld => ?_)
    clear hK K
    refine pure_ (i := 19) (N := some 83) (v := ?_) (a' := ?_) #[true, true, true, true, true, true, true, true, true, true, true, true, true, true, true, true, true, true, true, true, false, false] rfl rfl (any_of HT_.out (by kernel_rfl)) (fun _ _ _ h => h) (Or.inl ⟨by rfl, ?_⟩) ?_ ?_
    rotate_left
    ·intro w'
     go_simp
     with_reducible rfl
    rotate_left
    ·simp only [Act.put, List.setIfInBounds_toArray, List.set_cons_zero, List.set_cons_succ, i64_w, i32_w]
     rfl
    refine one_ (i := 20) (N := none) #[true, true, true, true, true, true, true, true, true, true, true, true, true, true, true, true, true, true, true, true, true, false] rfl rfl (one_of HT_.out (by kernel_rfl)) (by decide) (fun K hK => ?_)
    have hs134 : w131.cell? ⟨gb102, 4, none⟩ = some (.int .i64 0) := (blk_cell BK102.out 4).trans rfl
    have hfs134 := blk_frozen BK102.out 4
    have hns134_0 := NB101_102.out
    have hms134_0 := NB102_101.out
    refine skip_ (w1 := ?_) (by rfl) rfl ?_ ?_
    rotate_left
    ·go_simp
     rfl
    refine hK.out _ _ ⟨((cell_far (p := ⟨gb102, _, none⟩) NB101_102.out _).trans (hHeld.1)), ((cell_far (p := ⟨gb102, _, none⟩) NB101_102.out _).trans (hHeld.2.1)), ((cell_far (p := ⟨gb102, _, none⟩) NB101_102.out _).trans (hHeld.2.2.1)), ((cell_far (p := ⟨gb102, _, none⟩) NB101_102.out _).trans (hHeld.2.2.2.1)), ((cell_far (p := ⟨gb102, _, none⟩) NB101_102.out _).trans (hHeld.2.2.2.2))⟩ (fun hHeld => ?_)
    clear hK K
    refine pure_ (i := 21) (N := some 9) (v := ?_) (a' := ?_) #[true, true, true, true, true, true, true, true, true, true, true, true, true, true, true, true, true, true, true, true, true, true] rfl rfl (any_of HT_.out (by kernel_rfl)) (fun _ _ _ h => h) (Or.inl ⟨by rfl, ?_⟩) ?_ ?_
    rotate_left
    ·intro w'
     go_simp
     with_reducible rfl
    rotate_left
    ·simp only [Act.put, List.setIfInBounds_toArray, List.set_cons_zero, List.set_cons_succ, i64_w, i32_w]
     rfl
    refine done_ (done_of HT_.out (by kernel_rfl)) ?_
    have hcz135_0 : w131.cell? ⟨gb102, 0, none⟩ = some (.int .i64 a0_0) := (blk_cell BK102.out 0).trans rfl
    have hcz135_1 : w131.cell? ⟨gb102, 1, none⟩ = some (.int .i64 0) := (blk_cell BK102.out 1).trans rfl
    have hcz135_2 : w131.cell? ⟨gb102, 2, none⟩ = some (.int .i64 0) := (blk_cell BK102.out 2).trans rfl
    have hcz135_3 : w131.cell? ⟨gb102, 3, none⟩ = some (.int .i64 0) := (blk_cell BK102.out 3).trans rfl
    have hcz135_4 : w131.cell? ⟨gb102, 4, none⟩ = some (.int .i64 0) := (blk_cell BK102.out 4).trans rfl
    have hfz135_0 := blk_frozen BK102.out 0
    have hfz135_1 := blk_frozen BK102.out 1
    have hfz135_2 := blk_frozen BK102.out 2
    have hfz135_3 := blk_frozen BK102.out 3
    have hfz135_4 := blk_frozen BK102.out 4
    have hcz136_0 : w131.cell? ⟨gb101, 0, none⟩ = some (.int .i64 a0_0) := (blk_cell BK101.out 0).trans rfl
    have hcz136_1 : w131.cell? ⟨gb101, 1, none⟩ = some (.int .i64 a0_1) := (blk_cell BK101.out 1).trans rfl
    have hcz136_2 : w131.cell? ⟨gb101, 2, none⟩ = some (.int .i64 a0_2) := (blk_cell BK101.out 2).trans rfl
    have hcz136_3 : w131.cell? ⟨gb101, 3, none⟩ = some (.int .i64 a0_3) := (blk_cell BK101.out 3).trans rfl
    have hcz136_4 : w131.cell? ⟨gb101, 4, none⟩ = some (.int .i64 a0_4) := (blk_cell BK101.out 4).trans rfl
    have hfz136_0 := blk_frozen BK101.out 0
    have hfz136_1 := blk_frozen BK101.out 1
    have hfz136_2 := blk_frozen BK101.out 2
    have hfz136_3 := blk_frozen BK101.out 3
    have hfz136_4 := blk_frozen BK101.out 4
    try go_wp2
    go_ret
    exact ⟨by first | rfl | (simp [errW_none, errW_some] <;> rfl) | (simp [*, errW_none, errW_some] <;> rfl), by repeat (first | (with_reducible first | exact HB.out | apply below_alloc | apply pw_below_drewN | apply below_drew1 | refine below_set ?_ GE101.out | refine below_set ?_ GE102.out) | exact HB.out)⟩
   ·replace c122 := Bool.eq_false_iff.mpr c122
    subst c122
    have H1 : (some false) = some r := by rw [if_neg (show ¬ (false = true) by decide)] at H; exact H
    clear H
    have H := H1
    clear H1
    obtain rfl := Option.some.inj H
    have Q1 := Lib.hid (fun W => in_q a0_2 0 (wrap64 (a1 - 1)) _ W A3.out)
    have Q2 := Lib.hid (fun W => in_q a0_3 0 (wrap64 (a1 - 1)) _ W A4.out)
    have Q3 := Lib.hid (fun W => in_q a0_1 1 9 _ W A5.out)
    go_enter Try.func56, Try.ntmps56
    go_wp2_with fail
    go_quiet ((go_at_call 49; with_reducible first | exact Calls.quiet_of (Q1.out _) | exact Calls.quiet_of (Q2.out _) | (rw [i64_w]; first | exact Calls.quiet_of (Q1.out _) | exact Calls.quiet_of (Q2.out _))))
    go_wp2_with (go_at_call 49; with_reducible refine (Q3.out _).mono ?_; rintro e w' ⟨rfl, m, rfl⟩)
    generalize hq_ : World.drewN (World.alloc (World.alloc w _) _) _ = w143
    have HB : Aside0 (Below w.heap.size w w143) := ⟨by rw [← hq_]; repeat (first | exact Below.refl _ _ | apply below_alloc | apply pw_below_drewN | refine below_set ?_ (Nat.le_succ _))⟩
    have BK101 : Aside0 (w143.heap[w.heap.size]? = some (.cells #[.int .i64 a0_0, .int .i64 a0_1, .int .i64 a0_2, .int .i64 a0_3, .int .i64 a0_4] 60 (0, 0))) := ⟨by rw [← hq_]; exact blk_drewN (blk_alloc (new_blk _ _) _) _⟩
    have BK102 : Aside0 (w143.heap[w.heap.size + 1]? = some (.cells #[.int .i64 a0_0, .int .i64 0, .int .i64 0, .int .i64 0, .int .i64 0] 60 (0, 0))) := ⟨by rw [← hq_]; exact blk_drewN (by rw [← size_blk w (.cells #[.int .i64 a0_0, .int .i64 a0_1, .int .i64 a0_2, .int .i64 a0_3, .int .i64 a0_4] 60)]; exact new_blk _ _) _⟩
    clear hq_
    have GE101 : Aside0 (w.heap.size ≤ w.heap.size) := ⟨Nat.le_refl _⟩
    have GE102 : Aside0 (w.heap.size ≤ w.heap.size + 1) := ⟨Nat.le_succ _⟩
    have NB101_102 : Aside0 (w.heap.size ≠ w.heap.size + 1) := ⟨by omega⟩
    have NB102_101 : Aside0 (w.heap.size + 1 ≠ w.heap.size) := ⟨by omega⟩
    generalize hgb2 : w.heap.size + 1 = gb102 at BK102 GE102 NB101_102 NB102_101 ⊢
    generalize hgb1 : w.heap.size = gb101 at BK101 NB101_102 NB102_101 ⊢
    replace GE101 : Aside0 (w.heap.size ≤ gb101) := ⟨by omega⟩
    have hcn0_ : w143.cell? ⟨gb101, 0, none⟩ = some (.int .i64 a0_0) := (blk_cell BK101.out 0).trans rfl
    have hfn0_ := blk_frozen BK101.out 0
    have hcn1_ : w143.cell? ⟨gb101, 1, none⟩ = some (.int .i64 a0_1) := (blk_cell BK101.out 1).trans rfl
    have hfn1_ := blk_frozen BK101.out 1
    have hcn2_ : w143.cell? ⟨gb101, 2, none⟩ = some (.int .i64 a0_2) := (blk_cell BK101.out 2).trans rfl
    have hfn2_ := blk_frozen BK101.out 2
    have hcn3_ : w143.cell? ⟨gb101, 3, none⟩ = some (.int .i64 a0_3) := (blk_cell BK101.out 3).trans rfl
    have hfn3_ := blk_frozen BK101.out 3
    have hcn4_ : w143.cell? ⟨gb101, 4, none⟩ = some (.int .i64 a0_4) := (blk_cell BK101.out 4).trans rfl
    have hfn4_ := blk_frozen BK101.out 4
    have n0_ := Aside0.mk (blk_drew BK101.out)
    have n1_ := Aside0.mk (blk_drew BK102.out)
    have n2_ := Aside0.mk (below_drew1 HB.out)
    clear BK101
    clear BK102
    clear HB
    have BK101 := n0_
    have BK102 := n1_
    have HB := n2_
    clear n0_ n1_ n2_
    refine start_ (n := 22) (S := fun w' => w'.cell? ⟨gb101, 0, none⟩ = some (.int .i64 a0_0) ∧ w'.cell? ⟨gb101, 1, none⟩ = some (.int .i64 a0_1) ∧ w'.cell? ⟨gb101, 2, none⟩ = some (.int .i64 a0_2) ∧ w'.cell? ⟨gb101, 3, none⟩ = some (.int .i64 a0_3) ∧ w'.cell? ⟨gb101, 4, none⟩ = some (.int .i64 a0_4)) (ds := []) #[false, false, false, false, false, false, false, false, false, false, false, false, false, false, false, false, false, false, false, false, false, false] (by kernel_rfl) rfl rfl ⟨(blk_cell BK101.out 0).trans rfl, (blk_cell BK101.out 1).trans rfl, (blk_cell BK101.out 2).trans rfl, (blk_cell BK101.out 3).trans rfl, (blk_cell BK101.out 4).trans rfl⟩ (fun hHeld => ?_); refine with_tabW impl_nodeValid.tab13 impl_nodeValid.bits13 (fun HT_ HW_ => ?_)
    generalize w143.drew = w145 at BK101 BK102 HB hHeld ⊢
    refine pure_ (i := 0) (N := some 66) (v := ?_) (a' := ?_) #[true, false, false, false, false, false, false, false, false, false, false, false, false, false, false, false, false, false, false, false, false, false] rfl rfl (any_of HT_.out (by kernel_rfl)) (fun _ _ _ h => h) (Or.inl ⟨by rfl, ?_⟩) ?_ ?_
    rotate_left
    ·intro w'
     go_simp
     with_reducible rfl
    rotate_left
    ·simp only [Act.put, List.setIfInBounds_toArray, List.set_cons_zero, List.set_cons_succ, i64_w, i32_w]
     rfl
    refine pure_ (i := 2) (N := some 68) (v := ?_) (a' := ?_) #[true, false, true, false, false, false, false, false, false, false, false, false, false, false, false, false, false, false, false, false, false, false] rfl rfl (any_of HT_.out (by kernel_rfl)) (fun _ _ _ h => h) (Or.inl ⟨by rfl, ?_⟩) ?_ ?_
    rotate_left
    ·intro w'
     go_simp
     with_reducible rfl
    rotate_left
    ·simp only [Act.put, List.setIfInBounds_toArray, List.set_cons_zero, List.set_cons_succ, i64_w, i32_w]
     rfl
    refine pure_ (i := 4) (N := some 70) (v := ?_) (a' := ?_) #[true, false, true, false, true, false, false, false, false, false, false, false, false, false, false, false, false, false, false, false, false, false] rfl rfl (any_of HT_.out (by kernel_rfl)) (fun _ _ _ h => h) (Or.inl ⟨by rfl, ?_⟩) ?_ ?_
    rotate_left
    ·intro w'
     go_simp
     with_reducible rfl
    rotate_left
    ·simp only [Act.put, List.setIfInBounds_toArray, List.set_cons_zero, List.set_cons_succ, i64_w, i32_w]
     rfl
    refine pure_ (i := 6) (N := some 72) (v := ?_) (a' := ?_) #[true, false, true, false, true, false, true, false, false, false, false, false, false, false, false, false, false, false, false, false, false, false] rfl rfl (any_of HT_.out (by kernel_rfl)) (fun _ _ _ h => h) (Or.inl ⟨by rfl, ?_⟩) ?_ ?_
    rotate_left
    ·intro w'
     go_simp
     with_reducible rfl
    rotate_left
    ·simp only [Act.put, List.setIfInBounds_toArray, List.set_cons_zero, List.set_cons_succ, i64_w, i32_w]
     rfl
    refine pure_ (i := 7) (N := some 73) (v := ?_) (a' := ?_) #[true, false, true, false, true, false, true, true, false, false, false, false, false, false, false, false, false, false, false, false, false, false] rfl rfl (any_of HT_.out (by kernel_rfl)) (fun _ _ _ h => h) (Or.inl ⟨by rfl, ?_⟩) ?_ ?_
    rotate_left
    ·intro w'
     go_simp
     with_reducible rfl
    rotate_left
    ·simp only [Act.put, List.setIfInBounds_toArray, List.set_cons_zero, List.set_cons_succ, i64_w, i32_w]
     rfl
    refine pure_ (i := 8) (N := some 74) (v := ?_) (a' := ?_) #[true, false, true, false, true, false, true, true, true, false, false, false, false, false, false, false, false, false, false, false, false, false] rfl rfl (any_of HT_.out (by kernel_rfl)) (fun _ _ _ h => h) (Or.inl ⟨by rfl, ?_⟩) ?_ ?_
    rotate_left
    ·intro w'
     go_simp
     with_reducible rfl
    rotate_left
    ·simp only [Act.put, List.setIfInBounds_toArray, List.set_cons_zero, List.set_cons_succ, i64_w, i32_w]
     rfl
    refine pure_ (i := 9) (N := some 75) (v := ?_) (a' := ?_) #[true, false, true, false, true, false, true, true, true, true, false, false, false, false, false, false, false, false, false, false, false, false] rfl rfl (any_of HT_.out (by kernel_rfl)) (fun _ _ _ h => h) (Or.inl ⟨by rfl, ?_⟩) ?_ ?_
    rotate_left
    ·intro w'
     go_simp
     with_reducible rfl
    rotate_left
    ·simp only [Act.put, List.setIfInBounds_toArray, List.set_cons_zero, List.set_cons_succ, i64_w, i32_w]
     rfl
    refine pure_ (i := 10) (N := some 76) (v := ?_) (a' := ?_) #[true, false, true, false, true, false, true, true, true, true, true, false, false, false, false, false, false, false, false, false, false, false] rfl rfl (any_of HT_.out (by kernel_rfl)) (fun _ _ _ h => h) (Or.inl ⟨by rfl, ?_⟩) ?_ ?_
    rotate_left
    ·intro w'
     go_simp
     with_reducible rfl
    rotate_left
    ·simp only [Act.put, List.setIfInBounds_toArray, List.set_cons_zero, List.set_cons_succ, i64_w, i32_w]
     rfl
    refine pure_ (i := 11) (N := some 77) (v := ?_) (a' := ?_) #[true, false, true, false, true, false, true, true, true, true, true, true, false, false, false, false, false, false, false, false, false, false] rfl rfl (any_of HT_.out (by kernel_rfl)) (fun _ _ _ h => h) (Or.inl ⟨by rfl, ?_⟩) ?_ ?_
    rotate_left
    ·intro w'
     go_simp
     with_reducible rfl
    rotate_left
    ·simp only [Act.put, List.setIfInBounds_toArray, List.set_cons_zero, List.set_cons_succ, i64_w, i32_w]
     rfl
    refine take_ (i := 1) (N := some 67) (v := ?_) (a' := ?_) #[true, true, true, false, true, false, true, true, true, true, true, true, false, false, false, false, false, false, false, false, false, false] rfl rfl (take_ofW HT_.out HW_.out (by kernel_rfl)) (fun _ _ _ h => h) (Or.inl ⟨by rfl, ?_⟩) hHeld ?_ ?_
    rotate_left
    ·rintro w' ⟨s0, s1, s2, s3, s4⟩
     go_simp
     with_reducible rfl
    rotate_left
    ·simp only [Act.put, List.setIfInBounds_toArray, List.set_cons_zero, List.set_cons_succ, i64_w, i32_w]
     rfl
    refine pure_ (i := 15) (N := some 81) (v := ?_) (a' := ?_) #[true, true, true, false, true, false, true, true, true, true, true, true, false, false, false, true, false, false, false, false, false, false] rfl rfl (any_of HT_.out (by kernel_rfl)) (fun _ _ _ h => h) (Or.inl ⟨by rfl, ?_⟩) ?_ ?_
    rotate_left
    ·intro w'
     go_simp
     with_reducible rfl
    rotate_left
    ·simp only [Act.put, List.setIfInBounds_toArray, List.set_cons_zero, List.set_cons_succ, i64_w, i32_w]
     rfl
    refine take_ (i := 3) (N := some 69) (v := ?_) (a' := ?_) #[true, true, true, true, true, false, true, true, true, true, true, true, false, false, false, true, false, false, false, false, false, false] rfl rfl (take_ofW HT_.out HW_.out (by kernel_rfl)) (fun _ _ _ h => h) (Or.inl ⟨by rfl, ?_⟩) hHeld ?_ ?_
    rotate_left
    ·rintro w' ⟨s0, s1, s2, s3, s4⟩
     go_simp
     with_reducible rfl
    rotate_left
    ·simp only [Act.put, List.setIfInBounds_toArray, List.set_cons_zero, List.set_cons_succ, i64_w, i32_w]
     rfl
    refine take_ (i := 5) (N := some 71) (v := ?_) (a' := ?_) #[true, true, true, true, true, true, true, true, true, true, true, true, false, false, false, true, false, false, false, false, false, false] rfl rfl (take_ofW HT_.out HW_.out (by kernel_rfl)) (fun _ _ _ h => h) (Or.inl ⟨by rfl, ?_⟩) hHeld ?_ ?_
    rotate_left
    ·rintro w' ⟨s0, s1, s2, s3, s4⟩
     go_simp
     with_reducible rfl
    rotate_left
    ·simp only [Act.put, List.setIfInBounds_toArray, List.set_cons_zero, List.set_cons_succ, i64_w, i32_w]
     rfl
    refine take_ (i := 12) (N := some 78) (v := ?_) (a' := ?_) #[true, true, true, true, true, true, true, true, true, true, true, true, true, false, false, true, false, false, false, false, false, false] rfl rfl (take_ofW HT_.out HW_.out (by kernel_rfl)) (fun _ _ _ h => h) (Or.inl ⟨by rfl, ?_⟩) hHeld ?_ ?_
    rotate_left
    ·rintro w' ⟨s0, s1, s2, s3, s4⟩
     go_simp
     with_reducible rfl
    rotate_left
    ·simp only [Act.put, List.setIfInBounds_toArray, List.set_cons_zero, List.set_cons_succ, i64_w, i32_w]
     rfl
    refine one_ (i := 13) (N := some 79) #[true, true, true, true, true, true, true, true, true, true, true, true, true, true, false, true, false, false, false, false, false, false] rfl rfl (one_of HT_.out (by kernel_rfl)) (by decide) (fun K hK => ?_)
    refine goes_ Try.func49 (by kernel_rfl) rfl #[.int .i64 a0_4, .int .i64 0, .int .i64 4] (by rfl) rfl rfl (by (try simp only [List.map_toArray, List.map_cons, List.map_nil]); first | done | rfl | (simp only [List.length_drop, List.length_take]; rfl)) ?_
    with_reducible refine (impl_in.calls a0_4 0 4 false _ A121.out).mono ?_
    rintro e w' ⟨rfl, ⟨nd, rfl⟩⟩
    refine ⟨_, rfl, ?_⟩
    refine hK.out _ _ ⟨(blk_cell BK101.out 0).trans rfl, (blk_cell BK101.out 1).trans rfl, (blk_cell BK101.out 2).trans rfl, (blk_cell BK101.out 3).trans rfl, (blk_cell BK101.out 4).trans rfl⟩ (fun hHeld => ?_)
    clear hK K
    refine norm_ (a' := ?_) ?_ ?_
    rotate_left
    ·show Act.put _ (some 79) _ = _
     simp only [Act.put, List.setIfInBounds_toArray, List.set_cons_zero, List.set_cons_succ, i64_w, i32_w]
     rfl
    refine pure_ (i := 14) (N := some 80) (v := ?_) (a' := ?_) #[true, true, true, true, true, true, true, true, true, true, true, true, true, true, true, true, false, false, false, false, false, false] rfl rfl (any_of HT_.out (by kernel_rfl)) (fun _ _ _ h => h) (Or.inl ⟨by rfl, ?_⟩) ?_ ?_
    rotate_left
    ·intro w'
     go_simp
     with_reducible rfl
    rotate_left
    ·simp only [Act.put, List.setIfInBounds_toArray, List.set_cons_zero, List.set_cons_succ, i64_w, i32_w]
     rfl
    refine one_ (i := 16) (N := none) #[true, true, true, true, true, true, true, true, true, true, true, true, true, true, true, true, true, false, false, false, false, false] rfl rfl (one_of HT_.out (by kernel_rfl)) (by decide) (fun K hK => ?_)
    have hs146 : w145.cell? ⟨gb102, 1, none⟩ = some (.int .i64 0) := (blk_cell BK102.out 1).trans rfl
    have hfs146 := blk_frozen BK102.out 1
    have hns146_0 := NB101_102.out
    have hms146_0 := NB102_101.out
    refine skip_ (w1 := ?_) (by rfl) rfl ?_ ?_
    rotate_left
    ·go_simp
     rfl
    refine hK.out _ _ ⟨((cell_far (p := ⟨gb102, _, none⟩) NB101_102.out _).trans (hHeld.1)), ((cell_far (p := ⟨gb102, _, none⟩) NB101_102.out _).trans (hHeld.2.1)), ((cell_far (p := ⟨gb102, _, none⟩) NB101_102.out _).trans (hHeld.2.2.1)), ((cell_far (p := ⟨gb102, _, none⟩) NB101_102.out _).trans (hHeld.2.2.2.1)), ((cell_far (p := ⟨gb102, _, none⟩) NB101_102.out _).trans (hHeld.2.2.2.2))⟩ (fun hHeld => ?_)
    clear hK K
    refine pure_ (i := 17) (N := some 82) (v := ?_) (a' := ?_) #[true, true, true, true, true, true, true, true, true, true, true, true, true, true, true, true, true, true, false, false, false, false] rfl rfl (any_of HT_.out (by kernel_rfl)) (fun _ _ _ h => h) (Or.inl ⟨by rfl, ?_⟩) ?_ ?_
    rotate_left
    ·intro w'
     go_simp
     with_reducible rfl
    rotate_left
    ·simp only [Act.put, List.setIfInBounds_toArray, List.set_cons_zero, List.set_cons_succ, i64_w, i32_w]
     rfl
    refine one_ (i := 18) (N := none) #[true, true, true, true, true, true, true, true, true, true, true, true, true, true, true, true, true, true, true, false, false, false] rfl rfl (one_of HT_.out (by kernel_rfl)) (by decide) (fun K hK => ?_)
    have hs147 : w145.cell? ⟨gb102, 2, none⟩ = some (.int .i64 0) := (blk_cell BK102.out 2).trans rfl
    have hfs147 := blk_frozen BK102.out 2
    have hns147_0 := NB101_102.out
    have hms147_0 := NB102_101.out
    refine skip_ (w1 := ?_) (by rfl) rfl ?_ ?_
    rotate_left
    ·go_simp
     rfl
    refine hK.out _ _ ⟨((cell_far (p := ⟨gb102, _, none⟩) NB101_102.out _).trans (hHeld.1)), ((cell_far (p := ⟨gb102, _, none⟩) NB101_102.out _).trans (hHeld.2.1)), ((cell_far (p := ⟨gb102, _, none⟩) NB101_102.out _).trans (hHeld.2.2.1)), ((cell_far (p := ⟨gb102, _, none⟩) NB101_102.out _).trans (hHeld.2.2.2.1)), ((cell_far (p := ⟨gb102, _, none⟩) NB101_102.out _).trans (hHeld.2.2.2.2))⟩ (fun hHeld => ?_)
    clear hK K
    refine pure_ (i := 19) (N := some 83) (v := ?_) (a' := ?_) #[true, true, true, true, true, true, true, true, true, true, true, true, true, true, true, true, true, true, true, true, false, false] rfl rfl (any_of HT_.out (by kernel_rfl)) (fun _ _ _ h => h) (Or.inl ⟨by rfl, ?_⟩) ?_ ?_
    rotate_left
    ·intro w'
     go_simp
     with_reducible rfl
    rotate_left
    ·simp only [Act.put, List.setIfInBounds_toArray, List.set_cons_zero, List.set_cons_succ, i64_w, i32_w]
     rfl
    refine one_ (i := 20) (N := none) #[true, true, true, true, true, true, true, true, true, true, true, true, true, true, true, true, true, true, true, true, true, false] rfl rfl (one_of HT_.out (by kernel_rfl)) (by decide) (fun K hK => ?_)
    have hs148 : w145.cell? ⟨gb102, 4, none⟩ = some (.int .i64 0) := (blk_cell BK102.out 4).trans rfl
    have hfs148 := blk_frozen BK102.out 4
    have hns148_0 := NB101_102.out
    have hms148_0 := NB102_101.out
    refine skip_ (w1 := ?_) (by rfl) rfl ?_ ?_
    rotate_left
    ·go_simp
     rfl
    refine hK.out _ _ ⟨((cell_far (p := ⟨gb102, _, none⟩) NB101_102.out _).trans (hHeld.1)), ((cell_far (p := ⟨gb102, _, none⟩) NB101_102.out _).trans (hHeld.2.1)), ((cell_far (p := ⟨gb102, _, none⟩) NB101_102.out _).trans (hHeld.2.2.1)), ((cell_far (p := ⟨gb102, _, none⟩) NB101_102.out _).trans (hHeld.2.2.2.1)), ((cell_far (p := ⟨gb102, _, none⟩) NB101_102.out _).trans (hHeld.2.2.2.2))⟩ (fun hHeld => ?_)
    clear hK K
    refine pure_ (i := 21) (N := some 9) (v := ?_) (a' := ?_) #[true, true, true, true, true, true, true, true, true, true, true, true, true, true, true, true, true, true, true, true, true, true] rfl rfl (any_of HT_.out (by kernel_rfl)) (fun _ _ _ h => h) (Or.inl ⟨by rfl, ?_⟩) ?_ ?_
    rotate_left
    ·intro w'
     go_simp
     with_reducible rfl
    rotate_left
    ·simp only [Act.put, List.setIfInBounds_toArray, List.set_cons_zero, List.set_cons_succ, i64_w, i32_w]
     rfl
    refine done_ (done_of HT_.out (by kernel_rfl)) ?_
    try go_wp2
    go_ret
    exact ⟨by first | rfl | (simp [errW_none, errW_some] <;> rfl) | (simp [*, errW_none, errW_some] <;> rfl), by repeat (first | (with_reducible first | exact HB.out | apply below_alloc | apply pw_below_drewN | apply below_drew1 | refine below_set ?_ GE101.out | refine below_set ?_ GE102.out) | exact HB.out)⟩
  ·replace c120 := Bool.eq_false_iff.mpr c120
   subst c120
   have H1 : (some false) = some r := by rw [if_neg (show ¬ (false = true) by decide)] at H; exact H
   clear H
   have H := H1
   clear H1
   obtain rfl := Option.some.inj H
   have Q1 := Lib.hid (fun W => in_q a0_2 0 (wrap64 (a1 - 1)) _ W A3.out)
   have Q2 := Lib.hid (fun W => in_q a0_3 0 (wrap64 (a1 - 1)) _ W A4.out)
   have Q3 := Lib.hid (fun W => in_q a0_1 1 9 _ W A5.out)
   go_enter Try.func56, Try.ntmps56
   go_wp2_with fail
   go_quiet ((go_at_call 49; with_reducible first | exact Calls.quiet_of (Q1.out _) | exact Calls.quiet_of (Q2.out _) | (rw [i64_w]; first | exact Calls.quiet_of (Q1.out _) | exact Calls.quiet_of (Q2.out _))))
   go_wp2_with (go_at_call 49; with_reducible refine (Q3.out _).mono ?_; rintro e w' ⟨rfl, m, rfl⟩)
   generalize hq_ : World.drewN (World.alloc (World.alloc w _) _) _ = w155
   have HB : Aside0 (Below w.heap.size w w155) := ⟨by rw [← hq_]; repeat (first | exact Below.refl _ _ | apply below_alloc | apply pw_below_drewN | refine below_set ?_ (Nat.le_succ _))⟩
   have BK101 : Aside0 (w155.heap[w.heap.size]? = some (.cells #[.int .i64 a0_0, .int .i64 a0_1, .int .i64 a0_2, .int .i64 a0_3, .int .i64 a0_4] 60 (0, 0))) := ⟨by rw [← hq_]; exact blk_drewN (blk_alloc (new_blk _ _) _) _⟩
   have BK102 : Aside0 (w155.heap[w.heap.size + 1]? = some (.cells #[.int .i64 a0_0, .int .i64 0, .int .i64 0, .int .i64 0, .int .i64 0] 60 (0, 0))) := ⟨by rw [← hq_]; exact blk_drewN (by rw [← size_blk w (.cells #[.int .i64 a0_0, .int .i64 a0_1, .int .i64 a0_2, .int .i64 a0_3, .int .i64 a0_4] 60)]; exact new_blk _ _) _⟩
   clear hq_
   have GE101 : Aside0 (w.heap.size ≤ w.heap.size) := ⟨Nat.le_refl _⟩
   have GE102 : Aside0 (w.heap.size ≤ w.heap.size + 1) := ⟨Nat.le_succ _⟩
   have NB101_102 : Aside0 (w.heap.size ≠ w.heap.size + 1) := ⟨by omega⟩
   have NB102_101 : Aside0 (w.heap.size + 1 ≠ w.heap.size) := ⟨by omega⟩
   generalize hgb2 : w.heap.size + 1 = gb102 at BK102 GE102 NB101_102 NB102_101 ⊢
   generalize hgb1 : w.heap.size = gb101 at BK101 NB101_102 NB102_101 ⊢
   replace GE101 : Aside0 (w.heap.size ≤ gb101) := ⟨by omega⟩
   have hcn0_ : w155.cell? ⟨gb101, 0, none⟩ = some (.int .i64 a0_0) := (blk_cell BK101.out 0).trans rfl
   have hfn0_ := blk_frozen BK101.out 0
   have hcn1_ : w155.cell? ⟨gb101, 1, none⟩ = some (.int .i64 a0_1) := (blk_cell BK101.out 1).trans rfl
   have hfn1_ := blk_frozen BK101.out 1
   have hcn2_ : w155.cell? ⟨gb101, 2, none⟩ = some (.int .i64 a0_2) := (blk_cell BK101.out 2).trans rfl
   have hfn2_ := blk_frozen BK101.out 2
   have hcn3_ : w155.cell? ⟨gb101, 3, none⟩ = some (.int .i64 a0_3) := (blk_cell BK101.out 3).trans rfl
   have hfn3_ := blk_frozen BK101.out 3
   have hcn4_ : w155.cell? ⟨gb101, 4, none⟩ = some (.int .i64 a0_4) := (blk_cell BK101.out 4).trans rfl
   have hfn4_ := blk_frozen BK101.out 4
   have n0_ := Aside0.mk (blk_drew BK101.out)
   have n1_ := Aside0.mk (blk_drew BK102.out)
   have n2_ := Aside0.mk (below_drew1 HB.out)
   clear BK101
   clear BK102
   clear HB
   have BK101 := n0_
   have BK102 := n1_
   have HB := n2_
   clear n0_ n1_ n2_
   refine start_ (n := 22) (S := fun w' => w'.cell? ⟨gb101, 0, none⟩ = some (.int .i64 a0_0) ∧ w'.cell? ⟨gb101, 1, none⟩ = some (.int .i64 a0_1) ∧ w'.cell? ⟨gb101, 2, none⟩ = some (.int .i64 a0_2) ∧ w'.cell? ⟨gb101, 3, none⟩ = some (.int .i64 a0_3) ∧ w'.cell? ⟨gb101, 4, none⟩ = some (.int .i64 a0_4)) (ds := []) #[false, false, false, false, false, false, false, false, false, false, false, false, false, false, false, false, false, false, false, false, false, false] (by kernel_rfl) rfl rfl ⟨(blk_cell BK101.out 0).trans rfl, (blk_cell BK101.out 1).trans rfl, (blk_cell BK101.out 2).trans rfl, (blk_cell BK101.out 3).trans rfl, (blk_cell BK101.out 4).trans rfl⟩ (fun hHeld => ?_); refine with_tabW impl_nodeValid.tab13 impl_nodeValid.bits13 (fun HT_ HW_ => ?_)
   generalize w155.drew = w157 at BK101 BK102 HB hHeld ⊢
   refine pure_ (i := 0) (N := some 66) (v := ?_) (a' := ?_) #[true, false, false, false, false, false, false, false, false, false, false, false, false, false, false, false, false, false, false, false, false, false] rfl rfl (any_of HT_.out (by kernel_rfl)) (fun _ _ _ h => h) (Or.inl ⟨by rfl, ?_⟩) ?_ ?_
   rotate_left
   ·intro w'
    go_simp
    with_reducible rfl
   rotate_left
   ·simp only [Act.put, List.setIfInBounds_toArray, List.set_cons_zero, List.set_cons_succ, i64_w, i32_w]
    rfl
   refine pure_ (i := 2) (N := some 68) (v := ?_) (a' := ?_) #[true, false, true, false, false, false, false, false, false, false, false, false, false, false, false, false, false, false, false, false, false, false] rfl rfl (any_of HT_.out (by kernel_rfl)) (fun _ _ _ h => h) (Or.inl ⟨by rfl, ?_⟩) ?_ ?_
   rotate_left
   ·intro w'
    go_simp
    with_reducible rfl
   rotate_left
   ·simp only [Act.put, List.setIfInBounds_toArray, List.set_cons_zero, List.set_cons_succ, i64_w, i32_w]
    rfl
   refine pure_ (i := 4) (N := some 70) (v := ?_) (a' := ?_) #[true, false, true, false, true, false, false, false, false, false, false, false, false, false, false, false, false, false, false, false, false, false] rfl rfl (any_of HT_.out (by kernel_rfl)) (fun _ _ _ h => h) (Or.inl ⟨by rfl, ?_⟩) ?_ ?_
   rotate_left
   ·intro w'
    go_simp
    with_reducible rfl
   rotate_left
   ·simp only [Act.put, List.setIfInBounds_toArray, List.set_cons_zero, List.set_cons_succ, i64_w, i32_w]
    rfl
   refine pure_ (i := 6) (N := some 72) (v := ?_) (a' := ?_) #[true, false, true, false, true, false, true, false, false, false, false, false, false, false, false, false, false, false, false, false, false, false] rfl rfl (any_of HT_.out (by kernel_rfl)) (fun _ _ _ h => h) (Or.inl ⟨by rfl, ?_⟩) ?_ ?_
   rotate_left
   ·intro w'
    go_simp
    with_reducible rfl
   rotate_left
   ·simp only [Act.put, List.setIfInBounds_toArray, List.set_cons_zero, List.set_cons_succ, i64_w, i32_w]
    rfl
   refine pure_ (i := 7) (N := some 73) (v := ?_) (a' := ?_) #[true, false, true, false, true, false, true, true, false, false, false, false, false, false, false, false, false, false, false, false, false, false] rfl rfl (any_of HT_.out (by kernel_rfl)) (fun _ _ _ h => h) (Or.inl ⟨by rfl, ?_⟩) ?_ ?_
   rotate_left
   ·intro w'
    go_simp
    with_reducible rfl
   rotate_left
   ·simp only [Act.put, List.setIfInBounds_toArray, List.set_cons_zero, List.set_cons_succ, i64_w, i32_w]
    rfl
   refine pure_ (i := 8) (N := some 74) (v := ?_) (a' := ?_) #[true, false, true, false, true, false, true, true, true, false, false, false, false, false, false, false, false, false, false, false, false, false] rfl rfl (any_of HT_.out (by kernel_rfl)) (fun _ _ _ h => h) (Or.inl ⟨by rfl, ?_⟩) ?_ ?_
   rotate_left
   ·intro w'
    go_simp
    with_reducible rfl
   rotate_left
   ·simp only [Act.put, List.setIfInBounds_toArray, List.set_cons_zero, List.set_cons_succ, i64_w, i32_w]
    rfl
   refine pure_ (i := 9) (N := some 75) (v := ?_) (a' := ?_) #[true, false, true, false, true, false, true, true, true, true, false, false, false, false, false, false, false, false, false, false, false, false] rfl rfl (any_of HT_.out (by kernel_rfl)) (fun _ _ _ h => h) (Or.inl ⟨by rfl, ?_⟩) ?_ ?_
   rotate_left
   ·intro w'
    go_simp
    with_reducible rfl
   rotate_left
   ·simp only [Act.put, List.setIfInBounds_toArray, List.set_cons_zero, List.set_cons_succ, i64_w, i32_w]
    rfl
   refine pure_ (i := 10) (N := some 76) (v := ?_) (a' := ?_) #[true, false, true, false, true, false, true, true, true, true, true, false, false, false, false, false, false, false, false, false, false, false] rfl rfl (any_of HT_.out (by kernel_rfl)) (fun _ _ _ h => h) (Or.inl ⟨by rfl, ?_⟩) ?_ ?_
   rotate_left
   ·intro w'
    go_simp
    with_reducible rfl
   rotate_left
   ·simp only [Act.put, List.setIfInBounds_toArray, List.set_cons_zero, List.set_cons_succ, i64_w, i32_w]
    rfl
   refine pure_ (i := 11) (N := some 77) (v := undef) (a' := ?_) #[true, false, true, false, true, false, true, true, true, true, true, true, false, false, false, false, false, false, false, false, false, false] rfl rfl (any_of HT_.out (by kernel_rfl)) (fun _ _ _ h => h) (Or.inr ⟨by rfl, rfl⟩) ?_ ?_
   rotate_left
   ·simp only [Act.put, List.setIfInBounds_toArray, List.set_cons_zero, List.set_cons_succ, i64_w, i32_w]
    rfl
   refine pure_ (i := 12) (N := some 78) (v := undef) (a' := ?_) #[true, false, true, false, true, false, true, true, true, true, true, true, true, false, false, false, false, false, false, false, false, false] rfl rfl (any_of HT_.out (by kernel_rfl)) (fun _ _ _ h => h) (Or.inr ⟨by rfl, rfl⟩) ?_ ?_
   rotate_left
   ·simp only [Act.put, List.setIfInBounds_toArray, List.set_cons_zero, List.set_cons_succ, i64_w, i32_w]
    rfl
   refine pure_ (i := 13) (N := some 79) (v := undef) (a' := ?_) #[true, false, true, false, true, false, true, true, true, true, true, true, true, true, false, false, false, false, false, false, false, false] rfl rfl (any_of HT_.out (by kernel_rfl)) (fun _ _ _ h => h) (Or.inr ⟨by rfl, rfl⟩) ?_ ?_
   rotate_left
   ·simp only [Act.put, List.setIfInBounds_toArray, List.set_cons_zero, List.set_cons_succ, i64_w, i32_w]
    rfl
   refine pure_ (i := 14) (N := some 80) (v := ?_) (a' := ?_) #[true, false, true, false, true, false, true, true, true, true, true, true, true, true, true, false, false, false, false, false, false, false] rfl rfl (any_of HT_.out (by kernel_rfl)) (fun _ _ _ h => h) (Or.inl ⟨by rfl, ?_⟩) ?_ ?_
   rotate_left
   ·intro w'
    go_simp
    with_reducible rfl
   rotate_left
   ·simp only [Act.put, List.setIfInBounds_toArray, List.set_cons_zero, List.set_cons_succ, i64_w, i32_w]
    rfl
   refine take_ (i := 1) (N := some 67) (v := ?_) (a' := ?_) #[true, true, true, false, true, false, true, true, true, true, true, true, true, true, true, false, false, false, false, false, false, false] rfl rfl (take_ofW HT_.out HW_.out (by kernel_rfl)) (fun _ _ _ h => h) (Or.inl ⟨by rfl, ?_⟩) hHeld ?_ ?_
   rotate_left
   ·rintro w' ⟨s0, s1, s2, s3, s4⟩
    go_simp
    with_reducible rfl
   rotate_left
   ·simp only [Act.put, List.setIfInBounds_toArray, List.set_cons_zero, List.set_cons_succ, i64_w, i32_w]
    rfl
   refine pure_ (i := 15) (N := some 81) (v := ?_) (a' := ?_) #[true, true, true, false, true, false, true, true, true, true, true, true, true, true, true, true, false, false, false, false, false, false] rfl rfl (any_of HT_.out (by kernel_rfl)) (fun _ _ _ h => h) (Or.inl ⟨by rfl, ?_⟩) ?_ ?_
   rotate_left
   ·intro w'
    go_simp
    with_reducible rfl
   rotate_left
   ·simp only [Act.put, List.setIfInBounds_toArray, List.set_cons_zero, List.set_cons_succ, i64_w, i32_w]
    rfl
   refine take_ (i := 3) (N := some 69) (v := ?_) (a' := ?_) #[true, true, true, true, true, false, true, true, true, true, true, true, true, true, true, true, false, false, false, false, false, false] rfl rfl (take_ofW HT_.out HW_.out (by kernel_rfl)) (fun _ _ _ h => h) (Or.inl ⟨by rfl, ?_⟩) hHeld ?_ ?_
   rotate_left
   ·rintro w' ⟨s0, s1, s2, s3, s4⟩
    go_simp
    with_reducible rfl
   rotate_left
   ·simp only [Act.put, List.setIfInBounds_toArray, List.set_cons_zero, List.set_cons_succ, i64_w, i32_w]
    rfl
   refine take_ (i := 5) (N := some 71) (v := ?_) (a' := ?_) #[true, true, true, true, true, true, true, true, true, true, true, true, true, true, true, true, false, false, false, false, false, false] rfl rfl (take_ofW HT_.out HW_.out (by kernel_rfl)) (fun _ _ _ h => h) (Or.inl ⟨by rfl, ?_⟩) hHeld ?_ ?_
   rotate_left
   ·rintro w' ⟨s0, s1, s2, s3, s4⟩
    go_simp
    with_reducible rfl
   rotate_left
   ·simp only [Act.put, List.setIfInBounds_toArray, List.set_cons_zero, List.set_cons_succ, i64_w, i32_w]
    rfl
   refine one_ (i := 16) (N := none) #[true, true, true, true, true, true, true, true, true, true, true, true, true, true, true, true, true, false, false, false, false, false] rfl rfl (one_of HT_.out (by kernel_rfl)) (by decide) (fun K hK => ?_)
   have hs158 : w157.cell? ⟨gb102, 1, none⟩ = some (.int .i64 0) := (blk_cell BK102.out 1).trans rfl
   have hfs158 := blk_frozen BK102.out 1
   have hns158_0 := NB101_102.out
   have hms158_0 := NB102_101.out
   refine skip_ (w1 := ?_) (by rfl) rfl ?_ ?_
   rotate_left
   ·go_simp
    rfl
   refine hK.out _ _ ⟨((cell_far (p := ⟨gb102, _, none⟩) NB101_102.out _).trans (hHeld.1)), ((cell_far (p := ⟨gb102, _, none⟩) NB101_102.out _).trans (hHeld.2.1)), ((cell_far (p := ⟨gb102, _, none⟩) NB101_102.out _).trans (hHeld.2.2.1)), ((cell_far (p := ⟨gb102, _, none⟩) NB101_102.out _).trans (hHeld.2.2.2.1)), ((cell_far (p := ⟨gb102, _, none⟩) NB101_102.out _).trans (hHeld.2.2.2.2))⟩ (fun hHeld => ?_)
   clear hK K
   refine pure_ (i := 17) (N := some 82) (v := ?_) (a' := ?_) #[true, true, true, true, true, true, true, true, true, true, true, true, true, true, true, true, true, true, false, false, false, false] rfl rfl (any_of HT_.out (by kernel_rfl)) (fun _ _ _ h => h) (Or.inl ⟨by rfl, ?_⟩) ?_ ?_
   rotate_left
   ·intro w'
    go_simp
    with_reducible rfl
   rotate_left
   ·simp only [Act.put, List.setIfInBounds_toArray, List.set_cons_zero, List.set_cons_succ, i64_w, i32_w]
    rfl
   refine one_ (i := 18) (N := none) #[true, true, true, true, true, true, true, true, true, true, true, true, true, true, true, true, true, true, true, false, false, false] rfl rfl (one_of HT_.out (by kernel_rfl)) (by decide) (fun K hK => ?_)
   have hs159 : w157.cell? ⟨gb102, 2, none⟩ = some (.int .i64 0) := (blk_cell BK102.out 2).trans rfl
   have hfs159 := blk_frozen BK102.out 2
   have hns159_0 := NB101_102.out
   have hms159_0 := NB102_101.out
   refine skip_ (w1 := ?_) (by rfl) rfl ?_ ?_
   rotate_left
   ·go_simp
    rfl
   refine hK.out _ _ ⟨((cell_far (p := ⟨gb102, _, none⟩) NB101_102.out _).trans (hHeld.1)), ((cell_far (p := ⟨gb102, _, none⟩) NB101_102.out _).trans (hHeld.2.1)), ((cell_far (p := ⟨gb102, _, none⟩) NB101_102.out _).trans (hHeld.2.2.1)), ((cell_far (p := ⟨gb102, _, none⟩) NB101_102.out _).trans (hHeld.2.2.2.1)), ((cell_far (p := ⟨gb102, _, none⟩) NB101_102.out _).trans (hHeld.2.2.2.2))⟩ (fun hHeld => ?_)
   clear hK K
   refine pure_ (i := 19) (N := some 83) (v := ?_) (a' := ?_) #[true, true, true, true, true, true, true, true, true, true, true, true, true, true, true, true, true, true, true, true, false, false] rfl rfl (any_of HT_.out (by kernel_rfl)) (fun _ _ _ h => h) (Or.inl ⟨by rfl, ?_⟩) ?_ ?_
   rotate_left
   ·intro w'
    go_simp
    with_reducible rfl
   rotate_left
   ·simp only [Act.put, List.setIfInBounds_toArray, List.set_cons_zero, List.set_cons_succ, i64_w, i32_w]
    rfl
   refine one_ (i := 20) (N := none) #[true, true, true, true, true, true, true, true, true, true, true, true, true, true, true, true, true, true, true, true, true, false] rfl rfl (one_of HT_.out (by kernel_rfl)) (by decide) (fun K hK => ?_)
   have hs160 : w157.cell? ⟨gb102, 4, none⟩ = some (.int .i64 0) := (blk_cell BK102.out 4).trans rfl
   have hfs160 := blk_frozen BK102.out 4
   have hns160_0 := NB101_102.out
   have hms160_0 := NB102_101.out
   refine skip_ (w1 := ?_) (by rfl) rfl ?_ ?_
   rotate_left
   ·go_simp
    rfl
   refine hK.out _ _ ⟨((cell_far (p := ⟨gb102, _, none⟩) NB101_102.out _).trans (hHeld.1)), ((cell_far (p := ⟨gb102, _, none⟩) NB101_102.out _).trans (hHeld.2.1)), ((cell_far (p := ⟨gb102, _, none⟩) NB101_102.out _).trans (hHeld.2.2.1)), ((cell_far (p := ⟨gb102, _, none⟩) NB101_102.out _).trans (hHeld.2.2.2.1)), ((cell_far (p := ⟨gb102, _, none⟩) NB101_102.out _).trans (hHeld.2.2.2.2))⟩ (fun hHeld => ?_)
   clear hK K
   refine pure_ (i := 21) (N := some 9) (v := ?_) (a' := ?_) #[true, true, true, true, true, true, true, true, true, true, true, true, true, true, true, true, true, true, true, true, true, true] rfl rfl (any_of HT_.out (by kernel_rfl)) (fun _ _ _ h => h) (Or.inl ⟨by rfl, ?_⟩) ?_ ?_
   rotate_left
   ·intro w'
    go_simp
    with_reducible rfl
   rotate_left
   ·simp only [Act.put, List.setIfInBounds_toArray, List.set_cons_zero, List.set_cons_succ, i64_w, i32_w]
    rfl
   refine done_ (done_of HT_.out (by kernel_rfl)) ?_
   try go_wp2
   go_ret
   exact ⟨by first | rfl | (simp [errW_none, errW_some] <;> rfl) | (simp [*, errW_none, errW_some] <;> rfl), by repeat (first | (with_reducible first | exact HB.out | apply below_alloc | apply pw_below_drewN | apply below_drew1 | refine below_set ?_ GE101.out | refine below_set ?_ GE102.out) | exact HB.out)⟩
 ·replace c119 := Bool.eq_false_iff.mpr c119
  subst c119
  have H1 : (some false) = some r := by rw [if_neg (show ¬ (false = true) by decide)] at H; exact H
  clear H
  have H := H1
  clear H1
  obtain rfl := Option.some.inj H
  have Q1 := Lib.hid (fun W => in_q a0_2 0 (wrap64 (a1 - 1)) _ W A3.out)
  have Q2 := Lib.hid (fun W => in_q a0_3 0 (wrap64 (a1 - 1)) _ W A4.out)
  have Q3 := Lib.hid (fun W => in_q a0_1 1 9 _ W A5.out)
  go_enter Try.func56, Try.ntmps56
  go_wp2_with fail
  go_quiet ((go_at_call 49; with_reducible first | exact Calls.quiet_of (Q1.out _) | exact Calls.quiet_of (Q2.out _) | (rw [i64_w]; first | exact Calls.quiet_of (Q1.out _) | exact Calls.quiet_of (Q2.out _))))
  go_wp2_with (go_at_call 49; with_reducible refine (Q3.out _).mono ?_; rintro e w' ⟨rfl, m, rfl⟩)
  generalize hq_ : World.drewN (World.alloc (World.alloc w _) _) _ = w167
  have HB : Aside0 (Below w.heap.size w w167) := ⟨by rw [← hq_]; repeat (first | exact Below.refl _ _ | apply below_alloc | apply pw_below_drewN | refine below_set ?_ (Nat.le_succ _))⟩
  have BK101 : Aside0 (w167.heap[w.heap.size]? = some (.cells #[.int .i64 a0_0, .int .i64 a0_1, .int .i64 a0_2, .int .i64 a0_3, .int .i64 a0_4] 60 (0, 0))) := ⟨by rw [← hq_]; exact blk_drewN (blk_alloc (new_blk _ _) _) _⟩
  have BK102 : Aside0 (w167.heap[w.heap.size + 1]? = some (.cells #[.int .i64 a0_0, .int .i64 0, .int .i64 0, .int .i64 0, .int .i64 0] 60 (0, 0))) := ⟨by rw [← hq_]; exact blk_drewN (by rw [← size_blk w (.cells #[.int .i64 a0_0, .int .i64 a0_1, .int .i64 a0_2, .int .i64 a0_3, .int .i64 a0_4] 60)]; exact new_blk _ _) _⟩
  clear hq_
  have GE101 : Aside0 (w.heap.size ≤ w.heap.size) := ⟨Nat.le_refl _⟩
  have GE102 : Aside0 (w.heap.size ≤ w.heap.size + 1) := ⟨Nat.le_succ _⟩
  have NB101_102 : Aside0 (w.heap.size ≠ w.heap.size + 1) := ⟨by omega⟩
  have NB102_101 : Aside0 (w.heap.size + 1 ≠ w.heap.size) := ⟨by omega⟩
  generalize hgb2 : w.heap.size + 1 = gb102 at BK102 GE102 NB101_102 NB102_101 ⊢
  generalize hgb1 : w.heap.size = gb101 at BK101 NB101_102 NB102_101 ⊢
  replace GE101 : Aside0 (w.heap.size ≤ gb101) := ⟨by omega⟩
  have hcn0_ : w167.cell? ⟨gb101, 0, none⟩ = some (.int .i64 a0_0) := (blk_cell BK101.out 0).trans rfl
  have hfn0_ := blk_frozen BK101.out 0
  have hcn1_ : w167.cell? ⟨gb101, 1, none⟩ = some (.int .i64 a0_1) := (blk_cell BK101.out 1).trans rfl
  have hfn1_ := blk_frozen BK101.out 1
  have hcn2_ : w167.cell? ⟨gb101, 2, none⟩ = some (.int .i64 a0_2) := (blk_cell BK101.out 2).trans rfl
  have hfn2_ := blk_frozen BK101.out 2
  have hcn3_ : w167.cell? ⟨gb101, 3, none⟩ = some (.int .i64 a0_3) := (blk_cell BK101.out 3).trans rfl
  have hfn3_ := blk_frozen BK101.out 3
  have hcn4_ : w167.cell? ⟨gb101, 4, none⟩ = some (.int .i64 a0_4) := (blk_cell BK101.out 4).trans rfl
  have hfn4_ := blk_frozen BK101.out 4
  have n0_ := Aside0.mk (blk_drew BK101.out)
  have n1_ := Aside0.mk (blk_drew BK102.out)
  have n2_ := Aside0.mk (below_drew1 HB.out)
  clear BK101
  clear BK102
  clear HB
  have BK101 := n0_
  have BK102 := n1_
  have HB := n2_
  clear n0_ n1_ n2_
  refine start_ (n := 22) (S := fun w' => w'.cell? ⟨gb101, 0, none⟩ = some (.int .i64 a0_0) ∧ w'.cell? ⟨gb101, 1, none⟩ = some (.int .i64 a0_1) ∧ w'.cell? ⟨gb101, 2, none⟩ = some (.int .i64 a0_2) ∧ w'.cell? ⟨gb101, 3, none⟩ = some (.int .i64 a0_3) ∧ w'.cell? ⟨gb101, 4, none⟩ = some (.int .i64 a0_4)) (ds := []) #[false, false, false, false, false, false, false, false, false, false, false, false, false, false, false, false, false, false, false, false, false, false] (by kernel_rfl) rfl rfl ⟨(blk_cell BK101.out 0).trans rfl, (blk_cell BK101.out 1).trans rfl, (blk_cell BK101.out 2).trans rfl, (blk_cell BK101.out 3).trans rfl, (blk_cell BK101.out 4).trans rfl⟩ (fun hHeld => ?_); refine with_tabW impl_nodeValid.tab13 impl_nodeValid.bits13 (fun HT_ HW_ => ?_)
  generalize w167.drew = w169 at BK101 BK102 HB hHeld ⊢
  refine pure_ (i := 0) (N := some 66) (v := ?_) (a' := ?_) #[true, false, false, false, false, false, false, false, false, false, false, false, false, false, false, false, false, false, false, false, false, false] rfl rfl (any_of HT_.out (by kernel_rfl)) (fun _ _ _ h => h) (Or.inl ⟨by rfl, ?_⟩) ?_ ?_
  rotate_left
  ·intro w'
   go_simp
   with_reducible rfl
  rotate_left
  ·simp only [Act.put, List.setIfInBounds_toArray, List.set_cons_zero, List.set_cons_succ, i64_w, i32_w]
   rfl
  refine pure_ (i := 2) (N := some 68) (v := ?_) (a' := ?_) #[true, false, true, false, false, false, false, false, false, false, false, false, false, false, false, false, false, false, false, false, false, false] rfl rfl (any_of HT_.out (by kernel_rfl)) (fun _ _ _ h => h) (Or.inl ⟨by rfl, ?_⟩) ?_ ?_
  rotate_left
  ·intro w'
   go_simp
   with_reducible rfl
  rotate_left
  ·simp only [Act.put, List.setIfInBounds_toArray, List.set_cons_zero, List.set_cons_succ, i64_w, i32_w]
   rfl
  refine pure_ (i := 4) (N := some 70) (v := ?_) (a' := ?_) #[true, false, true, false, true, false, false, false, false, false, false, false, false, false, false, false, false, false, false, false, false, false] rfl rfl (any_of HT_.out (by kernel_rfl)) (fun _ _ _ h => h) (Or.inl ⟨by rfl, ?_⟩) ?_ ?_
  rotate_left
  ·intro w'
   go_simp
   with_reducible rfl
  rotate_left
  ·simp only [Act.put, List.setIfInBounds_toArray, List.set_cons_zero, List.set_cons_succ, i64_w, i32_w]
   rfl
  refine pure_ (i := 6) (N := some 72) (v := ?_) (a' := ?_) #[true, false, true, false, true, false, true, false, false, false, false, false, false, false, false, false, false, false, false, false, false, false] rfl rfl (any_of HT_.out (by kernel_rfl)) (fun _ _ _ h => h) (Or.inl ⟨by rfl, ?_⟩) ?_ ?_
  rotate_left
  ·intro w'
   go_simp
   with_reducible rfl
  rotate_left
  ·simp only [Act.put, List.setIfInBounds_toArray, List.set_cons_zero, List.set_cons_succ, i64_w, i32_w]
   rfl
  refine pure_ (i := 7) (N := some 73) (v := ?_) (a' := ?_) #[true, false, true, false, true, false, true, true, false, false, false, false, false, false, false, false, false, false, false, false, false, false] rfl rfl (any_of HT_.out (by kernel_rfl)) (fun _ _ _ h => h) (Or.inl ⟨by rfl, ?_⟩) ?_ ?_
  rotate_left
  ·intro w'
   go_simp
   with_reducible rfl
  rotate_left
  ·simp only [Act.put, List.setIfInBounds_toArray, List.set_cons_zero, List.set_cons_succ, i64_w, i32_w]
   rfl
  refine pure_ (i := 8) (N := some 74) (v := undef) (a' := ?_) #[true, false, true, false, true, false, true, true, true, false, false, false, false, false, false, false, false, false, false, false, false, false] rfl rfl (any_of HT_.out (by kernel_rfl)) (fun _ _ _ h => h) (Or.inr ⟨by rfl, rfl⟩) ?_ ?_
  rotate_left
  ·simp only [Act.put, List.setIfInBounds_toArray, List.set_cons_zero, List.set_cons_succ, i64_w, i32_w]
   rfl
  refine pure_ (i := 9) (N := some 75) (v := ?_) (a' := ?_) #[true, false, true, false, true, false, true, true, true, true, false, false, false, false, false, false, false, false, false, false, false, false] rfl rfl (any_of HT_.out (by kernel_rfl)) (fun _ _ _ h => h) (Or.inl ⟨by rfl, ?_⟩) ?_ ?_
  rotate_left
  ·intro w'
   go_simp
   with_reducible rfl
  rotate_left
  ·simp only [Act.put, List.setIfInBounds_toArray, List.set_cons_zero, List.set_cons_succ, i64_w, i32_w]
   rfl
  refine pure_ (i := 10) (N := some 76) (v := ?_) (a' := ?_) #[true, false, true, false, true, false, true, true, true, true, true, false, false, false, false, false, false, false, false, false, false, false] rfl rfl (any_of HT_.out (by kernel_rfl)) (fun _ _ _ h => h) (Or.inl ⟨by rfl, ?_⟩) ?_ ?_
  rotate_left
  ·intro w'
   go_simp
   with_reducible rfl
  rotate_left
  ·simp only [Act.put, List.setIfInBounds_toArray, List.set_cons_zero, List.set_cons_succ, i64_w, i32_w]
   rfl
  refine pure_ (i := 11) (N := some 77) (v := undef) (a' := ?_) #[true, false, true, false, true, false, true, true, true, true, true, true, false, false, false, false, false, false, false, false, false, false] rfl rfl (any_of HT_.out (by kernel_rfl)) (fun _ _ _ h => h) (Or.inr ⟨by rfl, rfl⟩) ?_ ?_
  rotate_left
  ·simp only [Act.put, List.setIfInBounds_toArray, List.set_cons_zero, List.set_cons_succ, i64_w, i32_w]
   rfl
  refine pure_ (i := 12) (N := some 78) (v := undef) (a' := ?_) #[true, false, true, false, true, false, true, true, true, true, true, true, true, false, false, false, false, false, false, false, false, false] rfl rfl (any_of HT_.out (by kernel_rfl)) (fun _ _ _ h => h) (Or.inr ⟨by rfl, rfl⟩) ?_ ?_
  rotate_left
  ·simp only [Act.put, List.setIfInBounds_toArray, List.set_cons_zero, List.set_cons_succ, i64_w, i32_w]
   rfl
  refine pure_ (i := 13) (N := some 79) (v := undef) (a' := ?_) #[true, false, true, false, true, false, true, true, true, true, true, true, true, true, false, false, false, false, false, false, false, false] rfl rfl (any_of HT_.out (by kernel_rfl)) (fun _ _ _ h => h) (Or.inr ⟨by rfl, rfl⟩) ?_ ?_
  rotate_left
  ·simp only [Act.put, List.setIfInBounds_toArray, List.set_cons_zero, List.set_cons_succ, i64_w, i32_w]
   rfl
  refine pure_ (i := 14) (N := some 80) (v := ?_) (a' := ?_) #[true, false, true, false, true, false, true, true, true, true, true, true, true, true, true, false, false, false, false, false, false, false] rfl rfl (any_of HT_.out (by kernel_rfl)) (fun _ _ _ h => h) (Or.inl ⟨by rfl, ?_⟩) ?_ ?_
  rotate_left
  ·intro w'
   go_simp
   with_reducible rfl
  rotate_left
  ·simp only [Act.put, List.setIfInBounds_toArray, List.set_cons_zero, List.set_cons_succ, i64_w, i32_w]
   rfl
  refine take_ (i := 1) (N := some 67) (v := ?_) (a' := ?_) #[true, true, true, false, true, false, true, true, true, true, true, true, true, true, true, false, false, false, false, false, false, false] rfl rfl (take_ofW HT_.out HW_.out (by kernel_rfl)) (fun _ _ _ h => h) (Or.inl ⟨by rfl, ?_⟩) hHeld ?_ ?_
  rotate_left
  ·rintro w' ⟨s0, s1, s2, s3, s4⟩
   go_simp
   with_reducible rfl
  rotate_left
  ·simp only [Act.put, List.setIfInBounds_toArray, List.set_cons_zero, List.set_cons_succ, i64_w, i32_w]
   rfl
  refine pure_ (i := 15) (N := some 81) (v := ?_) (a' := ?_) #[true, true, true, false, true, false, true, true, true, true, true, true, true, true, true, true, false, false, false, false, false, false] rfl rfl (any_of HT_.out (by kernel_rfl)) (fun _ _ _ h => h) (Or.inl ⟨by rfl, ?_⟩) ?_ ?_
  rotate_left
  ·intro w'
   go_simp
   with_reducible rfl
  rotate_left
  ·simp only [Act.put, List.setIfInBounds_toArray, List.set_cons_zero, List.set_cons_succ, i64_w, i32_w]
   rfl
  refine take_ (i := 3) (N := some 69) (v := ?_) (a' := ?_) #[true, true, true, true, true, false, true, true, true, true, true, true, true, true, true, true, false, false, false, false, false, false] rfl rfl (take_ofW HT_.out HW_.out (by kernel_rfl)) (fun _ _ _ h => h) (Or.inl ⟨by rfl, ?_⟩) hHeld ?_ ?_
  rotate_left
  ·rintro w' ⟨s0, s1, s2, s3, s4⟩
   go_simp
   with_reducible rfl
  rotate_left
  ·simp only [Act.put, List.setIfInBounds_toArray, List.set_cons_zero, List.set_cons_succ, i64_w, i32_w]
   rfl
  refine take_ (i := 5) (N := some 71) (v := ?_) (a' := ?_) #[true, true, true, true, true, true, true, true, true, true, true, true, true, true, true, true, false, false, false, false, false, false] rfl rfl (take_ofW HT_.out HW_.out (by kernel_rfl)) (fun _ _ _ h => h) (Or.inl ⟨by rfl, ?_⟩) hHeld ?_ ?_
  rotate_left
  ·rintro w' ⟨s0, s1, s2, s3, s4⟩
   go_simp
   with_reducible rfl
  rotate_left
  ·simp only [Act.put, List.setIfInBounds_toArray, List.set_cons_zero, List.set_cons_succ, i64_w, i32_w]
   rfl
  refine one_ (i := 16) (N := none) #[true, true, true, true, true, true, true, true, true, true, true, true, true, true, true, true, true, false, false, false, false, false] rfl rfl (one_of HT_.out (by kernel_rfl)) (by decide) (fun K hK => ?_)
  have hs170 : w169.cell? ⟨gb102, 1, none⟩ = some (.int .i64 0) := (blk_cell BK102.out 1).trans rfl
  have hfs170 := blk_frozen BK102.out 1
  have hns170_0 := NB101_102.out
  have hms170_0 := NB102_101.out
  refine skip_ (w1 := ?_) (by rfl) rfl ?_ ?_
  rotate_left
  ·go_simp
   rfl
  refine hK.out _ _ ⟨((cell_far (p := ⟨gb102, _, none⟩) NB101_102.out _).trans (hHeld.1)), ((cell_far (p := ⟨gb102, _, none⟩) NB101_102.out _).trans (hHeld.2.1)), ((cell_far (p := ⟨gb102, _, none⟩) NB101_102.out _).trans (hHeld.2.2.1)), ((cell_far (p := ⟨gb102, _, none⟩) NB101_102.out _).trans (hHeld.2.2.2.1)), ((cell_far (p := ⟨gb102, _, none⟩) NB101_102.out _).trans (hHeld.2.2.2.2))⟩ (fun hHeld => ?_)
  clear hK K
  refine pure_ (i := 17) (N := some 82) (v := ?_) (a' := ?_) #[true, true, true, true, true, true, true, true, true, true, true, true, true, true, true, true, true, true, false, false, false, false] rfl rfl (any_of HT_.out (by kernel_rfl)) (fun _ _ _ h => h) (Or.inl ⟨by rfl, ?_⟩) ?_ ?_
  rotate_left
  ·intro w'
   go_simp
   with_reducible rfl
  rotate_left
  ·simp only [Act.put, List.setIfInBounds_toArray, List.set_cons_zero, List.set_cons_succ, i64_w, i32_w]
   rfl
  refine one_ (i := 18) (N := none) #[true, true, true, true, true, true, true, true, true, true, true, true, true, true, true, true, true, true, true, false, false, false] rfl rfl (one_of HT_.out (by kernel_rfl)) (by decide) (fun K hK => ?_)
  have hs171 : w169.cell? ⟨gb102, 2, none⟩ = some (.int .i64 0) := (blk_cell BK102.out 2).trans rfl
  have hfs171 := blk_frozen BK102.out 2
  have hns171_0 := NB101_102.out
  have hms171_0 := NB102_101.out
  refine skip_ (w1 := ?_) (by rfl) rfl ?_ ?_
  rotate_left
  ·go_simp
   rfl
  refine hK.out _ _ ⟨((cell_far (p := ⟨gb102, _, none⟩) NB101_102.out _).trans (hHeld.1)), ((cell_far (p := ⟨gb102, _, none⟩) NB101_102.out _).trans (hHeld.2.1)), ((cell_far (p := ⟨gb102, _, none⟩) NB101_102.out _).trans (hHeld.2.2.1)), ((cell_far (p := ⟨gb102, _, none⟩) NB101_102.out _).trans (hHeld.2.2.2.1)), ((cell_far (p := ⟨gb102, _, none⟩) NB101_102.out _).trans (hHeld.2.2.2.2))⟩ (fun hHeld => ?_)
  clear hK K
  refine pure_ (i := 19) (N := some 83) (v := ?_) (a' := ?_) #[true, true, true, true, true, true, true, true, true, true, true, true, true, true, true, true, true, true, true, true, false, false] rfl rfl (any_of HT_.out (by kernel_rfl)) (fun _ _ _ h => h) (Or.inl ⟨by rfl, ?_⟩) ?_ ?_
  rotate_left
  ·intro w'
   go_simp
   with_reducible rfl
  rotate_left
  ·simp only [Act.put, List.setIfInBounds_toArray, List.set_cons_zero, List.set_cons_succ, i64_w, i32_w]
   rfl
  refine one_ (i := 20) (N := none) #[true, true, true, true, true, true, true, true, true, true, true, true, true, true, true, true, true, true, true, true, true, false] rfl rfl (one_of HT_.out (by kernel_rfl)) (by decide) (fun K hK => ?_)
  have hs172 : w169.cell? ⟨gb102, 4, none⟩ = some (.int .i64 0) := (blk_cell BK102.out 4).trans rfl
  have hfs172 := blk_frozen BK102.out 4
  have hns172_0 := NB101_102.out
  have hms172_0 := NB102_101.out
  refine skip_ (w1 := ?_) (by rfl) rfl ?_ ?_
  rotate_left
  ·go_simp
   rfl
  refine hK.out _ _ ⟨((cell_far (p := ⟨gb102, _, none⟩) NB101_102.out _).trans (hHeld.1)), ((cell_far (p := ⟨gb102, _, none⟩) NB101_102.out _).trans (hHeld.2.1)), ((cell_far (p := ⟨gb102, _, none⟩) NB101_102.out _).trans (hHeld.2.2.1)), ((cell_far (p := ⟨gb102, _, none⟩) NB101_102.out _).trans (hHeld.2.2.2.1)), ((cell_far (p := ⟨gb102, _, none⟩) NB101_102.out _).trans (hHeld.2.2.2.2))⟩ (fun hHeld => ?_)
  clear hK K
  refine pure_ (i := 21) (N := some 9) (v := ?_) (a' := ?_) #[true, true, true, true, true, true, true, true, true, true, true, true, true, true, true, true, true, true, true, true, true, true] rfl rfl (any_of HT_.out (by kernel_rfl)) (fun _ _ _ h => h) (Or.inl ⟨by rfl, ?_⟩) ?_ ?_
  rotate_left
  ·intro w'
   go_simp
   with_reducible rfl
  rotate_left
  ·simp only [Act.put, List.setIfInBounds_toArray, List.set_cons_zero, List.set_cons_succ, i64_w, i32_w]
   rfl
  refine done_ (done_of HT_.out (by kernel_rfl)) ?_
  try go_wp2
  go_ret
  exact ⟨by first | rfl | (simp [errW_none, errW_some] <;> rfl) | (simp [*, errW_none, errW_some] <;> rfl), by repeat (first | (with_reducible first | exact HB.out | apply below_alloc | apply pw_below_drewN | apply below_drew1 | refine below_set ?_ GE101.out | refine below_set ?_ GE102.out) | exact HB.out)⟩
end Go.Proofs.Ytappbijjpcaocaa.Print
