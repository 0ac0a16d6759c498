/- Functions of the translation as plain Lean functions, and their contracts. No condition. -/
import Derived.Test.YtonifhkplniblaaPB
import Derived.Laws.MathBits
import Derived.Lib.Hide
import Derived.Lib.LazyBuf
import Derived.Test.YtonifhkplniblaaCopy
import Derived.Test.YtonifhkplniblaaWalk
import Derived.Test.YtonifhkplniblaaRR
import Derived.Deep.DeepMust
import Derived.BigQuiet
import Derived.Deep.QuietTactic
import Derived.Maps.OwnSet
namespace Go.Proofs.Ytonifhkplniblaa.Print
open Go.RowKit Go.Proofs.YtonifhkplniblaaW.PrintWords Go.Proofs.YtonifhkplniblaaW.PrintLast Go.Proofs.YtonifhkplniblaaW.PrintMore
attribute [local go_sem] max2_int min2_int max_two min_two max_three min_three max_four min_four   -- for this text's walks alone
set_option linter.unusedVariables false
set_option linter.unusedSimpArgs false

/-! ### bits_Mul64: function 176 -/
def bits_Mul64.f (a0 : Int) (a1 : Int) : Option (Int × Int) := some (IntKind.u64.wrap ((IntKind.u64.wrap ((IntKind.u64.wrap ((a0 / 4294967296) * (a1 / 4294967296))) + ((IntKind.u64.wrap ((IntKind.u64.wrap ((a0 / 4294967296) * (Go.bits .and .u64 a1 4294967295))) + ((IntKind.u64.wrap ((Go.bits .and .u64 a0 4294967295) * (Go.bits .and .u64 a1 4294967295))) / 4294967296))) / 4294967296))) + ((IntKind.u64.wrap ((Go.bits .and .u64 (IntKind.u64.wrap ((IntKind.u64.wrap ((a0 / 4294967296) * (Go.bits .and .u64 a1 4294967295))) + ((IntKind.u64.wrap ((Go.bits .and .u64 a0 4294967295) * (Go.bits .and .u64 a1 4294967295))) / 4294967296))) 4294967295) + (IntKind.u64.wrap ((Go.bits .and .u64 a0 4294967295) * (a1 / 4294967296))))) / 4294967296)), IntKind.u64.wrap (a0 * a1))
set_option maxHeartbeats 8000000 in
set_option maxRecDepth 100000 in
theorem bits_Mul64.calls (a0 : Int) (a1 : Int) (r1 : Int) (r2 : Int) (w : World) (h : bits_Mul64.f a0 a1 = some (r1, r2)) :
    Calls Try.prog 176 #[.int .u64 a0, .int .u64 a1] w fun e w' => e = .returned (.tuple #[.int .u64 r1, .int .u64 r2]) ∧ Drawn0 w w' := by
  have H : (some (IntKind.u64.wrap ((IntKind.u64.wrap ((IntKind.u64.wrap ((a0 / 4294967296) * (a1 / 4294967296))) + ((IntKind.u64.wrap ((IntKind.u64.wrap ((a0 / 4294967296) * (Go.bits .and .u64 a1 4294967295))) + ((IntKind.u64.wrap ((Go.bits .and .u64 a0 4294967295) * (Go.bits .and .u64 a1 4294967295))) / 4294967296))) / 4294967296))) + ((IntKind.u64.wrap ((Go.bits .and .u64 (IntKind.u64.wrap ((IntKind.u64.wrap ((a0 / 4294967296) * (Go.bits .and .u64 a1 4294967295))) + ((IntKind.u64.wrap ((Go.bits .and .u64 a0 4294967295) * (Go.bits .and .u64 a1 4294967295))) / 4294967296))) 4294967295) + (IntKind.u64.wrap ((Go.bits .and .u64 a0 4294967295) * (a1 / 4294967296))))) / 4294967296)), IntKind.u64.wrap (a0 * a1))) = some (r1, r2) := h
  clear h
  simp only [Option.some.injEq, Prod.mk.injEq] at H
  obtain ⟨rfl, rfl⟩ := H
  go_enter Try.func176, Try.ntmps176
  go_wp2
  go_ret2
  exact ⟨by first | rfl | (simp; done) | (simp [*]; done) | (simp only [i64_w, i32_w]; done) | (simp [*, i64_w, i32_w]; done), by repeat (first | exact Drawn0.refl _ | apply Drawn0.step)⟩



/-! ### bits_Mul: function 168 -/
def bits_Mul.f (a0 : Int) (a1 : Int) : Option (Int × Int) := (bits_Mul64.f a0 a1).bind fun bt101 => (some (bt101.1, bt101.2))
set_option maxHeartbeats 8000000 in
set_option maxRecDepth 100000 in
theorem bits_Mul.calls (a0 : Int) (a1 : Int) (r1 : Int) (r2 : Int) (w : World) (h : bits_Mul.f a0 a1 = some (r1, r2)) :
    Calls Try.prog 168 #[.int .u64 a0, .int .u64 a1] w fun e w' => e = .returned (.tuple #[.int .u64 r1, .int .u64 r2]) ∧ Drawn0 w w' := by
  have H : ((bits_Mul64.f a0 a1).bind fun bt101 => (some (bt101.1, bt101.2))) = some (r1, r2) := h
  clear h
  replace H := Option.bind_eq_some_iff.mp H
  obtain ⟨⟨t101, t102⟩, A30, H⟩ := H
  replace H : (some (t101, t102)) = some (r1, r2) := H
  have A3 := Aside0.mk A30
  clear A30
  simp only [Option.some.injEq, Prod.mk.injEq] at H
  obtain ⟨rfl, rfl⟩ := H
  go_enter Try.func168, Try.ntmps168
  go_wp2_with (first | ((with_reducible refine gate_callee (f := 176) rfl ?_); refine goesL_ (some 25) rfl rfl Try.func176 (by kernel_rfl) rfl #[.int .u64 a0, .int .u64 a1] rfl (by (try simp only [List.map_toArray, List.map_cons, List.map_nil]); first | done | rfl | (simp only [List.length_drop, List.length_take]; rfl)) ?_; (with_reducible refine (bits_Mul64.calls a0 a1 t101 t102 _ A3.out).mono ?_); rintro e w' ⟨rfl, ⟨nd, rfl⟩⟩; refine ⟨_, rfl, ?_⟩))
  go_ret2
  exact ⟨by first | rfl | (simp; done) | (simp [*]; done) | (simp only [i64_w, i32_w]; done) | (simp [*, i64_w, i32_w]; done), by repeat (first | exact Drawn0.refl _ | apply Drawn0.step)⟩



/-! ### impl_none: function 79 (given) -/
open Go.Proofs.Ytonifhkplniblaa.Walk
def fillM (n m : Nat) : List Int := List.replicate m (-1) ++ List.replicate (n - m) 0
theorem fillM_len {n m : Nat} (h : m ≤ n) : (fillM n m).length = n := by unfold fillM; simp; omega
theorem fillM_step {n m q : Nat} (hq : q ≤ m) (hn : m + q ≤ n) : (fillM n m).take m ++ (fillM n m).take q ++ (fillM n m).drop (m + q) = fillM n (m + q) := by
  unfold fillM
  have e1 : (List.replicate m (-1 : Int) ++ List.replicate (n - m) 0).take m = List.replicate m (-1) := by rw [List.take_append_of_le_length (by simp)]; simp
  have e2 : (List.replicate m (-1 : Int) ++ List.replicate (n - m) 0).take q = List.replicate q (-1) := by rw [List.take_append_of_le_length (by simp; omega)]; simp; omega
  have e3 : (List.replicate m (-1 : Int) ++ List.replicate (n - m) 0).drop (m + q) = List.replicate (n - (m + q)) 0 := by
    rw [List.drop_append, List.drop_eq_nil_of_le (by simp), List.nil_append, List.length_replicate, List.drop_replicate]
    congr 1
    omega
  rw [e1, e2, e3, List.replicate_append_replicate]
theorem mul_one_n {n : Nat} (h : n ≤ 1000000) : bits_Mul.f 1 (n : Int) = some (0, (n : Int)) := by
  unfold bits_Mul.f bits_Mul64.f
  rw [and_low32 1 (by omega) (by omega), and_low32 (n : Int) (by omega) (by omega)]
  simp only [Option.bind_some]
  have e0 : (1 : Int) / 4294967296 = 0 := by decide
  have e1 : (1 : Int) % 4294967296 = 1 := by decide
  have e2 : (n : Int) / 4294967296 = 0 := by omega
  have e3 : (n : Int) % 4294967296 = n := by omega
  have w0 : IntKind.u64.wrap 0 = 0 := by decide
  have wn : IntKind.u64.wrap (n : Int) = n := by simp [IntKind.wrap, IntKind.signed, IntKind.bits]; omega
  simp only [e0, e1, e2, e3, Int.zero_mul, Int.one_mul, Int.mul_zero, Int.add_zero, Int.zero_add, w0, wn]
  rw [and_low32 0 (by omega) (by omega)]
  simp only [show (0 : Int) % 4294967296 = 0 by decide, show (0 : Int) / 4294967296 = 0 by decide, Int.add_zero, w0]
theorem fill0 (n : Nat) : ([-1] : List Int).take (min 1 (List.replicate n (0 : Int)).length) ++ (List.replicate n (0 : Int)).drop (min 1 (List.replicate n (0 : Int)).length) = fillM n (min 1 n) := by
  rw [List.length_replicate]
  cases n with
  | zero => rfl
  | succ n => rw [Nat.min_eq_left (by omega)]; rfl
theorem fillN (n : Nat) : fillM n n = List.replicate n (-1) := by unfold fillM; simp
def RepT9 : Bool × List (List Nat × List Nat) := (true, [([], []), ([], []), ([], []), ([1, 2], [1, 2]), ([], []), ([], []), ([4, 5], [4, 5]), ([3, 6], [3, 6]), ([0, 7], [0, 7]), ([8, 7, 0, 1, 2, 3, 4, 5, 6, 7, 8], [0, 2, 5, 8])])
theorem RepTab9 : rtab .any (opsOf Try.f147 9) = RepT9 := by kernel_rfl
set_option maxHeartbeats 2000000 in
set_option maxRecDepth 100000 in
theorem Repeat_any (A1 : Option Addr) (c1 : Nat) (n : Nat) (w : World) (hr1 : Kd.C (Kd.int .i64) w A1 1 [-1]) (hc1 : 1 ≤ c1) (hn : n ≤ 1000000) :
    Calls Try.prog 147 #[.slice A1 1 c1, .int .i64 n] w fun e w' => ∃ v0_ : Value, e = .returned v0_ ∧ Kd.R (Kd.int .i64) 3 w' w.heap.size (fun _ => True) v0_ (List.replicate n (-1)) ∧ Below w.heap.size w w' := by
  have hm := mul_one_n hn
  have HM := Lib.hid (fun W => bits_Mul.calls 1 (n : Int) 0 (n : Int) W hm)
  have HR1 := Aside0.mk hr1
  have HB := Aside0.mk (Below.refl w.heap.size w)
  have HN := Lib.hid hn
  have q0 : 0 ≤ (n : Int) := by omega
  have q1 : decide ((n : Int) < 0) = false := decide_eq_false (by omega)
  have q2 : decide ((n : Int) > 9223372036854775807) = false := decide_eq_false (by omega)
  have wn : IntKind.u64.wrap (n : Int) = n := by simp [IntKind.wrap, IntKind.signed, IntKind.bits]; omega
  have wi : IntKind.i64.wrap (n : Int) = n := by simp [IntKind.wrap, IntKind.signed, IntKind.bits]; omega
  have hinf : (Try.prog.info? 3).map (fun i => i.size) = some 1 := by kernel_rfl
  clear hm hr1 hc1 hn
  go_enter Try.func147, Try.ntmps147
  go_wp2_with (first | (go_at_call 168; refine (HM.out _).mono ?_; rintro e w2 ⟨rfl, hd⟩; obtain ⟨m, rfl⟩ := hd.out; clear hd) | ((with_reducible refine gate_dst (N := 30) rfl ?_); refine Kd.R_make (Kd.int .i64) _ 3 rfl (N := 30) rfl 30 _ _ rfl (n : Int) rfl rfl Try.underlying30 (.int .i64 0) 8 info3 rfl (by decide) (by omega) 0 (ok := fun _ => True) (okp := fun _ => True) rfl (fun _ hk => hk) trivial q0 (Nat.le_trans (Nat.mul_le_mul_right _ (show ((n : Int)).toNat ≤ 35184372088832 by have := HN.out; omega)) (by omega)) (Below.refl _ _) (Nat.le_refl _) ?_; intro v102 w6 ho7 hb hg_ hnew_; clear hg_ hnew_; simp only [Int.toNat_natCast] at ho7; have n0_ := Aside0.mk (Kd.R_lower ho7 (below_size (by repeat (first | (with_reducible first | exact HB.out | apply below_alloc | apply pw_below_drewN | apply below_drew1) | exact HB.out)))); have n1_ := Aside0.mk (below_step (by repeat (first | (with_reducible first | exact HB.out | apply below_alloc | apply pw_below_drewN | apply below_drew1) | exact HB.out)) hb); clear HB; have HO := n0_; have HB := n1_; clear n0_ n1_ ho7 hb; obtain ⟨A7, c7, rfl⟩ := Kd.R_slice HO.out; simp only [List.length_replicate] at HO ⊢) | ((with_reducible refine gate_builtin (b := .copy) (xs := #[.tmp 31, .tmp 32]) rfl ?_); refine Kd.R_copy (enc := Value.int .i64) (h1 := fun _ => rfl) (0 : Int) (w0 := w) w.heap.size rfl (.tmp 31) (.tmp 32) 30 30 3 rfl Try.underlying30 hinf _ (List.replicate n (0 : Int)) ([-1] : List Int) A1 1 c1 (fun _ => True) rfl rfl ?hO ?hR ?hB ?hS ?_; (case hO => exact HO.out); (case hR => exact Kd.C_below HR1.out (by repeat (first | (with_reducible first | exact HB.out | apply below_alloc | apply pw_below_drewN | apply below_drew1) | exact HB.out))); (case hB => exact (by repeat (first | (with_reducible first | exact HB.out | apply below_alloc | apply pw_below_drewN | apply below_drew1) | exact HB.out))); (case hS => exact (below_size (by repeat (first | (with_reducible first | exact HB.out | apply below_alloc | apply pw_below_drewN | apply below_drew1) | exact HB.out)))); intro w7 ho hb hg; rw [fill0] at ho; simp only [List.length_replicate]; have n0_ := Aside0.mk ho; have n1_ := Aside0.mk hb; clear HO HB; have HO := n0_; have HB := n1_; clear n0_ n1_ ho hb hg))
  go_loopw [8] (fun v8 w' => ∃ m : Nat, v8 = .int .i64 m ∧ Aside0 (m ≤ n ∧ (0 < n → 0 < m)) ∧ Aside0 (Kd.R (Kd.int .i64) 3 w' w.heap.size (fun _ => True) (.slice A7 n c7) (fillM n m)) ∧ Aside0 (Below w.heap.size w w')) (fun v8 _ => n - (intOf v8).toNat)
  case atStart => exact ⟨min 1 n, rfl, ⟨by omega, by omega⟩, HO, HB⟩
  case round =>
    clear HB HO
    obtain ⟨m, rfl, ⟨HJ⟩, HO, HB⟩ := hrel
    by_cases hlt : m < n
    · have b1 : decide ((m : Int) < (n : Int)) = true := decide_eq_true (by omega)
      have hml : (fillM n m).length = n := fillM_len HJ.1
      obtain ⟨g, cap, e1, hge, hglt, _⟩ := Kd.R_form HO.out (by rw [hml]; omega)
      injection e1 with e1 e2 e3
      subst e1 e3
      have hpos : 1 ≤ m := by have := HJ.2; omega
      have hcap := (Kd.R_reads' HO.out).2.1
      have HLT := Lib.hid hlt
      have HPOS := Lib.hid hpos
      have HCAP := Lib.hid hcap
      have HJA := Lib.hid HJ
      have HGE := Lib.hid hge
      have p1 : 0 ≤ (m : Int) := by omega
      have p2 : (m : Int) ≤ (n : Int) := by omega
      have p3 : (m : Int) ≤ (c7 : Int) := by omega
      have p4 : m ≤ n := by omega
      have p5 : m ≤ c7 := by omega
      have p6 : ¬ c7 = m := by omega
      clear hml e2 hge hglt hpos hcap HJ hlt
      go_wp2_with fail
      refine start_ (n := 10) (S := fun _ => True) (ds := []) #[false, false, false, false, false, false, false, false, false, false] (by kernel_rfl) rfl rfl trivial (fun _ => ?_)
      have HT_ := RepTab9
      have HO2 := Aside0.mk (Kd.R_drew HO.out)
      have HB2 := Aside0.mk (below_drew1 HB.out)
      clear HO HB
      generalize wr.drew = w2 at HO2 HB2 ⊢
      refine pure_ (i := 0) (N := some 38) (v := ?_) (a' := ?_) #[true, false, false, false, false, false, false, false, false, false] rfl rfl (any_of HT_ (by kernel_rfl)) (fun _ _ _ h => h) (Or.inl ⟨by rfl, ?_⟩) ?_ ?_
      rotate_left
      · intro w'
        go_simp
        with_reducible rfl
      rotate_left
      · simp only [Act.put, List.setIfInBounds_toArray, List.set_cons_zero, List.set_cons_succ, i64_w, i32_w]
        rfl
      refine pure_ (i := 1) (N := some 39) (v := ?_) (a' := ?_) #[true, true, false, false, false, false, false, false, false, false] rfl rfl (any_of HT_ (by kernel_rfl)) (fun _ _ _ h => h) (Or.inl ⟨by rfl, ?_⟩) ?_ ?_
      rotate_left
      · intro w'
        go_simp
        with_reducible rfl
      rotate_left
      · simp only [Act.put, List.setIfInBounds_toArray, List.set_cons_zero, List.set_cons_succ, i64_w, i32_w]
        rfl
      refine pure_ (i := 2) (N := some 40) (v := ?_) (a' := ?_) #[true, true, true, false, false, false, false, false, false, false] rfl rfl (any_of HT_ (by kernel_rfl)) (fun _ _ _ h => h) (Or.inl ⟨by rfl, ?_⟩) ?_ ?_
      rotate_left
      · intro w'
        go_simp
        with_reducible rfl
      rotate_left
      · simp only [Act.put, List.setIfInBounds_toArray, List.set_cons_zero, List.set_cons_succ, i64_w, i32_w]
        rfl
      refine pure_ (i := 4) (N := some 42) (v := ?_) (a' := ?_) #[true, true, true, false, true, false, false, false, false, false] rfl rfl (any_of HT_ (by kernel_rfl)) (fun _ _ _ h => h) (Or.inl ⟨by rfl, ?_⟩) ?_ ?_
      rotate_left
      · intro w'
        go_simp
        with_reducible rfl
      rotate_left
      · simp only [Act.put, List.setIfInBounds_toArray, List.set_cons_zero, List.set_cons_succ, i64_w, i32_w]
        rfl
      refine pure_ (i := 5) (N := some 43) (v := ?_) (a' := ?_) #[true, true, true, false, true, true, false, false, false, false] rfl rfl (any_of HT_ (by kernel_rfl)) (fun _ _ _ h => h) (Or.inl ⟨by rfl, ?_⟩) ?_ ?_
      rotate_left
      · intro w'
        go_simp
        with_reducible rfl
      rotate_left
      · simp only [Act.put, List.setIfInBounds_toArray, List.set_cons_zero, List.set_cons_succ, i64_w, i32_w]
        rfl
      refine pure_ (i := 3) (N := some 41) (v := ?_) (a' := ?_) #[true, true, true, true, true, true, false, false, false, false] rfl rfl (any_of HT_ (by kernel_rfl)) (fun _ _ _ h => h) (Or.inl ⟨by rfl, ?_⟩) ?_ ?_
      rotate_left
      · intro w'
        go_simp
        with_reducible rfl
      rotate_left
      · simp only [Act.put, List.setIfInBounds_toArray, List.set_cons_zero, List.set_cons_succ, i64_w, i32_w]
        rfl
      refine pure_ (i := 6) (N := some 44) (v := ?_) (a' := ?_) #[true, true, true, true, true, true, true, false, false, false] rfl rfl (any_of HT_ (by kernel_rfl)) (fun _ _ _ h => h) (Or.inl ⟨by rfl, ?_⟩) ?_ ?_
      rotate_left
      · intro w'
        go_simp
        with_reducible rfl
      rotate_left
      · simp only [Act.put, List.setIfInBounds_toArray, List.set_cons_zero, List.set_cons_succ, i64_w, i32_w]
        rfl
      obtain ⟨w1, hr, hR, hB1⟩ := copy_at (0 : Int) (P := Try.prog) (w0 := w) (base := w.heap.size) 30 30 3 Try.underlying30 hinf HO2.out (fillM_len HJA.out.1) HPOS.out HLT.out HB2.out (below_size HB2.out)
      obtain ⟨q, hq⟩ : ∃ q, q = min m (n - m) := ⟨_, rfl⟩
      rw [← hq] at hr hR
      have hj := HJA.out.1
      have hl := HLT.out
      have hp := HPOS.out
      rw [fillM_step (by omega) (by omega)] at hR
      have HQ := Lib.hid (show 1 ≤ q ∧ m + q ≤ n by omega)
      have HO := Aside0.mk hR
      have HB := Aside0.mk hB1
      clear hq hj hl hp hR hB1 HO2 HB2
      refine one_ (i := 7) (N := some 45) #[true, true, true, true, true, true, true, true, false, false] rfl rfl (one_of HT_ (by kernel_rfl)) (by decide) (fun K hK => ?_)
      refine event_stepN (v := .int .i64 ((q : Nat) : Int)) (w1 := w1) (by rfl) rfl ?_ ?_
      · go_simp
      refine hK.out _ _ trivial (fun _ => ?_)
      clear hK K
      simp only [Act.put, List.setIfInBounds_toArray, List.set_cons_zero, List.set_cons_succ, i64_w, i32_w]
      refine pure_ (i := 8) (N := some 46) (v := ?_) (a' := ?_) #[true, true, true, true, true, true, true, true, true, false] rfl rfl (any_of HT_ (by kernel_rfl)) (fun _ _ _ h => h) (Or.inl ⟨by rfl, ?_⟩) ?_ ?_
      rotate_left
      · intro w'
        go_simp
        with_reducible rfl
      rotate_left
      · simp only [Act.put, List.setIfInBounds_toArray, List.set_cons_zero, List.set_cons_succ, i64_w, i32_w]
        rfl
      refine pure_ (i := 9) (N := some 8) (v := ?_) (a' := ?_) #[true, true, true, true, true, true, true, true, true, true] rfl rfl (any_of HT_ (by kernel_rfl)) (fun _ _ _ h => h) (Or.inl ⟨by rfl, ?_⟩) ?_ ?_
      rotate_left
      · intro w'
        go_simp
        with_reducible rfl
      rotate_left
      · simp only [Act.put, List.setIfInBounds_toArray, List.set_cons_zero, List.set_cons_succ, i64_w, i32_w]
        rfl
      refine done_ (done_of HT_ (by kernel_rfl)) ?_
      have hw : wrap64 ((m : Int) + (q : Int)) = ((m + q : Nat) : Int) := by have := HQ.out; have := HN.out; unfold wrap64; omega
      rw [hw]
      try go_wp2
      go_roundw
      case rel => exact ⟨m + q, rfl, ⟨by have := HQ.out; omega, by have := HQ.out; omega⟩, HO, HB⟩
      case measure => have := HQ.out; have := HLT.out; simp [intOf]; omega
    · have b1 : decide ((m : Int) < (n : Int)) = false := decide_eq_false (by omega)
      have hmn : m = n := by omega
      subst hmn
      rw [fillN] at HO
      go_wp2
      go_ret
      exact ⟨_, rfl, by (with_reducible repeat (first | apply Kd.R_alloc | apply Kd.R_drewN | apply Kd.R_drew)); exact HO.out, by repeat (first | (with_reducible first | exact HB.out | apply below_alloc | apply pw_below_drewN | apply below_drew1) | exact HB.out)⟩
def impl_none.f (a0 : Int) : Option (List Int) := if 0 ≤ a0 ∧ a0 ≤ 1000000 then some (List.replicate a0.toNat (-1)) else none
theorem impl_none.calls (a0 : Int) (r : List Int) (w : World) (h : impl_none.f a0 = some r) :
    Calls Try.prog 79 #[.int .i64 a0] w fun e w' => ∃ v0_ : Value, e = .returned v0_ ∧ Kd.R (Kd.int .i64) 3 w' w.heap.size (fun _ => True) v0_ r ∧ Below w.heap.size w w' := by
  unfold impl_none.f at h
  split at h
  · rename_i hc
    obtain rfl := Option.some.inj h
    obtain ⟨n, rfl⟩ := Int.eq_ofNat_of_zero_le hc.1
    simp only [Int.toNat_natCast]
    have hn : n ≤ 1000000 := by omega
    have HN := Lib.hid hn
    have HB := Aside0.mk (Below.refl w.heap.size w)
    have hC : Kd.C (Kd.int .i64) (w.alloc (.cells #[.int .i64 (-1)] 3)) (some ⟨w.heap.size, 0, none⟩) 1 [-1] := by
      refine Kd.C_of_reads (enc := Value.int .i64) (d := (0 : Int)) (h1 := fun _ => rfl) ⟨rfl, by decide, fun _ => ⟨_, rfl, fun j hj => ?_⟩⟩
      obtain rfl : j = 0 := by omega
      show (w.alloc _).cell? ⟨w.heap.size, 0, none⟩ = _
      rw [World.cell?_alloc_at _ _ _ _ rfl]
      rfl
    have HRR := Lib.hid (Repeat_any _ 1 n _ hC (Nat.le_refl _) hn)
    have hB0 : Below w.heap.size w (w.alloc (.cells #[.int .i64 (-1)] 3)) := below_alloc (Below.refl _ _) _
    have HB0 := Lib.hid hB0
    clear hc hn h hC hB0 HB
    go_enter Try.func79, Try.ntmps79
    go_wp2_with (go_at_call 147; refine HRR.out.mono ?_; rintro e w2 ⟨v, rfl, ho, hb⟩; have HO := Aside0.mk (Kd.R_lower ho HB0.out.size); have HB := Aside0.mk (below_step HB0.out hb); clear ho hb)
    go_ret
    exact ⟨_, rfl, HO.out, HB.out⟩
  · cases h



/-! ### impl_clone_int: function 126 (given) -/
open Go.Proofs.Ytonifhkplniblaa.Walk

set_option maxHeartbeats 1000000 in
set_option maxRecDepth 100000 in
theorem Clone_Int (A0 : Option Addr) (c0 : Nat) (l0 : List (Int)) (w : World) (hr0 : Kd.C (Kd.int .i64) w A0 l0.length l0) (hc0 : l0.length ≤ c0) (hlen : l0.length ≤ 1000000) :
    Calls Try.prog 159 #[.slice A0 l0.length c0] w fun e w' => ∃ v, e = .returned v ∧ Kd.R (Kd.int .i64) 3 w' w.heap.size (fun _ => True) v l0 ∧ Below w.heap.size w w' := by
  have hu := Try.underlying30
  cases A0 with
  | none =>
    have hl : l0 = [] := by
      rcases Nat.eq_zero_or_pos l0.length with h0 | h0
      · exact List.eq_nil_of_length_eq_zero h0
      · obtain ⟨ad, e, _⟩ := hr0.2.2 h0
        cases e
    subst hl
    clear hr0 hc0 hlen
    have heq := @Go.run_eql_slice_nil Try.prog w 30 3 none 0 c0 hu
    show Calls _ _ #[.slice none 0 c0] _ _
    go_enter Try.func159, Try.ntmps159
    go_wp2
    go_ret
    exact ⟨_, rfl, Kd.R_nil _ _ _ _ _, Below.refl _ _⟩
  | some ad =>
    have HR0 := Aside0.mk hr0
    have HC0 := Aside0.mk hc0
    have HLEN := Aside0.mk hlen
    have HB := Aside0.mk (Below.refl w.heap.size w)
    have heq := @Go.run_eql_slice_nil Try.prog w 30 3 (some ad) l0.length c0 hu
    clear hr0 hc0 hlen
    go_enter Try.func159, Try.ntmps159
    go_wp2_with (first | ((with_reducible refine gate_dst (N := 5) rfl ?_); refine Kd.R_lit (Kd.int .i64) _ 3 ?hg (N := 5) ?hd (xs := ([] : List (Int))) (inner := []) (ok := fun _ => True) (okp := fun _ => True) ?hr ?hp (fun _ hk => hk) trivial (Below.refl _ _) (Nat.le_refl _) (by simp) ?_; (case hd => rfl); (case hg => rfl); (case hr => first | (go_simp; done) | (go_simp; rfl)); (case hp => exact (Reps.none _ _)); intro v102 w8 ho9 hb hg_ hnew_; clear hg_ hnew_; have n0_ := Aside0.mk ho9; have n1_ := Aside0.mk (below_step (by repeat (first | (with_reducible first | exact HB.out | apply below_alloc | apply pw_below_drewN | apply below_drew1) | exact HB.out)) hb); clear HB; have HO103 := n0_; have HB := n1_; clear n0_ n1_; clear hb ho9) | ((with_reducible refine gate_builtin (b := .append) (xs := #[.tmp 5, .tmp 6]) rfl ?_); at_builtin; refine Kd.R_append_rows (Kd.int .i64) (w0 := w) w.heap.size rfl (.tmp 5) (.tmp 6) 30 3 (.int .i64 0) 8 rfl Try.underlying30 info3 rfl (by decide) (by omega) v102 [] l0 _ _ _ (fun _ => True) (fun _ => False) rfl rfl ?aO ?aR (fun _ _ h => h) (fun _ h => h.elim) ?aF ?aB ?aS ?aL ?_; (case aR => repeat (first | exact (Kd.C_below HR0.out HB.out) | (with_reducible refine Kd.C_alloc ?_ _) | (with_reducible refine Kd.C_drewN ?_ _) | (with_reducible refine Kd.C_drew ?_))); (case aB => exact (by repeat (first | (with_reducible first | exact HB.out | apply below_alloc | apply pw_below_drewN | apply below_drew1) | exact HB.out))); (case aF => exact (fun _ _ => trivial)); (case aO => exact (by (with_reducible repeat (first | apply Kd.R_alloc | apply Kd.R_drewN | apply Kd.R_drew)); exact HO103.out)); (case aS => exact (below_size (by repeat (first | (with_reducible first | exact HB.out | apply below_alloc | apply pw_below_drewN | apply below_drew1) | exact HB.out)))); (case aL => have := HLEN.out; simp; omega); intro v105 w10 ho hb hg hat; have n0_ := Aside0.mk (hb); have n1_ := Aside0.mk (ho); clear HB; clear HO103; have HB := n0_; have HO106 := n1_; clear n0_ n1_; clear ho hb hg hat))
    go_ret
    exact ⟨_, rfl, by simpa using HO106.out, HB.out⟩
set_option maxHeartbeats 1000000 in
set_option maxRecDepth 100000 in
theorem Clip_Int (A : Option Addr) (n c : Nat) (w : World) (hn : n ≤ c) (hc : c ≤ 9223372036854775807) : Calls Try.prog 158 #[.slice A n c] w fun e w' => e = .returned (.slice A n n) ∧ Drawn0 w w' := by
  have hu := Try.underlying30
  go_enter Try.func158, Try.ntmps158
  go_wp2
  go_ret
  exact ⟨rfl, by repeat (first | exact Drawn0.refl _ | apply Drawn0.step)⟩
set_option maxHeartbeats 1000000 in
set_option maxRecDepth 100000 in
theorem clone_Int (A0 : Option Addr) (c0 : Nat) (l0 : List (Int)) (w : World) (hr0 : Kd.C (Kd.int .i64) w A0 l0.length l0) (hc0 : l0.length ≤ c0) (hlen : l0.length ≤ 1000000) :
    Calls Try.prog 126 #[.slice A0 l0.length c0] w fun e w' => ∃ A cap, e = .returned (.slice A l0.length l0.length) ∧ Kd.R (Kd.int .i64) 3 w' w.heap.size (fun _ => True) (.slice A l0.length cap) l0 ∧ Below w.heap.size w w' := by
  have H := Lib.hid (Clone_Int A0 c0 l0 w hr0 hc0 hlen)
  have hmx : l0.length ≤ 9223372036854775807 := by omega
  clear hr0 hc0 hlen
  go_enter Try.func126, Try.ntmps126
  go_wp2_with (first | (go_at_call 159; refine H.out.mono ?_; rintro e w2 ⟨v, rfl, ho, hb2⟩; obtain ⟨A, cap, rfl⟩ := Kd.R_slice ho; have hcap := (Kd.R_reads' ho).2.1; have hcm := r_capmax ho; have HO := Lib.hid ho; have HB2 := Lib.hid hb2; clear ho hb2) | (go_at_call 158; refine (Clip_Int _ _ _ _ hcap hcm).mono ?_; rintro e w3 ⟨rfl, hd⟩; obtain ⟨m, rfl⟩ := hd.out; clear hd))
  go_ret
  exact ⟨A, cap, rfl, Kd.R_drewN HO.out m, pw_below_drewN HB2.out m⟩
def impl_clone_int.f (l0 : List Int) : Option (List Int) := if l0.length ≤ 1000000 then some l0 else none
theorem impl_clone_int.calls (A0 : Option Addr) (c0 : Nat) (l0 : List Int) (r : List Int) (w : World) (hr0 : Kd.C (Kd.int .i64) w A0 l0.length l0) (hc0 : l0.length ≤ c0) (h : impl_clone_int.f l0 = some r) :
    Calls Try.prog 126 #[.slice A0 l0.length c0] w fun e w' => ∃ v0_ : Value, e = .returned (v0_) ∧ Kd.RR (Kd.int .i64) 3 w' w.heap.size (fun _ => True) v0_ r ∧ Below w.heap.size w w' := by
  unfold impl_clone_int.f at h
  split at h
  · rename_i hl
    obtain rfl := Option.some.inj h
    refine (clone_Int A0 c0 l0 w hr0 hc0 hl).mono ?_
    rintro e w' ⟨A, cap, rfl, ho, hb⟩
    exact ⟨_, rfl, Kd.RR_clip ho (Nat.le_refl _), hb⟩
  · cases h



/-! ### impl_in: function 105 -/
def impl_in.f (a0 : Int) (a1 : Int) (a2 : Int) : Option (Bool) := if a0 ≥ a1 then (some (decide (a0 ≤ a2))) else (some false)
set_option maxHeartbeats 8000000 in
set_option maxRecDepth 100000 in
theorem impl_in.calls (a0 : Int) (a1 : Int) (a2 : Int) (r : Bool) (w : World) (h : impl_in.f a0 a1 a2 = some r) :
    Calls Try.prog 105 #[.int .i64 a0, .int .i64 a1, .int .i64 a2] w fun e w' => e = .returned (.bool r) ∧ Drawn0 w w' := by
  have H : (if a0 ≥ a1 then (some (decide (a0 ≤ a2))) else (some false)) = some r := h
  clear h
  by_cases c4 : a0 ≥ a1
  · rw [if_pos c4] at H
    have c4b0 : decide (a1 ≤ a0) = true := decide_eq_true c4
    clear c4
    obtain rfl := Option.some.inj H
    go_enter Try.func105, Try.ntmps105
    go_wp2
    go_ret
    exact ⟨by first | rfl | (simp; done) | (simp [*]; done) | (simp only [i64_w, i32_w]; done) | (simp [*, i64_w, i32_w]; done), by repeat (first | exact Drawn0.refl _ | apply Drawn0.step)⟩
  · rw [if_neg c4] at H
    have c4b0 : decide (a1 ≤ a0) = false := decide_eq_false c4
    clear c4
    obtain rfl := Option.some.inj H
    go_enter Try.func105, Try.ntmps105
    go_wp2
    go_ret
    exact ⟨by first | rfl | (simp; done) | (simp [*]; done) | (simp only [i64_w, i32_w]; done) | (simp [*, i64_w, i32_w]; done), by repeat (first | exact Drawn0.refl _ | apply Drawn0.step)⟩



/-! ### impl_release: function 101 -/
def impl_release.f (a0_0 : Int) (a0_1 : Int) (a0_2 : Int) (a0_3 : Int) : Option (Int) := some a0_1
set_option maxHeartbeats 8000000 in
set_option maxRecDepth 100000 in
theorem impl_release.calls (a0_0 : Int) (a0_1 : Int) (a0_2 : Int) (a0_3 : Int) (r : Int) (w : World) (h : impl_release.f a0_0 a0_1 a0_2 a0_3 = some r) :
    Calls Try.prog 101 #[.agg #[.int .i64 a0_0, .int .i64 a0_1, .int .i64 a0_2, .int .i64 a0_3]] w fun e w' => e = .returned (.int .i64 r) ∧ Below w.heap.size w w' := by
  have hu67 := Try.underlying67
  have HB := Aside0.mk (Below.refl w.heap.size w)
  have H : (some a0_1) = some r := h
  clear h
  obtain rfl := Option.some.inj H
  go_enter Try.func101, Try.ntmps101
  go_wp2_with (first | ((with_reducible refine gate_dst (N := 1) rfl ?_); refine box_event ?hg (N := 1) ?hd (cs := #[.int .i64 a0_0, .int .i64 a0_1, .int .i64 a0_2, .int .i64 a0_3]) (t := 67) ?hr ?_; (case hd => rfl); (case hg => rfl); (case hr => first | (go_simp; done) | (go_simp; rfl)); intro gb101 hg w2 hbox hb; have n0_ := Aside0.mk (below_step (by repeat (first | (with_reducible first | exact HB.out | apply below_alloc | apply pw_below_drewN | apply below_drew1) | exact HB.out)) hb); have n1_ := Aside0.mk (hbox); have n2_ := Aside0.mk ((by rw [hg]; exact (below_size (by repeat (first | (with_reducible first | exact HB.out | apply below_alloc | apply pw_below_drewN | apply below_drew1) | exact HB.out))) : w.heap.size ≤ gb101)); have n3_ := Aside0.mk ((by rw [hg]; exact (below_size (by repeat (first | (with_reducible first | exact HB.out | apply below_alloc | apply pw_below_drewN | apply below_drew1) | exact HB.out))) : w.heap.size ≤ gb101)); clear HB; have HB := n0_; have BK101 := n1_; have GW101 := n2_; have GE101 := n3_; clear n0_ n1_ n2_ n3_; clear hb hbox hg; have hcz3_0 : w2.cell? ⟨gb101, 0, none⟩ = some (.int .i64 a0_0) := (blk_cell BK101.out 0).trans rfl; have hcz3_1 : w2.cell? ⟨gb101, 1, none⟩ = some (.int .i64 a0_1) := (blk_cell BK101.out 1).trans rfl; have hcz3_2 : w2.cell? ⟨gb101, 2, none⟩ = some (.int .i64 a0_2) := (blk_cell BK101.out 2).trans rfl; have hcz3_3 : w2.cell? ⟨gb101, 3, none⟩ = some (.int .i64 a0_3) := (blk_cell BK101.out 3).trans rfl; have hfz3_0 := blk_frozen BK101.out 0; have hfz3_1 := blk_frozen BK101.out 1; have hfz3_2 := blk_frozen BK101.out 2; have hfz3_3 := blk_frozen BK101.out 3))
  go_ret
  exact ⟨by first | rfl | (simp [errW_none, errW_some] <;> rfl) | (simp [*, errW_none, errW_some] <;> rfl), by repeat (first | (with_reducible first | exact HB.out | apply below_alloc | apply pw_below_drewN | apply below_drew1 | refine below_set ?_ GE101.out) | exact HB.out)⟩



/-! ### impl_TaskValid: function 153 -/
def impl_TaskValid.f (a0_0 : Int) (a0_1 : Int) (a0_2 : Int) : Option (Bool) := (impl_in.f a0_0 1 8).bind fun t102 => (if t102 = true then ((impl_in.f a0_1 a0_0 a0_2).bind fun t103 => (if t103 = true then (some (decide (a0_2 ≤ 12))) else (some false))) else (some false))
set_option maxHeartbeats 8000000 in
set_option maxRecDepth 100000 in
theorem impl_TaskValid.calls (a0_0 : Int) (a0_1 : Int) (a0_2 : Int) (r : Bool) (w : World) (h : impl_TaskValid.f a0_0 a0_1 a0_2 = some r) :
    Calls Try.prog 153 #[.agg #[.int .i64 a0_0, .int .i64 a0_1, .int .i64 a0_2]] w fun e w' => e = .returned (.bool r) ∧ Below w.heap.size w w' := by
  have hu62 := Try.underlying62
  have HB := Aside0.mk (Below.refl w.heap.size w)
  have H : ((impl_in.f a0_0 1 8).bind fun t102 => (if t102 = true then ((impl_in.f a0_1 a0_0 a0_2).bind fun t103 => (if t103 = true then (some (decide (a0_2 ≤ 12))) else (some false))) else (some false))) = some r := h
  clear h
  replace H := Option.bind_eq_some_iff.mp H
  obtain ⟨t102, A20, H⟩ := H
  replace H : (if t102 = true then ((impl_in.f a0_1 a0_0 a0_2).bind fun t103 => (if t103 = true then (some (decide (a0_2 ≤ 12))) else (some false))) else (some false)) = some r := H
  have A2 := Aside0.mk A20
  clear A20
  by_cases c3 : t102 = true
  · subst c3
    have H1 : ((impl_in.f a0_1 a0_0 a0_2).bind fun t103 => (if t103 = true then (some (decide (a0_2 ≤ 12))) else (some false))) = some r := by rw [if_pos rfl] at H; exact H
    clear H
    have H := H1
    clear H1
    replace H := Option.bind_eq_some_iff.mp H
    obtain ⟨t103, A40, H⟩ := H
    replace H : (if t103 = true then (some (decide (a0_2 ≤ 12))) else (some false)) = some r := H
    have A4 := Aside0.mk A40
    clear A40
    by_cases c5 : t103 = true
    · subst c5
      have H1 : (some (decide (a0_2 ≤ 12))) = some r := by rw [if_pos rfl] at H; exact H
      clear H
      have H := H1
      clear H1
      obtain rfl := Option.some.inj H
      go_enter Try.func153, Try.ntmps153
      go_wp2_with (first | ((with_reducible refine gate_dst (N := 1) rfl ?_); refine box_event ?hg (N := 1) ?hd (cs := #[.int .i64 a0_0, .int .i64 a0_1, .int .i64 a0_2]) (t := 62) ?hr ?_; (case hd => rfl); (case hg => rfl); (case hr => first | (go_simp; done) | (go_simp; rfl)); intro gb101 hg w6 hbox hb; have n0_ := Aside0.mk (below_step (by repeat (first | (with_reducible first | exact HB.out | apply below_alloc | apply pw_below_drewN | apply below_drew1) | exact HB.out)) hb); have n1_ := Aside0.mk (hbox); have n2_ := Aside0.mk ((by rw [hg]; exact (below_size (by repeat (first | (with_reducible first | exact HB.out | apply below_alloc | apply pw_below_drewN | apply below_drew1) | exact HB.out))) : w.heap.size ≤ gb101)); have n3_ := Aside0.mk ((by rw [hg]; exact (below_size (by repeat (first | (with_reducible first | exact HB.out | apply below_alloc | apply pw_below_drewN | apply below_drew1) | exact HB.out))) : w.heap.size ≤ gb101)); clear HB; have HB := n0_; have BK101 := n1_; have GW101 := n2_; have GE101 := n3_; clear n0_ n1_ n2_ n3_; clear hb hbox hg; have hcz7_0 : w6.cell? ⟨gb101, 0, none⟩ = some (.int .i64 a0_0) := (blk_cell BK101.out 0).trans rfl; have hcz7_1 : w6.cell? ⟨gb101, 1, none⟩ = some (.int .i64 a0_1) := (blk_cell BK101.out 1).trans rfl; have hcz7_2 : w6.cell? ⟨gb101, 2, none⟩ = some (.int .i64 a0_2) := (blk_cell BK101.out 2).trans rfl; have hfz7_0 := blk_frozen BK101.out 0; have hfz7_1 := blk_frozen BK101.out 1; have hfz7_2 := blk_frozen BK101.out 2) | ((with_reducible refine gate_callee (f := 105) rfl ?_); refine goesL_ (some 5) rfl rfl Try.func105 (by kernel_rfl) rfl #[.int .i64 a0_0, .int .i64 1, .int .i64 8] rfl (by (try simp only [List.map_toArray, List.map_cons, List.map_nil]); first | done | rfl | (simp only [List.length_drop, List.length_take]; rfl)) ?_; (with_reducible refine (impl_in.calls a0_0 1 8 true _ A2.out).mono ?_); rintro e w' ⟨rfl, ⟨nd, rfl⟩⟩; refine ⟨_, rfl, ?_⟩) | (go_at_call 105; (with_reducible refine (impl_in.calls a0_1 a0_0 a0_2 true _ A4.out).mono ?_); rintro e w' ⟨rfl, ⟨nd, rfl⟩⟩))
      go_ret
      exact ⟨by first | rfl | (simp [errW_none, errW_some] <;> rfl) | (simp [*, errW_none, errW_some] <;> rfl), by repeat (first | (with_reducible first | exact HB.out | apply below_alloc | apply pw_below_drewN | apply below_drew1 | refine below_set ?_ GE101.out) | exact HB.out)⟩
    · replace c5 := Bool.eq_false_iff.mpr c5
      subst c5
      have H1 : (some false) = some r := by rw [if_neg (show ¬ (false = true) by decide)] at H; exact H
      clear H
      have H := H1
      clear H1
      obtain rfl := Option.some.inj H
      go_enter Try.func153, Try.ntmps153
      go_wp2_with (first | ((with_reducible refine gate_dst (N := 1) rfl ?_); refine box_event ?hg (N := 1) ?hd (cs := #[.int .i64 a0_0, .int .i64 a0_1, .int .i64 a0_2]) (t := 62) ?hr ?_; (case hd => rfl); (case hg => rfl); (case hr => first | (go_simp; done) | (go_simp; rfl)); intro gb101 hg w8 hbox hb; have n0_ := Aside0.mk (below_step (by repeat (first | (with_reducible first | exact HB.out | apply below_alloc | apply pw_below_drewN | apply below_drew1) | exact HB.out)) hb); have n1_ := Aside0.mk (hbox); have n2_ := Aside0.mk ((by rw [hg]; exact (below_size (by repeat (first | (with_reducible first | exact HB.out | apply below_alloc | apply pw_below_drewN | apply below_drew1) | exact HB.out))) : w.heap.size ≤ gb101)); have n3_ := Aside0.mk ((by rw [hg]; exact (below_size (by repeat (first | (with_reducible first | exact HB.out | apply below_alloc | apply pw_below_drewN | apply below_drew1) | exact HB.out))) : w.heap.size ≤ gb101)); clear HB; have HB := n0_; have BK101 := n1_; have GW101 := n2_; have GE101 := n3_; clear n0_ n1_ n2_ n3_; clear hb hbox hg; have hcz9_0 : w8.cell? ⟨gb101, 0, none⟩ = some (.int .i64 a0_0) := (blk_cell BK101.out 0).trans rfl; have hcz9_1 : w8.cell? ⟨gb101, 1, none⟩ = some (.int .i64 a0_1) := (blk_cell BK101.out 1).trans rfl; have hcz9_2 : w8.cell? ⟨gb101, 2, none⟩ = some (.int .i64 a0_2) := (blk_cell BK101.out 2).trans rfl; have hfz9_0 := blk_frozen BK101.out 0; have hfz9_1 := blk_frozen BK101.out 1; have hfz9_2 := blk_frozen BK101.out 2) | ((with_reducible refine gate_callee (f := 105) rfl ?_); refine goesL_ (some 5) rfl rfl Try.func105 (by kernel_rfl) rfl #[.int .i64 a0_0, .int .i64 1, .int .i64 8] rfl (by (try simp only [List.map_toArray, List.map_cons, List.map_nil]); first | done | rfl | (simp only [List.length_drop, List.length_take]; rfl)) ?_; (with_reducible refine (impl_in.calls a0_0 1 8 true _ A2.out).mono ?_); rintro e w' ⟨rfl, ⟨nd, rfl⟩⟩; refine ⟨_, rfl, ?_⟩) | (go_at_call 105; (with_reducible refine (impl_in.calls a0_1 a0_0 a0_2 false _ A4.out).mono ?_); rintro e w' ⟨rfl, ⟨nd, rfl⟩⟩))
      go_ret
      exact ⟨by first | rfl | (simp [errW_none, errW_some] <;> rfl) | (simp [*, errW_none, errW_some] <;> rfl), by repeat (first | (with_reducible first | exact HB.out | apply below_alloc | apply pw_below_drewN | apply below_drew1 | refine below_set ?_ GE101.out) | exact HB.out)⟩
  · replace c3 := Bool.eq_false_iff.mpr c3
    subst c3
    have H1 : (some false) = some r := by rw [if_neg (show ¬ (false = true) by decide)] at H; exact H
    clear H
    have H := H1
    clear H1
    obtain rfl := Option.some.inj H
    go_enter Try.func153, Try.ntmps153
    go_wp2_with (first | ((with_reducible refine gate_dst (N := 1) rfl ?_); refine box_event ?hg (N := 1) ?hd (cs := #[.int .i64 a0_0, .int .i64 a0_1, .int .i64 a0_2]) (t := 62) ?hr ?_; (case hd => rfl); (case hg => rfl); (case hr => first | (go_simp; done) | (go_simp; rfl)); intro gb101 hg w10 hbox hb; have n0_ := Aside0.mk (below_step (by repeat (first | (with_reducible first | exact HB.out | apply below_alloc | apply pw_below_drewN | apply below_drew1) | exact HB.out)) hb); have n1_ := Aside0.mk (hbox); have n2_ := Aside0.mk ((by rw [hg]; exact (below_size (by repeat (first | (with_reducible first | exact HB.out | apply below_alloc | apply pw_below_drewN | apply below_drew1) | exact HB.out))) : w.heap.size ≤ gb101)); have n3_ := Aside0.mk ((by rw [hg]; exact (below_size (by repeat (first | (with_reducible first | exact HB.out | apply below_alloc | apply pw_below_drewN | apply below_drew1) | exact HB.out))) : w.heap.size ≤ gb101)); clear HB; have HB := n0_; have BK101 := n1_; have GW101 := n2_; have GE101 := n3_; clear n0_ n1_ n2_ n3_; clear hb hbox hg; have hcz11_0 : w10.cell? ⟨gb101, 0, none⟩ = some (.int .i64 a0_0) := (blk_cell BK101.out 0).trans rfl; have hcz11_1 : w10.cell? ⟨gb101, 1, none⟩ = some (.int .i64 a0_1) := (blk_cell BK101.out 1).trans rfl; have hcz11_2 : w10.cell? ⟨gb101, 2, none⟩ = some (.int .i64 a0_2) := (blk_cell BK101.out 2).trans rfl; have hfz11_0 := blk_frozen BK101.out 0; have hfz11_1 := blk_frozen BK101.out 1; have hfz11_2 := blk_frozen BK101.out 2) | ((with_reducible refine gate_callee (f := 105) rfl ?_); refine goesL_ (some 5) rfl rfl Try.func105 (by kernel_rfl) rfl #[.int .i64 a0_0, .int .i64 1, .int .i64 8] rfl (by (try simp only [List.map_toArray, List.map_cons, List.map_nil]); first | done | rfl | (simp only [List.length_drop, List.length_take]; rfl)) ?_; (with_reducible refine (impl_in.calls a0_0 1 8 false _ A2.out).mono ?_); rintro e w' ⟨rfl, ⟨nd, rfl⟩⟩; refine ⟨_, rfl, ?_⟩))
    go_ret
    exact ⟨by first | rfl | (simp [errW_none, errW_some] <;> rfl) | (simp [*, errW_none, errW_some] <;> rfl), by repeat (first | (with_reducible first | exact HB.out | apply below_alloc | apply pw_below_drewN | apply below_drew1 | refine below_set ?_ GE101.out) | exact HB.out)⟩



/-! ### impl_SetValid_1: function 152 -/
def impl_SetValid_1.f (a0_0 : Int) (a0_1 : Int) (a0_2 : Int) : Option (Bool) := (impl_TaskValid.f a0_0 a0_1 a0_2).bind fun t102 => (some (!t102))
set_option maxHeartbeats 8000000 in
set_option maxRecDepth 100000 in
theorem impl_SetValid_1.calls (a0_0 : Int) (a0_1 : Int) (a0_2 : Int) (r : Bool) (w : World) (h : impl_SetValid_1.f a0_0 a0_1 a0_2 = some r) :
    Calls Try.prog 152 #[.agg #[.int .i64 a0_0, .int .i64 a0_1, .int .i64 a0_2]] w fun e w' => e = .returned (.bool r) ∧ Below w.heap.size w w' := by
  have hu62 := Try.underlying62
  have HB := Aside0.mk (Below.refl w.heap.size w)
  have H : ((impl_TaskValid.f a0_0 a0_1 a0_2).bind fun t102 => (some (!t102))) = some r := h
  clear h
  replace H := Option.bind_eq_some_iff.mp H
  obtain ⟨t102, A20, H⟩ := H
  replace H : (some (!t102)) = some r := H
  have A2 := Aside0.mk A20
  clear A20
  obtain rfl := Option.some.inj H
  go_enter Try.func152, Try.ntmps152
  go_wp2_with (first | ((with_reducible refine gate_dst (N := 1) rfl ?_); refine box_event ?hg (N := 1) ?hd (cs := #[.int .i64 a0_0, .int .i64 a0_1, .int .i64 a0_2]) (t := 62) ?hr ?_; (case hd => rfl); (case hg => rfl); (case hr => first | (go_simp; done) | (go_simp; rfl)); intro gb101 hg w3 hbox hb; have n0_ := Aside0.mk (below_step (by repeat (first | (with_reducible first | exact HB.out | apply below_alloc | apply pw_below_drewN | apply below_drew1) | exact HB.out)) hb); have n1_ := Aside0.mk (hbox); have n2_ := Aside0.mk ((by rw [hg]; exact (below_size (by repeat (first | (with_reducible first | exact HB.out | apply below_alloc | apply pw_below_drewN | apply below_drew1) | exact HB.out))) : w.heap.size ≤ gb101)); have n3_ := Aside0.mk ((by rw [hg]; exact (below_size (by repeat (first | (with_reducible first | exact HB.out | apply below_alloc | apply pw_below_drewN | apply below_drew1) | exact HB.out))) : w.heap.size ≤ gb101)); clear HB; have HB := n0_; have BK101 := n1_; have GW101 := n2_; have GE101 := n3_; clear n0_ n1_ n2_ n3_; clear hb hbox hg; have hcz4_0 : w3.cell? ⟨gb101, 0, none⟩ = some (.int .i64 a0_0) := (blk_cell BK101.out 0).trans rfl; have hcz4_1 : w3.cell? ⟨gb101, 1, none⟩ = some (.int .i64 a0_1) := (blk_cell BK101.out 1).trans rfl; have hcz4_2 : w3.cell? ⟨gb101, 2, none⟩ = some (.int .i64 a0_2) := (blk_cell BK101.out 2).trans rfl; have hfz4_0 := blk_frozen BK101.out 0; have hfz4_1 := blk_frozen BK101.out 1; have hfz4_2 := blk_frozen BK101.out 2) | ((with_reducible refine gate_callee (f := 153) rfl ?_); refine goesL_ (some 4) rfl rfl Try.func153 (by kernel_rfl) rfl #[.agg #[.int .i64 a0_0, .int .i64 a0_1, .int .i64 a0_2]] rfl (by (try simp only [List.map_toArray, List.map_cons, List.map_nil]); first | done | rfl | (simp only [List.length_drop, List.length_take]; rfl)) ?_; (with_reducible refine (impl_TaskValid.calls a0_0 a0_1 a0_2 t102 _ A2.out).mono ?_); rintro e w5 ⟨rfl, hb⟩; refine ⟨_, rfl, ?_⟩; have n0_ := Aside0.mk (blk_below (g := gb101) (o := .cells #[.int .i64 a0_0, .int .i64 a0_1, .int .i64 a0_2] 62 (0, 0)) (by (with_reducible repeat (first | refine blk_drewN ?_ _ | refine blk_drew ?_ | refine blk_alloc ?_ _)); exact BK101.out) hb); have n1_ := Aside0.mk (below_step (by repeat (first | (with_reducible first | exact HB.out | apply below_alloc | apply pw_below_drewN | apply below_drew1 | refine below_set ?_ GE101.out) | exact HB.out)) hb); clear BK101; clear HB; have BK101 := n0_; have HB := n1_; clear n0_ n1_; (try clear hb); (try clear hb2); (try clear hk); (try clear hi)))
  go_ret
  exact ⟨by first | rfl | (simp [errW_none, errW_some] <;> rfl) | (simp [*, errW_none, errW_some] <;> rfl), by repeat (first | (with_reducible first | exact HB.out | apply below_alloc | apply pw_below_drewN | apply below_drew1 | refine below_set ?_ GE101.out) | exact HB.out)⟩



/-! ### impl_SetValid: function 97 (given) -/
open Go.Proofs.Ytonifhkplniblaa.Walk
def okTask (x : S62) : Bool := decide (1 ≤ x.f0 ∧ x.f0 ≤ 8 ∧ x.f0 ≤ x.f1 ∧ x.f1 ≤ x.f2 ∧ x.f2 ≤ 12)
theorem impl_in_f (a b c : Int) : impl_in.f a b c = some (decide (b ≤ a ∧ a ≤ c)) := by
  unfold impl_in.f
  by_cases h : a ≥ b
  · have h' : b ≤ a := h
    simp [h, h']
  · have h' : ¬ b ≤ a := h
    simp [h, h']
theorem impl_TaskValid_f (x : S62) : impl_TaskValid.f x.f0 x.f1 x.f2 = some (okTask x) := by
  unfold impl_TaskValid.f okTask
  simp only [impl_in_f, Option.bind_some, decide_eq_true_eq]
  split
  · split
    · congr 1; rw [Bool.eq_iff_iff]; simp only [decide_eq_true_eq, Bool.false_eq_true, false_iff]; omega
    · congr 1; rw [Bool.eq_iff_iff]; simp only [decide_eq_true_eq, Bool.false_eq_true, false_iff]; omega
  · congr 1; rw [Bool.eq_iff_iff]; simp only [decide_eq_true_eq, Bool.false_eq_true, false_iff]; omega

set_option maxHeartbeats 1000000 in
set_option maxRecDepth 100000 in
theorem IndexFunc_Task (p : S62 → Bool) (f : FuncId) (cap : Array Value) (w : World) (hcl : ∀ (x : S62) (W : World), Below w.heap.size w W → Calls Try.prog f (#[.agg #[.int .i64 x.f0, .int .i64 x.f1, .int .i64 x.f2]] ++ cap) W fun e w' => e = .returned (.bool (p x)) ∧ Below W.heap.size W w')
    {fn : Func} (hf : Try.prog.funcs[f]? = some fn) (hname : (fn.name == "runtime.NumGoroutine") = false) (hb : fn.body.isSome = true)
    (A0 : Option Addr) (c0 : Nat) (l0 : List (S62)) (hr0 : Kd.C k62 w A0 l0.length l0) (hc0 : l0.length ≤ c0) :
    Calls Try.prog 169 #[.slice A0 l0.length c0, .func (.func f) #[] cap] w fun e w' => e = .returned (.int .i64 (idxOf p l0)) ∧ Below w.heap.size w w' := by
  have hu := Try.underlying62
  have HR := Aside0.mk hr0
  have HC := Aside0.mk hc0
  have HCL := Aside0.mk hcl
  have HF := Aside0.mk hf
  have HB := Aside0.mk (Below.refl w.heap.size w)
  have hmx : l0.length ≤ 9223372036854775807 := hr0.2.1
  clear hr0 hc0 hcl hf
  go_enter Try.func169, Try.ntmps169
  go_wp2
  go_loopw [8] (fun v8 w' => ∃ j : Nat, v8 = .int .i64 j ∧ Aside0 (j ≤ l0.length ∧ ∀ i, i < j → p (l0.getD i z62) = false) ∧ Aside0 (Below w.heap.size w w')) (fun v8 _ => l0.length - (intOf v8).toNat)
  case atStart => exact ⟨0, rfl, ⟨by omega, fun i hi => absurd hi (by omega)⟩, HB⟩
  case round =>
    clear HB
    obtain ⟨j, rfl, ⟨HJ⟩, HB⟩ := hrel
    by_cases hlt : j < l0.length
    · have b1 : decide ((j : Int) < (l0.length : Int)) = true := decide_eq_true (by omega)
      obtain ⟨ad, e1, hx0, hx1, hx2⟩ := at_T62 HR.out (j : Int) (by omega) (by omega)
      cases e1
      replace hx0 := (HB.out.cell (World.block_lt_of_cell? w _ hx0)).trans hx0
      replace hx1 := (HB.out.cell (World.block_lt_of_cell? w _ hx1)).trans hx1
      replace hx2 := (HB.out.cell (World.block_lt_of_cell? w _ hx2)).trans hx2
      simp only [Int.toNat_natCast] at hx0 hx1 hx2
      have hrd : rd_T62 l0 (j : Int) = l0.getD j z62 := rfl
      rw [hrd] at hx0 hx1 hx2
      clear hrd
      obtain ⟨x, hx⟩ : ∃ x, x = l0.getD j z62 := ⟨_, rfl⟩
      rw [← hx] at hx0 hx1 hx2
      have q0 : 0 ≤ (j : Int) := by omega
      have q1 : (j : Int) < (l0.length : Int) := by omega
      have HX := Aside0.mk hx
      have HJA := Aside0.mk HJ
      clear HJ hx
      obtain ⟨b, hpb⟩ : ∃ b, b = p x := ⟨_, rfl⟩
      have HP := Aside0.mk hpb
      clear hpb
      cases b with
      | true =>
        go_wp2_with (with_reducible refine gate_value (n := 11) rfl ?_; go_must (refine goesF_ (some 16) rfl rfl rfl rfl HF.out hname hb (#[.agg #[.int .i64 x.f0, .int .i64 x.f1, .int .i64 x.f2]] ++ cap) (by simp [Act.eval]) ?_; refine (HCL.out x _ HB.out).mono ?_; rw [← HP.out]; rintro e w2 ⟨rfl, hb2⟩; refine ⟨_, rfl, ?_⟩; have n0_ := Aside0.mk (below_step HB.out hb2); clear hb2 HB; have HB := n0_; clear n0_))
        go_ret
        exact ⟨by rw [idxOf_at z62 hlt HJA.out.2 (by rw [← HX.out]; exact HP.out.symm)]; rfl, HB.out⟩
      | false =>
        go_wp2_with (with_reducible refine gate_value (n := 11) rfl ?_; go_must (refine goesF_ (some 16) rfl rfl rfl rfl HF.out hname hb (#[.agg #[.int .i64 x.f0, .int .i64 x.f1, .int .i64 x.f2]] ++ cap) (by simp [Act.eval]) ?_; refine (HCL.out x _ HB.out).mono ?_; rw [← HP.out]; rintro e w2 ⟨rfl, hb2⟩; refine ⟨_, rfl, ?_⟩; have n0_ := Aside0.mk (below_step HB.out hb2); clear hb2 HB; have HB := n0_; clear n0_))
        go_roundw
        case rel =>
          refine ⟨j + 1, by go_num, ⟨by omega, fun i hi => ?_⟩, HB⟩
          by_cases hij : i = j
          · rw [hij, ← HX.out]; exact HP.out.symm
          · exact HJA.out.2 i (by omega)
        case measure => simp [intOf]; omega
    · have b1 : decide ((j : Int) < (l0.length : Int)) = false := decide_eq_false (by omega)
      have HJA := Aside0.mk HJ
      clear HJ
      go_wp2
      go_ret
      exact ⟨by rw [idxOf_none z62 (fun i hi => HJA.out.2 i (by omega))]; rfl, HB.out⟩

set_option maxHeartbeats 1000000 in
set_option maxRecDepth 100000 in
theorem ContainsFunc_Task (p : S62 → Bool) (f : FuncId) (cap : Array Value) (w : World) (hcl : ∀ (x : S62) (W : World), Below w.heap.size w W → Calls Try.prog f (#[.agg #[.int .i64 x.f0, .int .i64 x.f1, .int .i64 x.f2]] ++ cap) W fun e w' => e = .returned (.bool (p x)) ∧ Below W.heap.size W w')
    {fn : Func} (hf : Try.prog.funcs[f]? = some fn) (hname : (fn.name == "runtime.NumGoroutine") = false) (hb : fn.body.isSome = true)
    (A0 : Option Addr) (c0 : Nat) (l0 : List (S62)) (hr0 : Kd.C k62 w A0 l0.length l0) (hc0 : l0.length ≤ c0) :
    Calls Try.prog 151 #[.slice A0 l0.length c0, .func (.func f) #[] cap] w fun e w' => e = .returned (.bool (l0.any p)) ∧ Below w.heap.size w w' := by
  have H := Lib.hid (IndexFunc_Task p f cap w hcl hf hname hb A0 c0 l0 hr0 hc0)
  clear hr0 hc0 hcl hf
  go_enter Try.func151, Try.ntmps151
  go_wp2_with (go_at_call 169; refine H.out.mono ?_; rintro e w2 ⟨rfl, hb2⟩)
  go_ret
  exact ⟨by rw [← idxOf_neg]; rfl, hb2⟩
def impl_SetValid.f (l0 : List (S62)) : Option Bool := some (decide (l0.length ≤ 5) && l0.all okTask)
set_option maxHeartbeats 1000000 in
set_option maxRecDepth 100000 in
theorem impl_SetValid.calls (A0 : Option Addr) (c0 : Nat) (l0 : List (S62)) (r : Bool) (w : World) (hr0 : Kd.C k62 w A0 l0.length l0) (hc0 : l0.length ≤ c0) (h : impl_SetValid.f l0 = some r) :
    Calls Try.prog 97 #[.slice A0 l0.length c0] w fun e w' => e = .returned (.bool r) ∧ Below w.heap.size w w' := by
  obtain rfl := Option.some.inj h
  clear h
  have hcl : ∀ (x : S62) (W : World), Calls Try.prog 152 #[.agg #[.int .i64 x.f0, .int .i64 x.f1, .int .i64 x.f2]] W fun e w' => e = .returned (.bool (!okTask x)) ∧ Below W.heap.size W w' :=
    fun x W => impl_SetValid_1.calls x.f0 x.f1 x.f2 _ W (by unfold impl_SetValid_1.f; rw [impl_TaskValid_f]; rfl)
  have H := Lib.hid (ContainsFunc_Task (fun x => !okTask x) 152 #[] w (fun x W _ => hcl x W) Try.func152 (by kernel_rfl) rfl A0 c0 l0 hr0 hc0)
  clear hcl hr0 hc0
  have hany : l0.any (fun x => !okTask x) = !l0.all okTask := by rw [List.all_eq_not_any_not, Bool.not_not]
  by_cases hl : l0.length ≤ 5
  · have b1 : decide ((l0.length : Int) ≤ 5) = true := decide_eq_true (by omega)
    have HA := Lib.hid hany
    clear hany
    go_enter Try.func97, Try.ntmps97
    go_wp2_with (go_at_call 151; refine H.out.mono ?_; rintro e w2 ⟨rfl, hb2⟩)
    go_ret
    exact ⟨by rw [HA.out]; simp [hl], hb2⟩
  · have b1 : decide ((l0.length : Int) ≤ 5) = false := decide_eq_false (by omega)
    clear hany
    go_enter Try.func97, Try.ntmps97
    go_wp2
    go_ret
    exact ⟨by simp [hl], Below.refl _ _⟩



/-! ### impl_JobsLegal: function 35 (given) -/
open Go.Proofs.Ytonifhkplniblaa.Walk
/-- The set that a closure has captured. -/
def Sees (W : World) (g : Nat) (A : Option Addr) (s : List (S62)) (c : Nat) : Prop := W.cell? ⟨g, 0, none⟩ = some (.slice A s.length c) ∧ Kd.C k62 W A s.length s ∧ g < W.heap.size
theorem Sees.below {W W' : World} {g : Nat} {A : Option Addr} {s : List (S62)} {c : Nat} (h : Sees W g A s c) (hb : Below W.heap.size W W') : Sees W' g A s c := by
  obtain ⟨h1, h2, h3⟩ := h
  exact ⟨(hb.cell (World.block_lt_of_cell? W _ h1)).trans h1, Kd.C_below h2 hb, Nat.lt_of_lt_of_le h3 hb.size⟩
set_option maxHeartbeats 1000000 in
theorem JobsLegal_1 (g : Nat) (A : Option Addr) (s : List (S62)) (c : Nat) (t : Int) (h0 : 0 ≤ t) (h1 : t < s.length) (W : World) (h : Sees W g A s c) :
    Calls Try.prog 99 #[.int .i64 t, .pointer (some ⟨g, 0, none⟩)] W fun e w' => e = .returned (.int .i64 (rd_T62 s t).f0) ∧ Drawn0 W w' := by
  obtain ⟨hg, hr, _⟩ := h
  obtain ⟨ad, e1, hx0, hx1, hx2⟩ := at_T62 hr t h0 h1
  cases e1
  have hu := Try.underlying62
  clear hr
  go_enter Try.func99, Try.ntmps99
  go_wp2
  go_ret
  exact ⟨rfl, Drawn0.refl _⟩
set_option maxHeartbeats 1000000 in
theorem JobsLegal_2 (g : Nat) (A : Option Addr) (s : List (S62)) (c : Nat) (t : Int) (h0 : 0 ≤ t) (h1 : t < s.length) (W : World) (h : Sees W g A s c) :
    Calls Try.prog 102 #[.int .i64 t, .pointer (some ⟨g, 0, none⟩)] W fun e w' => e = .returned (.int .i64 (rd_T62 s t).f2) ∧ Drawn0 W w' := by
  obtain ⟨hg, hr, _⟩ := h
  obtain ⟨ad, e1, hx0, hx1, hx2⟩ := at_T62 hr t h0 h1
  cases e1
  have hu := Try.underlying62
  clear hr
  go_enter Try.func102, Try.ntmps102
  go_wp2
  go_ret
  exact ⟨rfl, Drawn0.refl _⟩
set_option maxHeartbeats 1000000 in
theorem JobsLegal_3 (g : Nat) (A : Option Addr) (s : List (S62)) (c : Nat) (x : S67) (h0 : 0 ≤ x.f0) (h1 : x.f0 < s.length) (W : World) (h : Sees W g A s c) :
    Calls Try.prog 104 #[.agg #[.int .i64 x.f0, .int .i64 x.f1, .int .i64 x.f2, .int .i64 x.f3], .pointer (some ⟨g, 0, none⟩)] W fun e w' => e = .returned (.bool (!decide (x.f2 = wrap64 (x.f1 + (rd_T62 s x.f0).f1)))) ∧ Below W.heap.size W w' := by
  obtain ⟨hg, hr, hlt⟩ := h
  obtain ⟨ad, e1, hx0, hx1, hx2⟩ := at_T62 hr x.f0 h0 h1
  cases e1
  have hu := Try.underlying62
  have huJ := Try.underlying67
  clear hr
  obtain ⟨xa, xb, xc, xd⟩ := x
  simp only at h0 h1 hx0 hx1 hx2 ⊢
  obtain ⟨y, hy⟩ : ∃ y, y = (rd_T62 s xa) := ⟨_, rfl⟩
  rw [← hy] at hx0 hx1 hx2 ⊢
  obtain ⟨ya, yb, yc⟩ := y
  simp only at hx0 hx1 hx2 ⊢
  clear hy
  have hB : Below W.heap.size W (W.alloc (.cells #[.int .i64 xa, .int .i64 xb, .int .i64 xc, .int .i64 xd] 67)) := below_alloc (Below.refl _ _) _
  have kg := (hB.cell (World.block_lt_of_cell? _ _ hg)).trans hg
  have k1 := (hB.cell (World.block_lt_of_cell? _ _ hx1)).trans hx1
  go_enter Try.func104, Try.ntmps104
  go_wp2_with fail
  go_quiet (fail)
  go_wp2
  go_ret
  exact ⟨by simp [bne, i64_w] <;> rfl, pw_below_drewN hB _⟩

theorem Sees.drewN {W : World} {g : Nat} {A : Option Addr} {s : List (S62)} {c : Nat} (h : Sees W g A s c) (n : Nat) : Sees (W.drewN n) g A s c := h.below (pw_below_drewN (Below.refl _ _) n)
theorem inq (a b c : Int) (r : Bool) (hr : decide (b ≤ a ∧ a ≤ c) = r) (W : World) : Calls Try.prog 105 #[.int .i64 a, .int .i64 b, .int .i64 c] W fun e w' => e = .returned (.bool r) ∧ ∃ m, w' = W.drewN m := by
  refine (impl_in.calls a b c r W (by rw [impl_in_f, hr])).mono ?_
  rintro e w' ⟨rfl, hd⟩
  exact ⟨rfl, hd.out⟩
def jobIn (s : List (S62)) (j : S67) : Bool := decide (0 ≤ j.f0 ∧ j.f0 ≤ (s.length : Int) - 1) && (decide (0 ≤ j.f1 ∧ j.f1 ≤ 119) && decide (1 ≤ j.f3 ∧ j.f3 ≤ (rd_T62 s j.f0).f0))
def jobBad (p j : S67) : Bool := decide (p.f1 > j.f1) || (decide (p.f1 = j.f1) && decide (p.f0 ≥ j.f0))
def ordAt (s : List (S62)) (l : List (S67)) (i : Nat) : Bool := jobIn s (l.getD i z67) && !(decide (0 < i) && jobBad (l.getD (i - 1) z67) (l.getD i z67))
def ordB (s : List (S62)) (l : List (S67)) : Bool := (List.range l.length).all (ordAt s l) && decide (l.length ≤ 60)
theorem all_no {P : Nat → Bool} {n j : Nat} (hj : j < n) (h : P j = false) : (List.range n).all P = false := by
  rw [Bool.eq_false_iff]; intro h1; rw [List.all_eq_true] at h1; have := h1 j (List.mem_range.2 hj); rw [h] at this; cases this
theorem all_yes {P : Nat → Bool} {n : Nat} (h : ∀ i, i < n → P i = true) : (List.range n).all P = true := by
  rw [List.all_eq_true]; intro i hi; exact h i (List.mem_range.1 hi)
theorem upto_step {P : Nat → Bool} {j : Nat} (h : ∀ i, i < j → P i = true) (hj : P j = true) : ∀ i, i < j + 1 → P i = true := by
  intro i hi
  rcases Nat.lt_or_ge i j with h1 | h1
  · exact h i h1
  · obtain rfl : i = j := by omega
    exact hj
set_option maxHeartbeats 4000000 in
set_option maxRecDepth 100000 in
theorem ordered_calls (g : Nat) (A : Option Addr) (s : List (S62)) (c : Nat) (A0 : Option Addr) (c0 : Nat) (l0 : List (S67)) (w : World) (hs : Sees w g A s c) (hr0 : Kd.C k67 w A0 l0.length l0) (hc0 : l0.length ≤ c0) :
    Calls Try.prog 98 #[.slice A0 l0.length c0, .int .i64 (s.length : Int), .func (.func 99) #[] #[.pointer (some ⟨g, 0, none⟩)]] w fun e w' => e = .returned (.bool (ordB s l0)) ∧ Below w.heap.size w w' := by
  have hu := Try.underlying67
  have HR0 := Aside0.mk hr0
  have HS := Aside0.mk hs
  have HB := Aside0.mk (Below.refl w.heap.size w)
  have hmx : l0.length ≤ 9223372036854775807 := hr0.2.1
  have hsx : s.length ≤ 9223372036854775807 := hs.2.1.2.1
  clear hr0 hc0 hs
  go_enter Try.func98, Try.ntmps98
  go_wp2
  go_loopw [11] (fun v11 w' => ∃ j : Nat, v11 = .int .i64 j ∧ Aside0 (j ≤ l0.length ∧ ∀ i, i < j → ordAt s l0 i = true) ∧ Aside0 (Below w.heap.size w w')) (fun v11 _ => l0.length - (intOf v11).toNat)
  case atStart => exact ⟨0, rfl, ⟨Nat.zero_le _, fun i hi => absurd hi (by omega)⟩, HB⟩
  case round =>
    clear HB
    obtain ⟨j, rfl, ⟨HJ⟩, HB⟩ := hrel
    by_cases hlt : j < l0.length
    · have b1 : decide ((j : Int) < (l0.length : Int)) = true := decide_eq_true (by omega)
      obtain ⟨ad0, e0, hy0, hy1, hy2, hy3⟩ := at_T67 HR0.out (j : Int) (by omega) (by omega)
      cases e0
      replace hy0 := (HB.out.cell (World.block_lt_of_cell? w _ hy0)).trans hy0
      replace hy1 := (HB.out.cell (World.block_lt_of_cell? w _ hy1)).trans hy1
      replace hy2 := (HB.out.cell (World.block_lt_of_cell? w _ hy2)).trans hy2
      replace hy3 := (HB.out.cell (World.block_lt_of_cell? w _ hy3)).trans hy3
      simp only [Int.toNat_natCast] at hy0 hy1 hy2 hy3
      have hrd : rd_T67 l0 (j : Int) = l0.getD j z67 := rfl
      rw [hrd] at hy0 hy1 hy2 hy3
      have q0 : 0 ≤ (j : Int) := by omega
      have q1 : (j : Int) < (l0.length : Int) := by omega
      obtain ⟨y, hy⟩ : ∃ y, y = l0.getD j z67 := ⟨_, rfl⟩
      rw [← hy] at hy0 hy1 hy2 hy3
      have HY := Lib.hid hy
      have HLT := Lib.hid hlt
      have HJJ := Lib.hid HJ
      clear hrd hy HJ
      obtain ⟨ya, yb, yc, yd⟩ := y
      have SW := Lib.hid ((HS.out.below HB.out).below (below_alloc (Below.refl _ _) (.cells #[.int .i64 ya, .int .i64 yb, .int .i64 yc, .int .i64 yd] 67)))
      have H1 := Lib.hid hlt
      by_cases a1 : 0 ≤ ya ∧ ya ≤ (s.length : Int) - 1
      · have Q1 := Lib.hid (fun W => inq ya 0 ((s.length : Int) - 1) true (decide_eq_true a1) W)
        by_cases a2 : 0 ≤ yb ∧ yb ≤ 119
        · have Q2 := Lib.hid (fun W => inq yb 0 119 true (decide_eq_true a2) W)
          obtain ⟨m, hm⟩ : ∃ m, m = (rd_T62 s ya).f0 := ⟨_, rfl⟩
          have QM : Hid (∀ W : World, Sees W g A s c → Calls Try.prog 99 #[.int .i64 ya, .pointer (some ⟨g, 0, none⟩)] W fun e w' => e = .returned (.int .i64 m) ∧ ∃ k, w' = W.drewN k) := Lib.hid (fun W hW => by
            rw [hm]
            exact (JobsLegal_1 g A s c ya a1.1 (by omega) W hW).mono (by rintro e w' ⟨rfl, hd⟩; exact ⟨rfl, hd.out⟩))
          by_cases a3 : 1 ≤ yd ∧ yd ≤ m
          · have Q3 := Lib.hid (fun W => inq yd 1 m true (decide_eq_true a3) W)
            have hji : jobIn s (l0.getD j z67) = true := by rw [← HY.out]; simp only [jobIn]; rw [← hm]; simp [a1, a2, a3]
            have HJI := Lib.hid hji
            by_cases h0 : 0 < j
            · have h0b : decide ((j : Int) > 0) = true := decide_eq_true (by omega)
              obtain ⟨p, hp⟩ : ∃ p, p = (j : Int) - 1 := ⟨_, rfl⟩
              obtain ⟨ad1, e1, hz0, hz1, hz2, hz3⟩ := at_T67 HR0.out p (by omega) (by omega)
              cases e1
              have hrd : rd_T67 l0 p = l0.getD (j - 1) z67 := by unfold rd_T67; congr 1; omega
              rw [hrd] at hz0 hz1 hz2 hz3
              have hB2 := below_step HB.out (below_alloc (Below.refl wr.heap.size wr) (.cells #[.int .i64 ya, .int .i64 yb, .int .i64 yc, .int .i64 yd] 67))
              replace hz0 := (hB2.cell (World.block_lt_of_cell? w _ hz0)).trans hz0
              replace hz1 := (hB2.cell (World.block_lt_of_cell? w _ hz1)).trans hz1
              obtain ⟨x, hx⟩ : ∃ x, x = l0.getD (j - 1) z67 := ⟨_, rfl⟩
              rw [← hx] at hz0 hz1
              have HX := Lib.hid hx
              clear hz2 hz3 hrd hx hB2 hm hji a1 a2 a3
              have hw1 : IntKind.i64.wrap ((j : Int) - 1) = p := by rw [i64_w]; unfold wrap64; omega
              have q2 : 0 ≤ p := by omega
              have q3 : p < (l0.length : Int) := by omega
              clear hp
              obtain ⟨xa, xb, xc, xd⟩ := x
              simp only at hz0 hz1
              by_cases d1 : xb > yb
              · have d1b : decide (xb > yb) = true := decide_eq_true d1
                have HO : Hid (ordAt s l0 j = false) := Lib.hid (by rw [ordAt, HJI.out, ← HY.out, ← HX.out]; simp [h0, jobBad, d1])
                go_wp2_with fail
                ((go_quiet (first | (go_at_call 105; with_reducible first | exact Calls.quiet_of (Q1.out _) | exact Calls.quiet_of (Q2.out _) | exact Calls.quiet_of (Q3.out _) | (rw [i64_w]; first | exact Calls.quiet_of (Q1.out _) | exact Calls.quiet_of (Q2.out _) | exact Calls.quiet_of (Q3.out _))) | (go_at_call 99; exact Calls.quiet_of (QM.out _ (SW.out.drewN _))))))
                go_wp2_with fail
                ((go_quiet (first | (go_at_call 105; with_reducible first | exact Calls.quiet_of (Q1.out _) | exact Calls.quiet_of (Q2.out _) | exact Calls.quiet_of (Q3.out _) | (rw [i64_w]; first | exact Calls.quiet_of (Q1.out _) | exact Calls.quiet_of (Q2.out _) | exact Calls.quiet_of (Q3.out _))) | (go_at_call 99; exact Calls.quiet_of (QM.out _ (SW.out.drewN _))))))
                go_wp2
                ((go_ret; refine ⟨by rw [show ordB s l0 = false by unfold ordB; rw [all_no HLT.out HO.out]; rfl]; rfl, by ((repeat (first | (with_reducible first | exact HB.out | apply below_alloc | apply pw_below_drewN | apply below_drew1) | exact HB.out)))⟩))
              · have d1b : decide (xb > yb) = false := decide_eq_false d1
                by_cases d2 : xb = yb
                · have d2b : (xb == yb) = true := by rw [beq_iff_eq]; exact d2
                  by_cases d3 : xa ≥ ya
                  · have d3b : decide (xa ≥ ya) = true := decide_eq_true d3
                    have HO : Hid (ordAt s l0 j = false) := Lib.hid (by rw [ordAt, HJI.out, ← HY.out, ← HX.out]; simp [h0, jobBad, d2, d3])
                    go_wp2_with fail
                    ((go_quiet (first | (go_at_call 105; with_reducible first | exact Calls.quiet_of (Q1.out _) | exact Calls.quiet_of (Q2.out _) | exact Calls.quiet_of (Q3.out _) | (rw [i64_w]; first | exact Calls.quiet_of (Q1.out _) | exact Calls.quiet_of (Q2.out _) | exact Calls.quiet_of (Q3.out _))) | (go_at_call 99; exact Calls.quiet_of (QM.out _ (SW.out.drewN _))))))
                    go_wp2_with fail
                    ((go_quiet (first | (go_at_call 105; with_reducible first | exact Calls.quiet_of (Q1.out _) | exact Calls.quiet_of (Q2.out _) | exact Calls.quiet_of (Q3.out _) | (rw [i64_w]; first | exact Calls.quiet_of (Q1.out _) | exact Calls.quiet_of (Q2.out _) | exact Calls.quiet_of (Q3.out _))) | (go_at_call 99; exact Calls.quiet_of (QM.out _ (SW.out.drewN _))))))
                    go_wp2
                    ((go_ret; refine ⟨by rw [show ordB s l0 = false by unfold ordB; rw [all_no HLT.out HO.out]; rfl]; rfl, by ((repeat (first | (with_reducible first | exact HB.out | apply below_alloc | apply pw_below_drewN | apply below_drew1) | exact HB.out)))⟩))
                  · have d3b : decide (xa ≥ ya) = false := decide_eq_false d3
                    have HO : Hid (ordAt s l0 j = true) := Lib.hid (by rw [ordAt, HJI.out, ← HY.out, ← HX.out]; simp [h0, jobBad, d1, d2, d3])
                    go_wp2_with fail
                    ((go_quiet (first | (go_at_call 105; with_reducible first | exact Calls.quiet_of (Q1.out _) | exact Calls.quiet_of (Q2.out _) | exact Calls.quiet_of (Q3.out _) | (rw [i64_w]; first | exact Calls.quiet_of (Q1.out _) | exact Calls.quiet_of (Q2.out _) | exact Calls.quiet_of (Q3.out _))) | (go_at_call 99; exact Calls.quiet_of (QM.out _ (SW.out.drewN _))))))
                    go_wp2_with fail
                    ((go_quiet (first | (go_at_call 105; with_reducible first | exact Calls.quiet_of (Q1.out _) | exact Calls.quiet_of (Q2.out _) | exact Calls.quiet_of (Q3.out _) | (rw [i64_w]; first | exact Calls.quiet_of (Q1.out _) | exact Calls.quiet_of (Q2.out _) | exact Calls.quiet_of (Q3.out _))) | (go_at_call 99; exact Calls.quiet_of (QM.out _ (SW.out.drewN _))))))
                    go_wp2
                    ((go_roundw; (case rel => exact ⟨j + 1, by go_num, ⟨by omega, upto_step HJJ.out.2 HO.out⟩, ⟨by ((repeat (first | (with_reducible first | exact HB.out | apply below_alloc | apply pw_below_drewN | apply below_drew1) | exact HB.out)))⟩⟩); (case measure => simp [intOf]; omega)))
                · have d2b : (xb == yb) = false := by rw [beq_eq_false_iff_ne]; exact d2
                  have HO : Hid (ordAt s l0 j = true) := Lib.hid (by rw [ordAt, HJI.out, ← HY.out, ← HX.out]; simp [h0, jobBad, d1, d2])
                  go_wp2_with fail
                  ((go_quiet (first | (go_at_call 105; with_reducible first | exact Calls.quiet_of (Q1.out _) | exact Calls.quiet_of (Q2.out _) | exact Calls.quiet_of (Q3.out _) | (rw [i64_w]; first | exact Calls.quiet_of (Q1.out _) | exact Calls.quiet_of (Q2.out _) | exact Calls.quiet_of (Q3.out _))) | (go_at_call 99; exact Calls.quiet_of (QM.out _ (SW.out.drewN _))))))
                  go_wp2_with fail
                  ((go_quiet (first | (go_at_call 105; with_reducible first | exact Calls.quiet_of (Q1.out _) | exact Calls.quiet_of (Q2.out _) | exact Calls.quiet_of (Q3.out _) | (rw [i64_w]; first | exact Calls.quiet_of (Q1.out _) | exact Calls.quiet_of (Q2.out _) | exact Calls.quiet_of (Q3.out _))) | (go_at_call 99; exact Calls.quiet_of (QM.out _ (SW.out.drewN _))))))
                  go_wp2
                  ((go_roundw; (case rel => exact ⟨j + 1, by go_num, ⟨by omega, upto_step HJJ.out.2 HO.out⟩, ⟨by ((repeat (first | (with_reducible first | exact HB.out | apply below_alloc | apply pw_below_drewN | apply below_drew1) | exact HB.out)))⟩⟩); (case measure => simp [intOf]; omega)))
            · have h0b : decide ((j : Int) > 0) = false := decide_eq_false (by omega)
              have HO : Hid (ordAt s l0 j = true) := Lib.hid (by rw [ordAt, HJI.out]; simp [h0])
              clear hm hji a1 a2 a3
              go_wp2_with fail
              ((go_quiet (first | (go_at_call 105; with_reducible first | exact Calls.quiet_of (Q1.out _) | exact Calls.quiet_of (Q2.out _) | exact Calls.quiet_of (Q3.out _) | (rw [i64_w]; first | exact Calls.quiet_of (Q1.out _) | exact Calls.quiet_of (Q2.out _) | exact Calls.quiet_of (Q3.out _))) | (go_at_call 99; exact Calls.quiet_of (QM.out _ (SW.out.drewN _))))))
              go_wp2_with fail
              ((go_quiet (first | (go_at_call 105; with_reducible first | exact Calls.quiet_of (Q1.out _) | exact Calls.quiet_of (Q2.out _) | exact Calls.quiet_of (Q3.out _) | (rw [i64_w]; first | exact Calls.quiet_of (Q1.out _) | exact Calls.quiet_of (Q2.out _) | exact Calls.quiet_of (Q3.out _))) | (go_at_call 99; exact Calls.quiet_of (QM.out _ (SW.out.drewN _))))))
              go_wp2
              ((go_roundw; (case rel => exact ⟨j + 1, by go_num, ⟨by omega, upto_step HJJ.out.2 HO.out⟩, ⟨by ((repeat (first | (with_reducible first | exact HB.out | apply below_alloc | apply pw_below_drewN | apply below_drew1) | exact HB.out)))⟩⟩); (case measure => simp [intOf]; omega)))
          · have Q3 := Lib.hid (fun W => inq yd 1 m false (decide_eq_false a3) W)
            have HO : Hid (ordAt s l0 j = false) := Lib.hid (by rw [ordAt, ← HY.out]; simp only [jobIn]; rw [← hm]; simp [a3])
            clear hm a1 a2 a3
            go_wp2_with fail
            ((go_quiet (first | (go_at_call 105; with_reducible first | exact Calls.quiet_of (Q1.out _) | exact Calls.quiet_of (Q2.out _) | exact Calls.quiet_of (Q3.out _) | (rw [i64_w]; first | exact Calls.quiet_of (Q1.out _) | exact Calls.quiet_of (Q2.out _) | exact Calls.quiet_of (Q3.out _))) | (go_at_call 99; exact Calls.quiet_of (QM.out _ (SW.out.drewN _))))))
            go_wp2
            ((go_ret; refine ⟨by rw [show ordB s l0 = false by unfold ordB; rw [all_no HLT.out HO.out]; rfl]; rfl, by ((repeat (first | (with_reducible first | exact HB.out | apply below_alloc | apply pw_below_drewN | apply below_drew1) | exact HB.out)))⟩))
        · have Q2 := Lib.hid (fun W => inq yb 0 119 false (decide_eq_false a2) W)
          have HO : Hid (ordAt s l0 j = false) := Lib.hid (by rw [ordAt, ← HY.out]; simp [jobIn, a2])
          clear a1 a2
          go_wp2_with fail
          ((go_quiet (first | (go_at_call 105; with_reducible first | exact Calls.quiet_of (Q1.out _) | exact Calls.quiet_of (Q2.out _) | exact Calls.quiet_of (Q3.out _) | (rw [i64_w]; first | exact Calls.quiet_of (Q1.out _) | exact Calls.quiet_of (Q2.out _) | exact Calls.quiet_of (Q3.out _))) | (go_at_call 99; exact Calls.quiet_of (QM.out _ (SW.out.drewN _))))))
          go_wp2
          ((go_ret; refine ⟨by rw [show ordB s l0 = false by unfold ordB; rw [all_no HLT.out HO.out]; rfl]; rfl, by ((repeat (first | (with_reducible first | exact HB.out | apply below_alloc | apply pw_below_drewN | apply below_drew1) | exact HB.out)))⟩))
      · have Q1 := Lib.hid (fun W => inq ya 0 ((s.length : Int) - 1) false (decide_eq_false a1) W)
        have HO : Hid (ordAt s l0 j = false) := Lib.hid (by rw [ordAt, ← HY.out]; simp [jobIn, a1])
        clear a1
        go_wp2_with fail
        ((go_quiet (first | (go_at_call 105; with_reducible first | exact Calls.quiet_of (Q1.out _) | exact Calls.quiet_of (Q2.out _) | exact Calls.quiet_of (Q3.out _) | (rw [i64_w]; first | exact Calls.quiet_of (Q1.out _) | exact Calls.quiet_of (Q2.out _) | exact Calls.quiet_of (Q3.out _))) | (go_at_call 99; exact Calls.quiet_of (QM.out _ (SW.out.drewN _))))))
        go_wp2
        ((go_ret; refine ⟨by rw [show ordB s l0 = false by unfold ordB; rw [all_no HLT.out HO.out]; rfl]; rfl, by ((repeat (first | (with_reducible first | exact HB.out | apply below_alloc | apply pw_below_drewN | apply below_drew1) | exact HB.out)))⟩))
    · have b1 : decide ((j : Int) < (l0.length : Int)) = false := decide_eq_false (by omega)
      have HJA := Aside0.mk HJ
      have hje : j = l0.length := by omega
      subst hje
      clear HJ
      by_cases d1 : l0.length ≤ 60
      · have d1b : decide ((l0.length : Int) ≤ 60) = true := decide_eq_true (by omega)
        go_wp2
        go_ret
        exact ⟨by unfold ordB; rw [all_yes HJA.out.2, decide_eq_true d1]; rfl, HB.out⟩
      · have d1b : decide ((l0.length : Int) ≤ 60) = false := decide_eq_false (by omega)
        go_wp2
        go_ret
        exact ⟨by unfold ordB; rw [all_yes HJA.out.2, decide_eq_false d1]; rfl, HB.out⟩

open Go.Proofs.Ytonifhkplniblaa.Walk Go.Maps
theorem key3 : Keyed Try.prog 3 := int_keyed Try.underlying3
theorem zero3 (w : World) : (zeroValue 3).run Try.prog w = .ok (.int .i64 0) w := by kernel_rfl
theorem wf_small {t : Int} (h0 : 0 ≤ t) (h1 : t ≤ 9223372036854775807) : (Lit.int .i64 t).wf = true := by simp [Lit.wf, IntKind.min, IntKind.max, IntKind.signed, IntKind.bits]; omega
/-- When the last of the first jobs of a task came. -/
def lastT (l : List (S67)) : Nat → Int → Option Int
  | 0, _ => none
  | i + 1, t => if (l.getD i z67).f0 = t then some (l.getD i z67).f1 else lastT l i t
def spcAt (s : List (S62)) (l : List (S67)) (i : Nat) : Bool :=
  match lastT l i (l.getD i z67).f0 with
  | none => true
  | some b => !decide ((l.getD i z67).f1 - b < (rd_T62 s (l.getD i z67).f0).f2)
theorem lastT_in {l : List (S67)} {n : Nat} (hin : ∀ i, i < n → 0 ≤ (l.getD i z67).f1 ∧ (l.getD i z67).f1 ≤ 119) : ∀ i, i ≤ n → ∀ t b, lastT l i t = some b → 0 ≤ b ∧ b ≤ 119
  | 0, _, _, _, h => by cases h
  | i + 1, hi, t, b, h => by
    unfold lastT at h
    split at h
    · injection h with h; rw [← h]; exact hin i (by omega)
    · exact lastT_in hin i (by omega) t b h
/-- What the map holds behind the first jobs. -/
def MapSays (l : List (S67)) (j : Nat) (D : DataW Unit) : Prop := ∀ t, 0 ≤ t → t ≤ 9223372036854775807 → match lastT l j t with
  | none => has D (.int .i64 t) = false
  | some b => has D (.int .i64 t) = true ∧ D.atKey (.int .i64 t) (.lit (.int .i64 0)) = .lit (.int .i64 b)
theorem MapSays.zero (l : List (S67)) : MapSays l 0 (.map []) := fun t _ _ => rfl
theorem MapSays.put {l : List (S67)} {j : Nat} {D : DataW Unit} (h : MapSays l j D) (hD : IsMap D) {y : S67} (hy : y = l.getD j z67) : MapSays l (j + 1) (D.put (.int .i64 y.f0) (.lit (.int .i64 y.f1))) := by
  intro t h0 h1
  unfold lastT
  rw [← hy]
  by_cases e : y.f0 = t
  · rw [if_pos e]
    simp only
    rw [e]
    exact ⟨has_put_same hD (by trivial) _, atKey_put_same hD (by trivial) _ _⟩
  · rw [if_neg e]
    have hne : (Lit.int .i64 t) ≠ (Lit.int .i64 y.f0) := by intro h2; injection h2 with _ h3; exact e h3.symm
    have := h t h0 h1
    split
    · rename_i h2
      rw [h2] at this
      rw [has_put_other hne]
      exact this
    · rename_i b h2
      rw [h2] at this
      rw [has_put_other hne, atKey_put_other hne]
      exact this
theorem ownsMap_below {w w' : World} {P : Program} {k : TypeId} {R : Value → Option (DataW Unit × List MemPlace)} {b n : Nat} {D : DataW Unit} (h : w.ownsMap P k R b n D) (hb : Below w.heap.size w w') : w'.ownsMap P k R b n D := by
  have hlt := h.lt
  obtain ⟨es, clock, h1, h2⟩ := h
  exact ⟨es, clock, (hb.block b hlt).trans h1, h2⟩
theorem look_known {P : Program} (w : World) {ops : Array Oper} {rest : List Oper} {o : Oper} {a : Act} {Q : Exit → Act → World → Prop} (hg : o.guard = none) (m x : Operand) (t : TypeId) (hop : o.op = Op.lookup t m x true)
    (k e : TypeId) (K : Keyed P k) (ht : P.underlying t = some (.map k e)) (he : P.underlying e = some (.int .i64)) (hz : (zeroValue e).run P w = .ok (.int .i64 0) w) (b n : Nat) (D : DataW Unit)
    (hm : a.eval m = .map (some b)) (hown : w.ownsMap P k (plainElem P e) b n D) (key : Value) (kl : Lit) (hx : a.eval x = key) (hkey : keyOf P k key = some kl) {c : Int} {r : Bool}
    (hat : D.atKey kl (.lit (.int .i64 0)) = .lit (.int .i64 c)) (hh : has D kl = r) (hK : wpList P ops Q rest (a.put o.dst (.tuple #[.int .i64 c, .bool r])) w) :
    wpList P ops Q (o :: rest) a w :=
  wpList_lookup_own_ok_int w hg m x t hop k e .i64 K ht he hz b n D hm hown key kl hx hkey (fun c' h1 _ => by
    rw [hat] at h1
    injection h1 with h1
    injection h1 with _ h1
    subst h1
    rw [hh]
    exact hK)
set_option maxHeartbeats 4000000 in
set_option maxRecDepth 100000 in
theorem spaced_calls (g : Nat) (A : Option Addr) (s : List (S62)) (c : Nat) (A0 : Option Addr) (c0 : Nat) (l0 : List (S67)) (w : World) (hs : Sees w g A s c) (hr0 : Kd.C k67 w A0 l0.length l0) (hc0 : l0.length ≤ c0)
    (hin : ∀ i, i < l0.length → 0 ≤ (l0.getD i z67).f0 ∧ (l0.getD i z67).f0 < s.length) (hrl : ∀ i, i < l0.length → 0 ≤ (l0.getD i z67).f1 ∧ (l0.getD i z67).f1 ≤ 119) (hlen : l0.length ≤ 60) :
    Calls Try.prog 100 #[.slice A0 l0.length c0, .func (.func 101) #[] #[], .func (.func 102) #[] #[.pointer (some ⟨g, 0, none⟩)]] w fun e w' => e = .returned (.bool ((List.range l0.length).all (spcAt s l0))) ∧ Below w.heap.size w w' := by
  have hu := Try.underlying67
  have hmm := @run_makeMap Try.prog
  have HR0 := Aside0.mk hr0
  have HS := Aside0.mk hs
  have HIN := Aside0.mk hin
  have HRL := Aside0.mk hrl
  have HB := Aside0.mk (Below.refl w.heap.size w)
  have hsx : s.length ≤ 9223372036854775807 := hs.2.1.2.1
  clear hr0 hc0 hs hin hrl
  go_enter Try.func100, Try.ntmps100
  go_wp2
  go_loopw [16] (fun v16 w' => ∃ j : Nat, v16 = .int .i64 j ∧ Aside0 (j ≤ l0.length ∧ ∀ i, i < j → spcAt s l0 i = true) ∧ (∃ D, w'.ownsMap Try.prog 3 (plainElem Try.prog 3) w.heap.size j D ∧ MapSays l0 j D) ∧ Aside0 (Below w.heap.size w w')) (fun v16 _ => l0.length - (intOf v16).toNat)
  case atStart => exact ⟨0, rfl, ⟨Nat.zero_le _, fun i hi => absurd hi (by omega)⟩, ⟨_, World.ownsMap_made _ _ _ _, MapSays.zero l0⟩, ⟨by ((repeat (first | (with_reducible first | exact HB.out | apply below_alloc | apply pw_below_drewN | apply below_drew1) | exact HB.out)))⟩⟩
  case round =>
    clear HB
    obtain ⟨j, rfl, ⟨HJ⟩, ⟨D, hown, hms⟩, HB⟩ := hrel
    by_cases hlt : j < l0.length
    · have b1 : decide ((j : Int) < (l0.length : Int)) = true := decide_eq_true (by omega)
      obtain ⟨ad0, e0, hy0, hy1, hy2, hy3⟩ := at_T67 HR0.out (j : Int) (by omega) (by omega)
      cases e0
      replace hy0 := (HB.out.cell (World.block_lt_of_cell? w _ hy0)).trans hy0
      replace hy1 := (HB.out.cell (World.block_lt_of_cell? w _ hy1)).trans hy1
      replace hy2 := (HB.out.cell (World.block_lt_of_cell? w _ hy2)).trans hy2
      replace hy3 := (HB.out.cell (World.block_lt_of_cell? w _ hy3)).trans hy3
      simp only [Int.toNat_natCast] at hy0 hy1 hy2 hy3
      have hrd : rd_T67 l0 (j : Int) = l0.getD j z67 := rfl
      rw [hrd] at hy0 hy1 hy2 hy3
      have q0 : 0 ≤ (j : Int) := by omega
      have q1 : (j : Int) < (l0.length : Int) := by omega
      have hi := HIN.out j hlt
      have hr := HRL.out j hlt
      have hl := lastT_in HRL.out j (by omega) (l0.getD j z67).f0
      obtain ⟨y, hy⟩ : ∃ y, y = l0.getD j z67 := ⟨_, rfl⟩
      have hsa : spcAt s l0 j = match lastT l0 j y.f0 with | none => true | some b => !decide (y.f1 - b < (rd_T62 s y.f0).f2) := by rw [hy]; rfl
      rw [← hy] at hy0 hy1 hy2 hy3 hi hr hl
      have HY := Lib.hid hy
      have HJJ := Lib.hid HJ
      have HM := Lib.hid hms
      have HO0 := Lib.hid hown.isMap
      have HO := Aside0.mk hown
      have hsay := hms y.f0 hi.1 (by omega)
      clear hrd hy HJ hown hms
      obtain ⟨ya, yb, yc, yd⟩ := y
      simp only at hi hr hl hsa hsay
      obtain ⟨hi1, hi2⟩ := hi
      obtain ⟨hr1, hr2⟩ := hr
      have HKEY : Hid (keyOf Try.prog 3 (.int .i64 ya) = some (.int .i64 ya)) := Lib.hid (keyOf_int_mk Try.underlying3 (wf_small hi1 (by omega)))
      have HWF : Hid ((Lit.int .i64 yb).wf = true) := Lib.hid (wf_small hr1 (by omega))
      have HREL := Lib.hid (fun W => impl_release.calls ya yb yc yd yb W rfl)
      have hk0 : (wr.alloc (.cells #[.int .i64 ya, .int .i64 yb, .int .i64 yc, .int .i64 yd] 67)).cell? ⟨wr.heap.size, 0, none⟩ = some (.int .i64 ya) := by rw [World.cell?_alloc_at _ _ _ _ rfl]; rfl
      cases hlt2 : lastT l0 j ya with
      | none =>
        rw [hlt2] at hsa hsay
        have HOK := Lib.hid hsa
        have HAT := Lib.hid (atKey_of_not_has hsay (.lit (.int .i64 0)))
        have HHAS := Lib.hid hsay
        clear hsa hsay hl hlt2
        go_wp2_with (first | ((go_at_call 101; refine (HREL.out _).mono ?_; rintro e w2 ⟨rfl, hb2⟩; have n0_ := Aside0.mk (below_step (below_alloc HB.out _) hb2); have n1_ := Aside0.mk (ownsMap_below (HO.out.alloc _) hb2); have k0 := (hb2.cell (World.block_lt_of_cell? _ _ hk0)).trans hk0; clear HB HO hk0 hb2; have HB := n0_; have HO := n1_; clear n0_ n1_)) | (at_lookup; refine look_known _ rfl _ _ 181 rfl 3 3 key3 Try.underlying181 Try.underlying3 (zero3 _) w.heap.size j D rfl HO.out _ _ rfl HKEY.out HAT.out HHAS.out ?_) | ((at_mapUpdate; refine wpList_mapUpdate_own _ rfl _ _ _ 181 rfl 3 3 key3 Try.underlying181 _ w.heap.size j _ rfl HO.out (by unfold maxLen; omega) _ _ _ rfl rfl HKEY.out _ [] (plainElem_int Try.underlying3 HWF.out) ?_; intro w9 hown1 hgrow1; have n0_ := Aside0.mk (HB.out.grown hgrow1 HB.out.size (fun k hk => by cases hk; exact Nat.le_refl _)); have n1_ := Aside0.mk hown1; clear HB HO hown1 hgrow1 k0; have HB := n0_; have HO := n1_; clear n0_ n1_)))
        ((go_roundw; (case rel => exact ⟨j + 1, by go_num, ⟨by omega, upto_step HJJ.out.2 HOK.out⟩, ⟨_, HO.out, HM.out.put HO0.out HY.out⟩, ⟨by ((repeat (first | (with_reducible first | exact HB.out | apply below_alloc | apply pw_below_drewN | apply below_drew1) | exact HB.out)))⟩⟩); (case measure => simp [intOf]; omega)))
      | some b =>
        rw [hlt2] at hsa hsay
        have hb := hl b hlt2
        obtain ⟨hb1, hb2⟩ := hb
        have HAT := Lib.hid hsay.2
        have HHAS := Lib.hid hsay.1
        obtain ⟨m, hm⟩ : ∃ m, m = (rd_T62 s ya).f2 := ⟨_, rfl⟩
        simp only at hsa
        rw [← hm] at hsa
        have QM : Hid (∀ W : World, Sees W g A s c → Calls Try.prog 102 #[.int .i64 ya, .pointer (some ⟨g, 0, none⟩)] W fun e w' => e = .returned (.int .i64 m) ∧ ∃ k, w' = W.drewN k) := Lib.hid (fun W hW => by
          rw [hm]
          exact (JobsLegal_2 g A s c ya hi1 hi2 W hW).mono (by rintro e w' ⟨rfl, hd⟩; exact ⟨rfl, hd.out⟩))
        clear hsay hl hlt2 hm
        by_cases hbad : yb - b < m
        · have hbb : decide (yb - b < m) = true := decide_eq_true hbad
          rw [hbb] at hsa
          have HOK := Lib.hid hsa
          clear hsa hbad
          go_wp2_with (first | ((go_at_call 101; refine (HREL.out _).mono ?_; rintro e w2 ⟨rfl, hb2⟩; have n0_ := Aside0.mk (below_step (below_alloc HB.out _) hb2); have n1_ := Aside0.mk (ownsMap_below (HO.out.alloc _) hb2); have k0 := (hb2.cell (World.block_lt_of_cell? _ _ hk0)).trans hk0; clear HB HO hk0 hb2; have HB := n0_; have HO := n1_; clear n0_ n1_)) | (at_lookup; refine look_known _ rfl _ _ 181 rfl 3 3 key3 Try.underlying181 Try.underlying3 (zero3 _) w.heap.size j D rfl HO.out _ _ rfl HKEY.out HAT.out HHAS.out ?_) | (go_at_call 102; refine (QM.out _ (HS.out.below HB.out)).mono ?_; rintro e w3 ⟨rfl, m3, rfl⟩; have n0_ := Aside0.mk (pw_below_drewN HB.out m3); have n1_ := Aside0.mk (ownsMap_below HO.out (pw_below_drewN (Below.refl _ _) m3)); clear HB HO; have HB := n0_; have HO := n1_; clear n0_ n1_) | ((at_mapUpdate; refine wpList_mapUpdate_own _ rfl _ _ _ 181 rfl 3 3 key3 Try.underlying181 _ w.heap.size j _ rfl HO.out (by unfold maxLen; omega) _ _ _ rfl rfl HKEY.out _ [] (plainElem_int Try.underlying3 HWF.out) ?_; intro w9 hown1 hgrow1; have n0_ := Aside0.mk (HB.out.grown hgrow1 HB.out.size (fun k hk => by cases hk; exact Nat.le_refl _)); have n1_ := Aside0.mk hown1; clear HB HO hown1 hgrow1 k0; have HB := n0_; have HO := n1_; clear n0_ n1_)))
          go_ret
          exact ⟨by rw [all_no hlt HOK.out]; rfl, by ((repeat (first | (with_reducible first | exact HB.out | apply below_alloc | apply pw_below_drewN | apply below_drew1) | exact HB.out)))⟩
        · have hbb : decide (yb - b < m) = false := decide_eq_false hbad
          rw [hbb] at hsa
          have HOK := Lib.hid hsa
          clear hsa hbad
          go_wp2_with (first | ((go_at_call 101; refine (HREL.out _).mono ?_; rintro e w2 ⟨rfl, hb2⟩; have n0_ := Aside0.mk (below_step (below_alloc HB.out _) hb2); have n1_ := Aside0.mk (ownsMap_below (HO.out.alloc _) hb2); have k0 := (hb2.cell (World.block_lt_of_cell? _ _ hk0)).trans hk0; clear HB HO hk0 hb2; have HB := n0_; have HO := n1_; clear n0_ n1_)) | (at_lookup; refine look_known _ rfl _ _ 181 rfl 3 3 key3 Try.underlying181 Try.underlying3 (zero3 _) w.heap.size j D rfl HO.out _ _ rfl HKEY.out HAT.out HHAS.out ?_) | (go_at_call 102; refine (QM.out _ (HS.out.below HB.out)).mono ?_; rintro e w3 ⟨rfl, m3, rfl⟩; have n0_ := Aside0.mk (pw_below_drewN HB.out m3); have n1_ := Aside0.mk (ownsMap_below HO.out (pw_below_drewN (Below.refl _ _) m3)); clear HB HO; have HB := n0_; have HO := n1_; clear n0_ n1_) | ((at_mapUpdate; refine wpList_mapUpdate_own _ rfl _ _ _ 181 rfl 3 3 key3 Try.underlying181 _ w.heap.size j _ rfl HO.out (by unfold maxLen; omega) _ _ _ rfl rfl HKEY.out _ [] (plainElem_int Try.underlying3 HWF.out) ?_; intro w9 hown1 hgrow1; have n0_ := Aside0.mk (HB.out.grown hgrow1 HB.out.size (fun k hk => by cases hk; exact Nat.le_refl _)); have n1_ := Aside0.mk hown1; clear HB HO hown1 hgrow1 k0; have HB := n0_; have HO := n1_; clear n0_ n1_)))
          ((go_roundw; (case rel => exact ⟨j + 1, by go_num, ⟨by omega, upto_step HJJ.out.2 HOK.out⟩, ⟨_, HO.out, HM.out.put HO0.out HY.out⟩, ⟨by ((repeat (first | (with_reducible first | exact HB.out | apply below_alloc | apply pw_below_drewN | apply below_drew1) | exact HB.out)))⟩⟩); (case measure => simp [intOf]; omega)))
    · have b1 : decide ((j : Int) < (l0.length : Int)) = false := decide_eq_false (by omega)
      have HJA := Aside0.mk HJ
      have hje : j = l0.length := by omega
      subst hje
      clear HJ
      go_wp2
      go_ret
      exact ⟨by rw [all_yes HJA.out.2]; rfl, HB.out⟩

open Go.Proofs.Ytonifhkplniblaa.Walk Go.Maps
theorem getD_mem_Job {l : List (S67)} {j : Nat} (h : j < l.length) : l.getD j z67 ∈ l := by
  rw [List.getD_eq_getElem?_getD, List.getElem?_eq_getElem h]
  exact List.getElem_mem h

set_option maxHeartbeats 1000000 in
set_option maxRecDepth 100000 in
theorem IndexFunc_Job (p : S67 → Bool) (f : FuncId) (cap : Array Value) (w : World) (l0 : List (S67)) (hcl : ∀ (x : S67) (W : World), x ∈ l0 → Below w.heap.size w W → Calls Try.prog f (#[.agg #[.int .i64 x.f0, .int .i64 x.f1, .int .i64 x.f2, .int .i64 x.f3]] ++ cap) W fun e w' => e = .returned (.bool (p x)) ∧ Below W.heap.size W w')
    {fn : Func} (hf : Try.prog.funcs[f]? = some fn) (hname : (fn.name == "runtime.NumGoroutine") = false) (hb : fn.body.isSome = true)
    (A0 : Option Addr) (c0 : Nat) (hr0 : Kd.C k67 w A0 l0.length l0) (hc0 : l0.length ≤ c0) :
    Calls Try.prog 154 #[.slice A0 l0.length c0, .func (.func f) #[] cap] w fun e w' => e = .returned (.int .i64 (idxOf p l0)) ∧ Below w.heap.size w w' := by
  have hu := Try.underlying67
  have HR := Aside0.mk hr0
  have HC := Aside0.mk hc0
  have HCL := Aside0.mk hcl
  have HF := Aside0.mk hf
  have HB := Aside0.mk (Below.refl w.heap.size w)
  have hmx : l0.length ≤ 9223372036854775807 := hr0.2.1
  clear hr0 hc0 hcl hf
  go_enter Try.func154, Try.ntmps154
  go_wp2
  go_loopw [8] (fun v8 w' => ∃ j : Nat, v8 = .int .i64 j ∧ Aside0 (j ≤ l0.length ∧ ∀ i, i < j → p (l0.getD i z67) = false) ∧ Aside0 (Below w.heap.size w w')) (fun v8 _ => l0.length - (intOf v8).toNat)
  case atStart => exact ⟨0, rfl, ⟨by omega, fun i hi => absurd hi (by omega)⟩, HB⟩
  case round =>
    clear HB
    obtain ⟨j, rfl, ⟨HJ⟩, HB⟩ := hrel
    by_cases hlt : j < l0.length
    · have b1 : decide ((j : Int) < (l0.length : Int)) = true := decide_eq_true (by omega)
      obtain ⟨ad, e1, hx0, hx1, hx2, hx3⟩ := at_T67 HR.out (j : Int) (by omega) (by omega)
      cases e1
      replace hx0 := (HB.out.cell (World.block_lt_of_cell? w _ hx0)).trans hx0
      replace hx1 := (HB.out.cell (World.block_lt_of_cell? w _ hx1)).trans hx1
      replace hx2 := (HB.out.cell (World.block_lt_of_cell? w _ hx2)).trans hx2
      replace hx3 := (HB.out.cell (World.block_lt_of_cell? w _ hx3)).trans hx3
      simp only [Int.toNat_natCast] at hx0 hx1 hx2 hx3
      have hrd : rd_T67 l0 (j : Int) = l0.getD j z67 := rfl
      rw [hrd] at hx0 hx1 hx2 hx3
      clear hrd
      obtain ⟨x, hx⟩ : ∃ x, x = l0.getD j z67 := ⟨_, rfl⟩
      rw [← hx] at hx0 hx1 hx2 hx3
      have q0 : 0 ≤ (j : Int) := by omega
      have q1 : (j : Int) < (l0.length : Int) := by omega
      have HX := Aside0.mk hx
      have HJA := Aside0.mk HJ
      clear HJ hx
      obtain ⟨b, hpb⟩ : ∃ b, b = p x := ⟨_, rfl⟩
      have HP := Aside0.mk hpb
      clear hpb
      cases b with
      | true =>
        go_wp2_with (with_reducible refine gate_value (n := 11) rfl ?_; go_must (refine goesF_ (some 16) rfl rfl rfl rfl HF.out hname hb (#[.agg #[.int .i64 x.f0, .int .i64 x.f1, .int .i64 x.f2, .int .i64 x.f3]] ++ cap) (by simp [Act.eval]) ?_; refine (HCL.out x _ (by rw [HX.out]; exact getD_mem_Job hlt) HB.out).mono ?_; rw [← HP.out]; rintro e w2 ⟨rfl, hb2⟩; refine ⟨_, rfl, ?_⟩; have n0_ := Aside0.mk (below_step HB.out hb2); clear hb2 HB; have HB := n0_; clear n0_))
        go_ret
        exact ⟨by rw [idxOf_at z67 hlt HJA.out.2 (by rw [← HX.out]; exact HP.out.symm)]; rfl, HB.out⟩
      | false =>
        go_wp2_with (with_reducible refine gate_value (n := 11) rfl ?_; go_must (refine goesF_ (some 16) rfl rfl rfl rfl HF.out hname hb (#[.agg #[.int .i64 x.f0, .int .i64 x.f1, .int .i64 x.f2, .int .i64 x.f3]] ++ cap) (by simp [Act.eval]) ?_; refine (HCL.out x _ (by rw [HX.out]; exact getD_mem_Job hlt) HB.out).mono ?_; rw [← HP.out]; rintro e w2 ⟨rfl, hb2⟩; refine ⟨_, rfl, ?_⟩; have n0_ := Aside0.mk (below_step HB.out hb2); clear hb2 HB; have HB := n0_; clear n0_))
        go_roundw
        case rel =>
          refine ⟨j + 1, by go_num, ⟨by omega, fun i hi => ?_⟩, HB⟩
          by_cases hij : i = j
          · rw [hij, ← HX.out]; exact HP.out.symm
          · exact HJA.out.2 i (by omega)
        case measure => simp [intOf]; omega
    · have b1 : decide ((j : Int) < (l0.length : Int)) = false := decide_eq_false (by omega)
      have HJA := Aside0.mk HJ
      clear HJ
      go_wp2
      go_ret
      exact ⟨by rw [idxOf_none z67 (fun i hi => HJA.out.2 i (by omega))]; rfl, HB.out⟩

set_option maxHeartbeats 1000000 in
set_option maxRecDepth 100000 in
theorem ContainsFunc_Job (p : S67 → Bool) (f : FuncId) (cap : Array Value) (w : World) (l0 : List (S67)) (hcl : ∀ (x : S67) (W : World), x ∈ l0 → Below w.heap.size w W → Calls Try.prog f (#[.agg #[.int .i64 x.f0, .int .i64 x.f1, .int .i64 x.f2, .int .i64 x.f3]] ++ cap) W fun e w' => e = .returned (.bool (p x)) ∧ Below W.heap.size W w')
    {fn : Func} (hf : Try.prog.funcs[f]? = some fn) (hname : (fn.name == "runtime.NumGoroutine") = false) (hb : fn.body.isSome = true)
    (A0 : Option Addr) (c0 : Nat) (hr0 : Kd.C k67 w A0 l0.length l0) (hc0 : l0.length ≤ c0) :
    Calls Try.prog 103 #[.slice A0 l0.length c0, .func (.func f) #[] cap] w fun e w' => e = .returned (.bool (l0.any p)) ∧ Below w.heap.size w w' := by
  have H := Lib.hid (IndexFunc_Job p f cap w l0 hcl hf hname hb A0 c0 hr0 hc0)
  clear hr0 hc0 hcl hf
  go_enter Try.func103, Try.ntmps103
  go_wp2_with (go_at_call 154; refine H.out.mono ?_; rintro e w2 ⟨rfl, hb2⟩)
  go_ret
  exact ⟨by rw [← idxOf_neg]; rfl, hb2⟩
def dlOk (s : List (S62)) (x : S67) : Bool := decide (x.f2 = wrap64 (x.f1 + (rd_T62 s x.f0).f1))
/-- The jobs are a legal pattern of a valid set. -/
def legalB (s : List (S62)) (l : List (S67)) : Bool := ordB s l && ((List.range l.length).all (spcAt s l) && l.all (dlOk s))
theorem ordB_in {s : List (S62)} {l : List (S67)} (h : ordB s l = true) : l.length ≤ 60 ∧ ∀ i, i < l.length → jobIn s (l.getD i z67) = true := by
  unfold ordB at h
  rw [Bool.and_eq_true, List.all_eq_true] at h
  refine ⟨of_decide_eq_true h.2, fun i hi => ?_⟩
  have := h.1 i (List.mem_range.2 hi)
  unfold ordAt at this
  rw [Bool.and_eq_true] at this
  exact this.1
theorem jobIn_f0 {s : List (S62)} {j : S67} (h : jobIn s j = true) : 0 ≤ j.f0 ∧ j.f0 < s.length := by
  unfold jobIn at h; rw [Bool.and_eq_true] at h; have := of_decide_eq_true h.1; omega
theorem jobIn_f1 {s : List (S62)} {j : S67} (h : jobIn s j = true) : 0 ≤ j.f1 ∧ j.f1 ≤ 119 := by
  unfold jobIn at h; rw [Bool.and_eq_true, Bool.and_eq_true] at h; exact of_decide_eq_true h.2.1
def impl_JobsLegal.f (l0 : List (S62)) (l1 : List (S67)) : Option Bool := (impl_SetValid.f l0).bind fun b => some (b && legalB l0 l1)
set_option maxHeartbeats 2000000 in
set_option maxRecDepth 100000 in
theorem impl_JobsLegal.calls (A0 : Option Addr) (c0 : Nat) (l0 : List (S62)) (A1 : Option Addr) (c1 : Nat) (l1 : List (S67)) (r : Bool) (w : World) (hr0 : Kd.C k62 w A0 l0.length l0) (hc0 : l0.length ≤ c0) (hr1 : Kd.C k67 w A1 l1.length l1) (hc1 : l1.length ≤ c1) (h : impl_JobsLegal.f l0 l1 = some r) :
    Calls Try.prog 35 #[.slice A0 l0.length c0, .slice A1 l1.length c1] w fun e w' => e = .returned (.bool r) ∧ Below w.heap.size w w' := by
  unfold impl_JobsLegal.f at h
  obtain ⟨b, hb⟩ : ∃ b, impl_SetValid.f l0 = some b := by
    cases hs : impl_SetValid.f l0 with
    | none => rw [hs] at h; cases h
    | some b => exact ⟨b, rfl⟩
  rw [hb, Option.bind_some] at h
  obtain rfl := Option.some.inj h
  clear h
  have hB0 : Below w.heap.size w (w.alloc (.cells #[.slice A0 l0.length c0] 37)) := below_alloc (Below.refl _ _) _
  have HS := Lib.hid (impl_SetValid.calls A0 c0 l0 b (w.alloc (.cells #[.slice A0 l0.length c0] 37)) (Kd.C_below hr0 hB0) hc0 hb)
  have hcell : (w.alloc (.cells #[.slice A0 l0.length c0] 37)).cell? ⟨w.heap.size, 0, none⟩ = some (.slice A0 l0.length c0) := by
    rw [World.cell?_alloc_at _ _ _ _ rfl]; rfl
  have hse : Sees (w.alloc (.cells #[.slice A0 l0.length c0] 37)) w.heap.size A0 l0 c0 := ⟨hcell, Kd.C_below hr0 hB0, by simp⟩
  have HSE := Aside0.mk hse
  have HR1 := Aside0.mk (Kd.C_below hr1 hB0)
  have HC1 := Lib.hid hc1
  have HB := Aside0.mk hB0
  have hmf : ∀ (fn : Fn) (first cap : Array Value) (w : World), (Instr.makeFunc fn first cap).run Try.prog w = .ok (.func fn first cap) w := fun _ _ _ _ => rfl
  have hsx : l0.length ≤ 9223372036854775807 := hr0.2.1
  clear hr0 hc0 hr1 hc1 hb hse hB0
  cases b with
  | false =>
    go_enter Try.func35, Try.ntmps35
    go_wp2_with (go_at_call 97; refine HS.out.mono ?_; rintro e w2 ⟨rfl, hbx⟩; ((have n0_ := Aside0.mk (below_step HB.out hbx); have n1_ := Aside0.mk (HSE.out.below hbx); have n2_ := Aside0.mk (Kd.C_below HR1.out hbx); clear HB HSE HR1 hbx; have HB := n0_; have HSE := n1_; have HR1 := n2_; clear n0_ n1_ n2_)))
    go_ret
    exact ⟨by simp, HB.out⟩
  | true =>
    have HORD := Lib.hid (fun (W : World) (hs : Sees W w.heap.size A0 l0 c0) (hr : Kd.C k67 W A1 l1.length l1) => ordered_calls w.heap.size A0 l0 c0 A1 c1 l1 W hs hr HC1.out)
    cases ho : ordB l0 l1 with
    | false =>
      have HO := Lib.hid ho
      clear ho
      go_enter Try.func35, Try.ntmps35
      go_wp2_with (first | (go_at_call 97; refine HS.out.mono ?_; rintro e w2 ⟨rfl, hbx⟩; have hcx := (hbx.cell (World.block_lt_of_cell? _ _ hcell)).trans hcell; ((have n0_ := Aside0.mk (below_step HB.out hbx); have n1_ := Aside0.mk (HSE.out.below hbx); have n2_ := Aside0.mk (Kd.C_below HR1.out hbx); clear HB HSE HR1 hbx; have HB := n0_; have HSE := n1_; have HR1 := n2_; clear n0_ n1_ n2_))) | (go_at_call 98; refine (HORD.out _ HSE.out HR1.out).mono ?_; rw [HO.out]; rintro e w3 ⟨rfl, hbx⟩; ((have n0_ := Aside0.mk (below_step HB.out hbx); have n1_ := Aside0.mk (HSE.out.below hbx); have n2_ := Aside0.mk (Kd.C_below HR1.out hbx); clear HB HSE HR1 hbx; have HB := n0_; have HSE := n1_; have HR1 := n2_; clear n0_ n1_ n2_))))
      go_ret
      exact ⟨by unfold legalB; rw [HO.out]; rfl, HB.out⟩
    | true =>
      have HO := Lib.hid ho
      have hin := ordB_in ho
      have HSP := Lib.hid (fun (W : World) (hs : Sees W w.heap.size A0 l0 c0) (hr : Kd.C k67 W A1 l1.length l1) => spaced_calls w.heap.size A0 l0 c0 A1 c1 l1 W hs hr HC1.out (fun i hi => jobIn_f0 (hin.2 i hi)) (fun i hi => jobIn_f1 (hin.2 i hi)) hin.1)
      cases hp : (List.range l1.length).all (spcAt l0 l1) with
      | false =>
        have HP := Lib.hid hp
        clear ho hin hp
        go_enter Try.func35, Try.ntmps35
        go_wp2_with (first | (go_at_call 97; refine HS.out.mono ?_; rintro e w2 ⟨rfl, hbx⟩; have hcx := (hbx.cell (World.block_lt_of_cell? _ _ hcell)).trans hcell; ((have n0_ := Aside0.mk (below_step HB.out hbx); have n1_ := Aside0.mk (HSE.out.below hbx); have n2_ := Aside0.mk (Kd.C_below HR1.out hbx); clear HB HSE HR1 hbx; have HB := n0_; have HSE := n1_; have HR1 := n2_; clear n0_ n1_ n2_))) | (go_at_call 98; refine (HORD.out _ HSE.out HR1.out).mono ?_; rw [HO.out]; rintro e w3 ⟨rfl, hbx⟩; ((have n0_ := Aside0.mk (below_step HB.out hbx); have n1_ := Aside0.mk (HSE.out.below hbx); have n2_ := Aside0.mk (Kd.C_below HR1.out hbx); clear HB HSE HR1 hbx; have HB := n0_; have HSE := n1_; have HR1 := n2_; clear n0_ n1_ n2_))) | (go_at_call 100; refine (HSP.out _ HSE.out HR1.out).mono ?_; rw [HP.out]; rintro e w4 ⟨rfl, hbx⟩; ((have n0_ := Aside0.mk (below_step HB.out hbx); have n1_ := Aside0.mk (HSE.out.below hbx); have n2_ := Aside0.mk (Kd.C_below HR1.out hbx); clear HB HSE HR1 hbx; have HB := n0_; have HSE := n1_; have HR1 := n2_; clear n0_ n1_ n2_))))
        go_ret
        exact ⟨by unfold legalB; rw [HO.out, HP.out]; rfl, HB.out⟩
      | true =>
        have HP := Lib.hid hp
        have HCF := Lib.hid (fun (W : World) (hs : Sees W w.heap.size A0 l0 c0) (hr : Kd.C k67 W A1 l1.length l1) => ContainsFunc_Job (fun x => !dlOk l0 x) 104 #[.pointer (some ⟨w.heap.size, 0, none⟩)] W l1
          (fun x W' hx hW => by
            obtain ⟨i, hi, rfl⟩ := List.getElem_of_mem hx
            have hj := jobIn_f0 (hin.2 i hi)
            have hg : l1.getD i z67 = l1[i] := by simp [List.getD_eq_getElem?_getD, hi]
            rw [hg] at hj
            exact JobsLegal_3 w.heap.size A0 l0 c0 l1[i] hj.1 hj.2 W' (hs.below hW)) Try.func104 (by kernel_rfl) rfl A1 c1 hr HC1.out)
        have hany : l1.any (fun x => !dlOk l0 x) = !l1.all (dlOk l0) := by rw [List.all_eq_not_any_not, Bool.not_not]
        have HA := Lib.hid hany
        clear ho hin hp hany
        go_enter Try.func35, Try.ntmps35
        go_wp2_with (first | (go_at_call 97; refine HS.out.mono ?_; rintro e w2 ⟨rfl, hbx⟩; have hcx := (hbx.cell (World.block_lt_of_cell? _ _ hcell)).trans hcell; ((have n0_ := Aside0.mk (below_step HB.out hbx); have n1_ := Aside0.mk (HSE.out.below hbx); have n2_ := Aside0.mk (Kd.C_below HR1.out hbx); clear HB HSE HR1 hbx; have HB := n0_; have HSE := n1_; have HR1 := n2_; clear n0_ n1_ n2_))) | (go_at_call 98; refine (HORD.out _ HSE.out HR1.out).mono ?_; rw [HO.out]; rintro e w3 ⟨rfl, hbx⟩; ((have n0_ := Aside0.mk (below_step HB.out hbx); have n1_ := Aside0.mk (HSE.out.below hbx); have n2_ := Aside0.mk (Kd.C_below HR1.out hbx); clear HB HSE HR1 hbx; have HB := n0_; have HSE := n1_; have HR1 := n2_; clear n0_ n1_ n2_))) | (go_at_call 100; refine (HSP.out _ HSE.out HR1.out).mono ?_; rw [HP.out]; rintro e w4 ⟨rfl, hbx⟩; ((have n0_ := Aside0.mk (below_step HB.out hbx); have n1_ := Aside0.mk (HSE.out.below hbx); have n2_ := Aside0.mk (Kd.C_below HR1.out hbx); clear HB HSE HR1 hbx; have HB := n0_; have HSE := n1_; have HR1 := n2_; clear n0_ n1_ n2_))) | (go_at_call 103; refine (HCF.out _ HSE.out HR1.out).mono ?_; rw [HA.out]; rintro e w5 ⟨rfl, hbx⟩; ((have n0_ := Aside0.mk (below_step HB.out hbx); have n1_ := Aside0.mk (HSE.out.below hbx); have n2_ := Aside0.mk (Kd.C_below HR1.out hbx); clear HB HSE HR1 hbx; have HB := n0_; have HSE := n1_; have HR1 := n2_; clear n0_ n1_ n2_))))
        go_ret
        exact ⟨by unfold legalB; rw [HO.out, HP.out]; simp, HB.out⟩

end Go.Proofs.Ytonifhkplniblaa.Print

namespace Go.Proofs.Ytonifhkplniblaa.Print
open Go.RowKit Go.Proofs.YtonifhkplniblaaW.PrintWords Go.Proofs.YtonifhkplniblaaW.PrintLast Go.Proofs.YtonifhkplniblaaW.PrintMore
attribute [local go_sem] max2_int min2_int max_two min_two max_three min_three max_four min_four   -- for this text's walks alone
set_option linter.unusedVariables false
set_option linter.unusedSimpArgs false

/-! ### impl_isCores: function 122 -/
def impl_isCores.f (a0 : Int) : Option (Bool) := (impl_in.f a0 1 5).bind fun t101 => (some t101)
set_option maxHeartbeats 8000000 in
set_option maxRecDepth 100000 in
theorem impl_isCores.calls (a0 : Int) (r : Bool) (w : World) (h : impl_isCores.f a0 = some r) :
    Calls Try.prog 122 #[.int .i64 a0] w fun e w' => e = .returned (.bool r) ∧ Drawn0 w w' := by
  have H : ((impl_in.f a0 1 5).bind fun t101 => (some t101)) = some r := h
  clear h
  replace H := Option.bind_eq_some_iff.mp H
  obtain ⟨t101, A20, H⟩ := H
  replace H : (some t101) = some r := H
  have A2 := Aside0.mk A20
  clear A20
  obtain rfl := Option.some.inj H
  go_enter Try.func122, Try.ntmps122
  go_wp2_with (first | ((with_reducible refine gate_callee (f := 105) rfl ?_); refine goesL_ (some 4) rfl rfl Try.func105 (by kernel_rfl) rfl #[.int .i64 a0, .int .i64 1, .int .i64 5] rfl (by (try simp only [List.map_toArray, List.map_cons, List.map_nil]); first | done | rfl | (simp only [List.length_drop, List.length_take]; rfl)) ?_; (with_reducible refine (impl_in.calls a0 1 5 t101 _ A2.out).mono ?_); rintro e w' ⟨rfl, ⟨nd, rfl⟩⟩; refine ⟨_, rfl, ?_⟩))
  go_ret
  exact ⟨by first | rfl | (simp; done) | (simp [*]; done) | (simp only [i64_w, i32_w]; done) | (simp [*, i64_w, i32_w]; done), by repeat (first | exact Drawn0.refl _ | apply Drawn0.step)⟩



/-! ### impl_Synchronous: function 37 -/
open Go.Proofs.Ytonifhkplniblaa.Walk
set_option maxHeartbeats 1000000 in
set_option maxRecDepth 100000 in
theorem Clip_Job (A : Option Addr) (n c : Nat) (w : World) (hn : n ≤ c) (hc : c ≤ 9223372036854775807) : Calls Try.prog 106 #[.slice A n c] w fun e w' => e = .returned (.slice A n n) ∧ Drawn0 w w' := by
  have hu := Try.underlying39
  go_enter Try.func106, Try.ntmps106
  go_wp2
  go_ret
  exact ⟨rfl, by repeat (first | exact Drawn0.refl _ | apply Drawn0.step)⟩

mutual
def impl_Synchronous.j0 : Nat → List (S62) → Int → Bool → Option ((List (S67)))
  | 0, _, _, _ => none
  | k + 1, x0, x1, x16 => if x16 = true then (some ([] : List (S67))) else (impl_Synchronous.l0 k x0 x1 ([] : List (S67)) 0)
def impl_Synchronous.l0 : Nat → List (S62) → Int → List (S67) → Int → Option ((List (S67)))
  | 0, _, _, _, _ => none
  | k + 1, x0, x1, x5, x6 => if x6 < x1 then (impl_Synchronous.l1 k x0 x1 x5 x6 x0 (x0.length : Int) 0) else (some x5)
def impl_Synchronous.l1 : Nat → List (S62) → Int → List (S67) → Int → List (S62) → Int → Int → Option ((List (S67)))
  | 0, _, _, _, _, _, _, _ => none
  | k + 1, x0, x1, x5, x6, x22, x23, x24 => if x24 < x23 then (if 0 ≤ x24 then (if x24 < (x22.length : Int) then (if ((rd_T62 x22 x24).f2) = 0 then (none) else (if (Int.tmod x6 ((rd_T62 x22 x24).f2)) = 0 then (if (wrap64 (x6 + ((rd_T62 x22 x24).f1))) ≤ x1 then (if (x5.length : Int) < 60 then (if x5.length < 4398046511104 then (impl_Synchronous.l1 k x0 x1 (x5 ++ [(⟨x24, x6, wrap64 (x6 + ((rd_T62 x22 x24).f1)), (rd_T62 x22 x24).f0⟩ : S67)]) x6 x22 x23 (wrap64 (x24 + 1))) else (none)) else (impl_Synchronous.l1 k x0 x1 x5 x6 x22 x23 (wrap64 (x24 + 1)))) else (impl_Synchronous.l1 k x0 x1 x5 x6 x22 x23 (wrap64 (x24 + 1)))) else (impl_Synchronous.l1 k x0 x1 x5 x6 x22 x23 (wrap64 (x24 + 1))))) else (none)) else (none)) else (impl_Synchronous.l0 k x0 x1 x5 (wrap64 (x6 + 1)))
end
def impl_Synchronous.f (k : Nat) (l0 : List (S62)) (a1 : Int) : Option ((List (S67))) := (impl_SetValid.f l0).bind fun t101 => (if t101 = true then ((impl_in.f a1 0 120).bind fun t102 => (impl_Synchronous.j0 k l0 a1 (!t102))) else (impl_Synchronous.j0 k l0 a1 true))
theorem impl_Synchronous.mono_l : ∀ k, (∀ y0 y1 y2, LeO (impl_Synchronous.j0 k y0 y1 y2) (impl_Synchronous.j0 (k + 1) y0 y1 y2)) ∧ (∀ y0 y1 y2 y3, LeO (impl_Synchronous.l0 k y0 y1 y2 y3) (impl_Synchronous.l0 (k + 1) y0 y1 y2 y3)) ∧ (∀ y0 y1 y2 y3 y4 y5 y6, LeO (impl_Synchronous.l1 k y0 y1 y2 y3 y4 y5 y6) (impl_Synchronous.l1 (k + 1) y0 y1 y2 y3 y4 y5 y6))
  | 0 => ⟨fun _ _ _ r h => by simp [impl_Synchronous.j0] at h, fun _ _ _ _ r h => by simp [impl_Synchronous.l0] at h, fun _ _ _ _ _ _ _ r h => by simp [impl_Synchronous.l1] at h⟩
  | k + 1 => by
    obtain ⟨ih0, ih1, ih2⟩ := impl_Synchronous.mono_l k
    refine ⟨?_, ?_, ?_⟩
    · intro y0 y1 y2
      unfold impl_Synchronous.j0
      repeat' first
      | (with_reducible exact ih0 _ _ _)
      | (with_reducible exact ih1 _ _ _ _)
      | (with_reducible exact ih2 _ _ _ _ _ _ _)
      | (with_reducible exact LeO.refl _)
      | (with_reducible exact LeO.none _)
      | (with_reducible refine LeO.ite ?_ ?_)
      | (with_reducible refine LeO.bind ?_ (fun _ => ?_))
      | exact ih0 _ _ _
      | exact ih1 _ _ _ _
      | exact ih2 _ _ _ _ _ _ _
      | exact LeO.none _
      | refine LeO.ite ?_ ?_
      | refine LeO.bind ?_ (fun _ => ?_)
    · intro y0 y1 y2 y3
      unfold impl_Synchronous.l0
      repeat' first
      | (with_reducible exact ih0 _ _ _)
      | (with_reducible exact ih1 _ _ _ _)
      | (with_reducible exact ih2 _ _ _ _ _ _ _)
      | (with_reducible exact LeO.refl _)
      | (with_reducible exact LeO.none _)
      | (with_reducible refine LeO.ite ?_ ?_)
      | (with_reducible refine LeO.bind ?_ (fun _ => ?_))
      | exact ih0 _ _ _
      | exact ih1 _ _ _ _
      | exact ih2 _ _ _ _ _ _ _
      | exact LeO.none _
      | refine LeO.ite ?_ ?_
      | refine LeO.bind ?_ (fun _ => ?_)
    · intro y0 y1 y2 y3 y4 y5 y6
      unfold impl_Synchronous.l1
      repeat' first
      | (with_reducible exact ih0 _ _ _)
      | (with_reducible exact ih1 _ _ _ _)
      | (with_reducible exact ih2 _ _ _ _ _ _ _)
      | (with_reducible exact LeO.refl _)
      | (with_reducible exact LeO.none _)
      | (with_reducible refine LeO.ite ?_ ?_)
      | (with_reducible refine LeO.bind ?_ (fun _ => ?_))
      | exact ih0 _ _ _
      | exact ih1 _ _ _ _
      | exact ih2 _ _ _ _ _ _ _
      | exact LeO.none _
      | refine LeO.ite ?_ ?_
      | refine LeO.bind ?_ (fun _ => ?_)
theorem impl_Synchronous.mono : ∀ a0 a1 k, LeO (impl_Synchronous.f k a0 a1) (impl_Synchronous.f (k + 1) a0 a1) := by
  intro a0 a1 k
  obtain ⟨ih0, ih1, ih2⟩ := impl_Synchronous.mono_l k
  unfold impl_Synchronous.f
  repeat' first
      | (with_reducible exact ih0 _ _ _)
      | (with_reducible exact ih1 _ _ _ _)
      | (with_reducible exact ih2 _ _ _ _ _ _ _)
      | (with_reducible exact LeO.refl _)
      | (with_reducible exact LeO.none _)
      | (with_reducible refine LeO.ite ?_ ?_)
      | (with_reducible refine LeO.bind ?_ (fun _ => ?_))
      | exact ih0 _ _ _
      | exact ih1 _ _ _ _
      | exact ih2 _ _ _ _ _ _ _
      | exact LeO.none _
      | refine LeO.ite ?_ ?_
      | refine LeO.bind ?_ (fun _ => ?_)
set_option maxHeartbeats 8000000 in
set_option maxRecDepth 100000 in
theorem impl_Synchronous.calls (k : Nat) (A0 : Option Addr) (c0 : Nat) (l0 : List (S62)) (a1 : Int) (r : List (S67)) (w : World) (hr0 : Kd.C k62 w A0 l0.length l0) (hc0 : l0.length ≤ c0) (h : impl_Synchronous.f k l0 a1 = some r) :
    Calls Try.prog 37 #[.slice A0 l0.length c0, .int .i64 a1] w fun e w' => ∃ v0_ : Value, e = .returned (v0_) ∧ Kd.RR k67 67 w' w.heap.size (fun _ => True) v0_ r ∧ Below w.heap.size w w' := by
  have hu62 := Try.underlying62
  have hu67 := Try.underlying67
  have HR0 := Aside0.mk hr0
  have HC0 := Aside0.mk hc0
  clear hr0 hc0
  have HB := Aside0.mk (Below.refl w.heap.size w)
  have H : ((impl_SetValid.f l0).bind fun t101 => (if t101 = true then ((impl_in.f a1 0 120).bind fun t102 => (impl_Synchronous.j0 k l0 a1 (!t102))) else (impl_Synchronous.j0 k l0 a1 true))) = some r := h
  clear h
  have HC3 := Aside0.mk H
  clear H
  go_enter Try.func37, Try.ntmps37
  go_upto_region 1 with (fail)
  go_cut [16] (fun v16 wc => ∃ (kq : Nat) (x16_2 : Bool), v16 = .bool x16_2 ∧ Aside0 (impl_Synchronous.j0 kq l0 a1 x16_2 = some r) ∧ Aside0 (kq ≤ k) ∧ Aside0 (Below w.heap.size w wc))
  case first =>
    have H := HC3.out
    clear HC3
    replace H := Option.bind_eq_some_iff.mp H
    obtain ⟨t101, A40, H⟩ := H
    replace H : (if t101 = true then ((impl_in.f a1 0 120).bind fun t102 => (impl_Synchronous.j0 k l0 a1 (!t102))) else (impl_Synchronous.j0 k l0 a1 true)) = some r := H
    have A4 := Aside0.mk A40
    clear A40
    by_cases c5 : t101 = true
    · subst c5
      have H1 : ((impl_in.f a1 0 120).bind fun t102 => (impl_Synchronous.j0 k l0 a1 (!t102))) = some r := by rw [if_pos rfl] at H; exact H
      clear H
      have H := H1
      clear H1
      replace H := Option.bind_eq_some_iff.mp H
      obtain ⟨t102, A60, H⟩ := H
      replace H : (impl_Synchronous.j0 k l0 a1 (!t102)) = some r := H
      have A6 := Aside0.mk A60
      clear A60
      have H' := Aside0.mk H
      clear H
      go_wp2_with (first | ((with_reducible refine gate_callee (f := 97) rfl ?_); refine goesL_ (some 10) rfl rfl Try.func97 (by kernel_rfl) rfl #[.slice A0 l0.length c0] rfl (by (try simp only [List.map_toArray, List.map_cons, List.map_nil]); first | done | rfl | (simp only [List.length_drop, List.length_take]; rfl)) ?_; (with_reducible refine (impl_SetValid.calls _ _ l0 true _ ?side1 ?side2 A4.out).mono ?_); (case side1 => repeat (first | exact (Kd.C_below HR0.out HB.out) | (with_reducible refine Kd.C_alloc ?_ _) | (with_reducible refine Kd.C_drewN ?_ _) | (with_reducible refine Kd.C_drew ?_))); (case side2 => exact HC0.out); rintro e w7 ⟨rfl, hb⟩; refine ⟨_, rfl, ?_⟩; have n0_ := Aside0.mk (below_step (by repeat (first | (with_reducible first | exact HB.out | apply below_alloc | apply pw_below_drewN | apply below_drew1) | exact HB.out)) hb); clear HB; have HB := n0_; clear n0_; (try clear hb); (try clear hb2); (try clear hk); (try clear hi)) | (go_at_call 105; (with_reducible refine (impl_in.calls a1 0 120 t102 _ A6.out).mono ?_); rintro e w' ⟨rfl, ⟨nd, rfl⟩⟩))
      go_meet
      case rel => exact ⟨_, (!t102), (by first | rfl | (simp; done) | (simp [*]; done) | (simp only [i64_w, i32_w]; done) | (simp [*, i64_w, i32_w]; done)), H', ⟨by first | omega | exact Nat.le_refl _⟩, ⟨by repeat (first | (with_reducible first | exact HB.out | apply below_alloc | apply pw_below_drewN | apply below_drew1) | exact HB.out)⟩⟩
    · replace c5 := Bool.eq_false_iff.mpr c5
      subst c5
      have H1 : (impl_Synchronous.j0 k l0 a1 true) = some r := by rw [if_neg (show ¬ (false = true) by decide)] at H; exact H
      clear H
      have H := H1
      clear H1
      have H' := Aside0.mk H
      clear H
      go_wp2_with (first | ((with_reducible refine gate_callee (f := 97) rfl ?_); refine goesL_ (some 10) rfl rfl Try.func97 (by kernel_rfl) rfl #[.slice A0 l0.length c0] rfl (by (try simp only [List.map_toArray, List.map_cons, List.map_nil]); first | done | rfl | (simp only [List.length_drop, List.length_take]; rfl)) ?_; (with_reducible refine (impl_SetValid.calls _ _ l0 false _ ?side1 ?side2 A4.out).mono ?_); (case side1 => repeat (first | exact (Kd.C_below HR0.out HB.out) | (with_reducible refine Kd.C_alloc ?_ _) | (with_reducible refine Kd.C_drewN ?_ _) | (with_reducible refine Kd.C_drew ?_))); (case side2 => exact HC0.out); rintro e w8 ⟨rfl, hb⟩; refine ⟨_, rfl, ?_⟩; have n0_ := Aside0.mk (below_step (by repeat (first | (with_reducible first | exact HB.out | apply below_alloc | apply pw_below_drewN | apply below_drew1) | exact HB.out)) hb); clear HB; have HB := n0_; clear n0_; (try clear hb); (try clear hb2); (try clear hk); (try clear hi)))
      go_meet
      case rel => exact ⟨_, (true), (by first | rfl | (simp; done) | (simp [*]; done) | (simp only [i64_w, i32_w]; done) | (simp [*, i64_w, i32_w]; done)), H', ⟨by first | omega | exact Nat.le_refl _⟩, ⟨by repeat (first | (with_reducible first | exact HB.out | apply below_alloc | apply pw_below_drewN | apply below_drew1) | exact HB.out)⟩⟩
  case rest =>
    clear HC3
    try clear p2
    try clear c3
    try clear c5
    obtain ⟨kq, x16_2, rfl, HA, HJ2, HB⟩ := hcut
    cases kq with
    | zero => exact absurd HA.out (by simp [impl_Synchronous.j0])
    | succ kj2 =>
      have H := HA.out
      clear HA
      simp only [impl_Synchronous.j0] at H
      by_cases c9 : x16_2 = true
      · subst c9
        have H1 : (some ([] : List (S67))) = some r := by rw [if_pos rfl] at H; exact H
        clear H
        have H := H1
        clear H1
        obtain rfl := Option.some.inj H
        go_wp2
        go_ret
        exact ⟨_, by first | rfl | (simp [errW_none, errW_some] <;> rfl) | (simp [*, errW_none, errW_some] <;> rfl), by first | exact Kd.RR_nil _ _ _ _ _ | exact Kd.RR_nil _ _ _ _ _ | exact Kd.V_nil _ _ _ _ _ | exact Kd.Q_nil _ _ _ _ _ | exact Kd.S_nil _ _ _ _ _, by repeat (first | (with_reducible first | exact HB.out | apply below_alloc | apply pw_below_drewN | apply below_drew1) | exact HB.out)⟩
      · replace c9 := Bool.eq_false_iff.mpr c9
        subst c9
        have H1 : (impl_Synchronous.l0 kj2 l0 a1 ([] : List (S67)) 0) = some r := by rw [if_neg (show ¬ (false = true) by decide)] at H; exact H
        clear H
        have H := H1
        clear H1
        have H' := Aside0.mk H
        clear H
        go_wp2
        go_loopg [5, 6] kj2 (fun kq v5 v6 w' => ∃ (x5_2 : List (S67)) (x6_2 : Int), v6 = .int .i64 x6_2 ∧ Aside0 (impl_Synchronous.l0 kq l0 a1 x5_2 x6_2 = some r) ∧ Aside0 (kq ≤ kj2) ∧ Aside0 (Kd.R k67 67 w' w.heap.size (fun _ => True) v5 x5_2) ∧ Aside0 (Below w.heap.size w w'))
        case atStart => exact ⟨(([] : List (S67))), (0), (by first | rfl | (simp; done) | (simp [*]; done) | (simp only [i64_w, i32_w]; done) | (simp [*, i64_w, i32_w]; done)), H', ⟨Nat.le_refl _⟩, ⟨by first | exact Kd.R_nil _ _ _ _ _ | exact Kd.N_nil _ _ _ _ _ | exact Kd.V_nil _ _ _ _ _ | exact Kd.Q_nil _ _ _ _ _ | exact Kd.S_nil _ _ _ _ _⟩, ⟨by repeat (first | (with_reducible first | exact HB.out | apply below_alloc | apply pw_below_drewN | apply below_drew1) | exact HB.out)⟩⟩
        case round =>
          clear H'
          try clear p2
          try clear c3
          try clear c5
          try clear c9
          try clear p2
          obtain ⟨x5_2, x6_2, rfl, HA, HK2, HO_5, HB⟩ := hrel
          cases gk with
          | zero => exact absurd HA.out (by simp [impl_Synchronous.l0])
          | succ k2 =>
            have H := HA.out
            clear HA
            simp only [impl_Synchronous.l0] at H
            by_cases c10 : x6_2 < a1
            · rw [if_pos c10] at H
              have c10b0 : decide (x6_2 < a1) = true := decide_eq_true c10
              clear c10
              have H' := Aside0.mk H
              clear H
              go_wp2
              go_loopg [5, 24] k2 (fun kq v5 v24 w' => ∃ (x5_3 : List (S67)) (x24_3 : Int), v24 = .int .i64 x24_3 ∧ Aside0 (impl_Synchronous.l1 kq l0 a1 x5_3 x6_2 l0 (l0.length : Int) x24_3 = some r) ∧ Aside0 (kq ≤ k2) ∧ Aside0 (Kd.R k67 67 w' w.heap.size (fun _ => True) v5 x5_3) ∧ Aside0 (Below w.heap.size w w'))
              case atStart => exact ⟨(x5_2), (0), (by first | rfl | (simp; done) | (simp [*]; done) | (simp only [i64_w, i32_w]; done) | (simp [*, i64_w, i32_w]; done)), H', ⟨Nat.le_refl _⟩, ⟨by (with_reducible repeat (first | apply Kd.R_alloc | apply Kd.R_drewN | apply Kd.R_drew)); exact HO_5.out⟩, ⟨by repeat (first | (with_reducible first | exact HB.out | apply below_alloc | apply pw_below_drewN | apply below_drew1) | exact HB.out)⟩⟩
              case round =>
                clear H'
                try clear c1
                try clear p2
                try clear c3
                try clear c5
                try clear c9
                try clear c10
                try clear c10b0
                try clear p2
                obtain ⟨x5_3, x24_3, rfl, HA, HK3, HO_5, HB⟩ := hrel
                cases gk with
                | zero => exact absurd HA.out (by simp [impl_Synchronous.l1])
                | succ k3 =>
                  have H := HA.out
                  clear HA
                  simp only [impl_Synchronous.l1] at H
                  by_cases c11 : x24_3 < (l0.length : Int)
                  · rw [if_pos c11] at H
                    have c11b0 : decide (x24_3 < (l0.length : Int)) = true := decide_eq_true c11
                    clear c11
                    by_cases c12 : 0 ≤ x24_3
                    · rw [if_pos c12] at H
                      have c12b0 : decide (0 ≤ x24_3) = true := decide_eq_true c12
                      clear c12
                      by_cases c13 : x24_3 < (l0.length : Int)
                      · rw [if_pos c13] at H
                        have c13b0 : decide (x24_3 < (l0.length : Int)) = true := decide_eq_true c13
                        clear c13
                        by_cases c14 : ((rd_T62 l0 x24_3).f2) = 0
                        · rw [if_pos c14] at H
                          exact absurd H (by simp)
                        · rw [if_neg c14] at H
                          have c14b0 : (((rd_T62 l0 x24_3).f2) == 0) = false := beq_eq_false_iff_ne.mpr c14
                          have c14b1 : (((rd_T62 l0 x24_3).f2) != 0) = true := bne_iff_ne.mpr c14
                          by_cases c15 : (Int.tmod x6_2 ((rd_T62 l0 x24_3).f2)) = 0
                          · rw [if_pos c15] at H
                            have c15b0 : ((Int.tmod x6_2 ((rd_T62 l0 x24_3).f2)) == 0) = true := beq_iff_eq.mpr c15
                            have c15b1 : ((Int.tmod x6_2 ((rd_T62 l0 x24_3).f2)) != 0) = false := bne_eq_false_iff_eq.mpr c15
                            clear c15
                            by_cases c16 : (wrap64 (x6_2 + ((rd_T62 l0 x24_3).f1))) ≤ a1
                            · rw [if_pos c16] at H
                              have c16b0 : decide ((wrap64 (x6_2 + ((rd_T62 l0 x24_3).f1))) ≤ a1) = true := decide_eq_true c16
                              clear c16
                              by_cases c17 : (x5_3.length : Int) < 60
                              · rw [if_pos c17] at H
                                have c17b0 : decide ((x5_3.length : Int) < 60) = true := decide_eq_true c17
                                have c17b1 : decide (x5_3.length < 60) = true := decide_eq_true (by omega)
                                clear c17
                                by_cases c18 : x5_3.length < 4398046511104
                                · rw [if_pos c18] at H
                                  have LMc18 := Aside0.mk c18
                                  clear c18
                                  obtain ⟨y105, hy105⟩ : ∃ y_ : List (S67), y_ = (x5_3 ++ [(⟨x24_3, x6_2, wrap64 (x6_2 + ((rd_T62 l0 x24_3).f1)), (rd_T62 l0 x24_3).f0⟩ : S67)]) := ⟨_, rfl⟩
                                  replace H : (impl_Synchronous.l1 k3 l0 a1 y105 x6_2 l0 (l0.length : Int) (wrap64 (x24_3 + 1))) = some r := by first | (rw [hy105]; with_reducible exact H) | (have H2_ := (Option.bind_some _ _).symm.trans H; rw [hy105]; with_reducible exact H2_) | (have H2_ := (Option.bind_some _ _).symm.trans H; with_reducible exact H2_) | with_reducible exact H | (rw [hy105]; exact H) | exact H
                                  have Ny105 := Aside0.mk hy105
                                  clear hy105
                                  have H' := Aside0.mk H
                                  clear H
                                  have p103 : 0 ≤ (x24_3 : Int) := of_decide_eq_true (by first | (with_reducible assumption) | assumption)
                                  have q103 : x24_3 < (l0.length : Int) := of_decide_eq_true (by first | (with_reducible assumption) | assumption)
                                  obtain ⟨ad103, e103, hx103_0, hx103_1, hx103_2⟩ := at_T62 HR0.out x24_3 p103 q103
                                  cases e103
                                  replace hx103_0 := (HB.out.cell (World.block_lt_of_cell? w _ hx103_0)).trans hx103_0
                                  replace hx103_1 := (HB.out.cell (World.block_lt_of_cell? w _ hx103_1)).trans hx103_1
                                  replace hx103_2 := (HB.out.cell (World.block_lt_of_cell? w _ hx103_2)).trans hx103_2
                                  replace p103 := eq_true p103
                                  replace q103 := eq_true q103
                                  go_wp2_with (first | ((with_reducible refine gate_dst (N := 8) rfl ?_); (try (refine gate_guard (by rfl) ?_; dsimp only)); refine box_event ?hg (N := 8) ?hd (cs := #[.int .i64 0, .int .i64 0, .int .i64 0]) (t := 62) ?hr ?_; (case hd => rfl); (case hg => rfl); (case hr => first | (go_simp; done) | (go_simp; rfl)); intro gb104 hg w19 hbox hb; have n0_ := Aside0.mk (Kd.R_below (by (with_reducible repeat (first | apply Kd.R_alloc | apply Kd.R_drewN | apply Kd.R_drew)); exact HO_5.out) hb); have n1_ := Aside0.mk (below_step (by repeat (first | (with_reducible first | exact HB.out | apply below_alloc | apply pw_below_drewN | apply below_drew1) | exact HB.out)) hb); have n2_ := Aside0.mk (hbox); have n3_ := Aside0.mk ((by rw [hg]; exact (below_size (by repeat (first | (with_reducible first | exact HB.out | apply below_alloc | apply pw_below_drewN | apply below_drew1) | exact HB.out))) : w.heap.size ≤ gb104)); have n4_ := Aside0.mk ((by rw [hg]; exact (below_size (by repeat (first | (with_reducible first | exact HB.out | apply below_alloc | apply pw_below_drewN | apply below_drew1) | exact HB.out))) : w.heap.size ≤ gb104)); clear HO_5; clear HB; have HO_5 := n0_; have HB := n1_; have BK104 := n2_; have GW104 := n3_; have GE104 := n4_; clear n0_ n1_ n2_ n3_ n4_; clear hb hbox hg; have hcz20_0 : w19.cell? ⟨gb104, 0, none⟩ = some (.int .i64 0) := (blk_cell BK104.out 0).trans rfl; have hcz20_1 : w19.cell? ⟨gb104, 1, none⟩ = some (.int .i64 0) := (blk_cell BK104.out 1).trans rfl; have hcz20_2 : w19.cell? ⟨gb104, 2, none⟩ = some (.int .i64 0) := (blk_cell BK104.out 2).trans rfl; have hfz20_0 := blk_frozen BK104.out 0; have hfz20_1 := blk_frozen BK104.out 1; have hfz20_2 := blk_frozen BK104.out 2; obtain ⟨Ao21, co21, eo21⟩ := Kd.R_slice HO_5.out; subst eo21) | ((with_reducible refine gate_builtin (b := .append) (xs := #[.tmp 47, .tmp 57]) rfl ?_); (try (refine gate_guard (by rfl) ?_; dsimp only)); at_builtin; refine Kd.R_append k67 (w0 := w) w.heap.size rfl (.tmp 47) (.tmp 57) 39 67 (.agg #[(.int .i64 0), (.int .i64 0), (.int .i64 0), (.int .i64 0)]) 32 rfl Try.underlying39 info67 rfl (by decide) (by omega) (.slice Ao21 x5_3.length co21) x5_3 (⟨x24_3, x6_2, wrap64 (x6_2 + ((rd_T62 l0 x24_3).f1)), (rd_T62 l0 x24_3).f0⟩ : S67) [.int .i64 x24_3, .int .i64 x6_2, .int .i64 (wrap64 (x6_2 + ((rd_T62 l0 x24_3).f1))), .int .i64 ((rd_T62 l0 x24_3).f0)] (fun _ => True) (fun _ => False) rfl (by first | (go_simp; done) | (go_simp; rfl)) ?aP (fun _ hk => hk.elim) ?aF ?aO ?aB ?aS ?aL ?_; (case aP => exact k67_mkM _ _ _ (⟨x24_3, x6_2, wrap64 (x6_2 + ((rd_T62 l0 x24_3).f1)), (rd_T62 l0 x24_3).f0⟩ : S67)); (case aB => exact (by repeat (first | (with_reducible first | exact HB.out | apply below_alloc | apply pw_below_drewN | apply below_drew1 | refine below_set ?_ GE104.out) | exact HB.out))); (case aF => exact (fun _ _ => trivial)); (case aO => exact (by (with_reducible repeat (first | apply Kd.R_alloc | apply Kd.R_drewN | apply Kd.R_drew)); exact Kd.R_mono (Kd.R_far (p := ⟨gb104, 2, none⟩) (Kd.R_far (p := ⟨gb104, 1, none⟩) (Kd.R_far (p := ⟨gb104, 0, none⟩) (Kd.R_types HO_5.out BK104.out (by decide)) (fun _ hk => hk.2) (.int .i64 ((rd_T62 l0 x24_3).f0))) (fun _ hk => hk.2) (.int .i64 ((rd_T62 l0 x24_3).f1))) (fun _ hk => hk.2) (.int .i64 ((rd_T62 l0 x24_3).f2))) (fun _ hk => trivial))); (case aS => exact (below_size (by repeat (first | (with_reducible first | exact HB.out | apply below_alloc | apply pw_below_drewN | apply below_drew1 | refine below_set ?_ GE104.out) | exact HB.out)))); (case aL => have := LMc18.out; omega); intro v106 w22 ho hb hg hat; rw [← Ny105.out] at ho; have n0_ := Aside0.mk (blk_grown (g := gb104) (o := .cells #[.int .i64 ((rd_T62 l0 x24_3).f0), .int .i64 ((rd_T62 l0 x24_3).f1), .int .i64 ((rd_T62 l0 x24_3).f2)] 62 (0, 0)) (by (with_reducible repeat (first | refine blk_drewN ?_ _ | refine blk_drew ?_ | refine blk_alloc ?_ _)); refine blk_put (cs := #[.int .i64 ((rd_T62 l0 x24_3).f0), .int .i64 ((rd_T62 l0 x24_3).f1), .int .i64 0]) ?_ 2 _ rfl; (with_reducible repeat (first | refine blk_drewN ?_ _ | refine blk_drew ?_ | refine blk_alloc ?_ _)); refine blk_put (cs := #[.int .i64 ((rd_T62 l0 x24_3).f0), .int .i64 0, .int .i64 0]) ?_ 1 _ rfl; (with_reducible repeat (first | refine blk_drewN ?_ _ | refine blk_drew ?_ | refine blk_alloc ?_ _)); refine blk_put (cs := #[.int .i64 0, .int .i64 0, .int .i64 0]) ?_ 0 _ rfl; (with_reducible repeat (first | refine blk_drewN ?_ _ | refine blk_drew ?_ | refine blk_alloc ?_ _)); exact BK104.out) hg (Kd.R_ne HO_5.out BK104.out (by decide))); have n1_ := Aside0.mk (hb); have n2_ := Aside0.mk (ho); clear BK104; clear HB; clear HO_5; have BK104 := n0_; have HB := n1_; have HO107 := n2_; clear n0_ n1_ n2_; clear ho hb hg hat))
                                  go_roundg k3
                                  case measure => have := HJ2.out; have := HK2.out; have := HK3.out; omega
                                  case rel => exact ⟨(y105), (wrap64 (x24_3 + 1)), (by first | rfl | (simp; done) | (simp [*]; done) | (simp only [i64_w, i32_w]; done) | (simp [*, i64_w, i32_w]; done)), H', ⟨by have := HJ2.out; have := HK2.out; have := HK3.out; omega⟩, ⟨by (with_reducible repeat (first | apply Kd.R_alloc | apply Kd.R_drewN | apply Kd.R_drew)); exact HO107.out⟩, ⟨by repeat (first | (with_reducible first | exact HB.out | apply below_alloc | apply pw_below_drewN | apply below_drew1 | refine below_set ?_ GE104.out) | exact HB.out)⟩⟩
                                · rw [if_neg c18] at H
                                  exact absurd H (by simp)
                              · rw [if_neg c17] at H
                                have c17b0 : decide ((x5_3.length : Int) < 60) = false := decide_eq_false c17
                                have c17b1 : decide (x5_3.length < 60) = false := decide_eq_false (by omega)
                                clear c17
                                have H' := Aside0.mk H
                                clear H
                                have p103 : 0 ≤ (x24_3 : Int) := of_decide_eq_true (by first | (with_reducible assumption) | assumption)
                                have q103 : x24_3 < (l0.length : Int) := of_decide_eq_true (by first | (with_reducible assumption) | assumption)
                                obtain ⟨ad103, e103, hx103_0, hx103_1, hx103_2⟩ := at_T62 HR0.out x24_3 p103 q103
                                cases e103
                                replace hx103_0 := (HB.out.cell (World.block_lt_of_cell? w _ hx103_0)).trans hx103_0
                                replace hx103_1 := (HB.out.cell (World.block_lt_of_cell? w _ hx103_1)).trans hx103_1
                                replace hx103_2 := (HB.out.cell (World.block_lt_of_cell? w _ hx103_2)).trans hx103_2
                                replace p103 := eq_true p103
                                replace q103 := eq_true q103
                                go_wp2_with (first | ((with_reducible refine gate_dst (N := 8) rfl ?_); (try (refine gate_guard (by rfl) ?_; dsimp only)); refine box_event ?hg (N := 8) ?hd (cs := #[.int .i64 0, .int .i64 0, .int .i64 0]) (t := 62) ?hr ?_; (case hd => rfl); (case hg => rfl); (case hr => first | (go_simp; done) | (go_simp; rfl)); intro gb104 hg w23 hbox hb; have n0_ := Aside0.mk (Kd.R_below (by (with_reducible repeat (first | apply Kd.R_alloc | apply Kd.R_drewN | apply Kd.R_drew)); exact HO_5.out) hb); have n1_ := Aside0.mk (below_step (by repeat (first | (with_reducible first | exact HB.out | apply below_alloc | apply pw_below_drewN | apply below_drew1) | exact HB.out)) hb); have n2_ := Aside0.mk (hbox); have n3_ := Aside0.mk ((by rw [hg]; exact (below_size (by repeat (first | (with_reducible first | exact HB.out | apply below_alloc | apply pw_below_drewN | apply below_drew1) | exact HB.out))) : w.heap.size ≤ gb104)); have n4_ := Aside0.mk ((by rw [hg]; exact (below_size (by repeat (first | (with_reducible first | exact HB.out | apply below_alloc | apply pw_below_drewN | apply below_drew1) | exact HB.out))) : w.heap.size ≤ gb104)); clear HO_5; clear HB; have HO_5 := n0_; have HB := n1_; have BK104 := n2_; have GW104 := n3_; have GE104 := n4_; clear n0_ n1_ n2_ n3_ n4_; clear hb hbox hg; have hcz24_0 : w23.cell? ⟨gb104, 0, none⟩ = some (.int .i64 0) := (blk_cell BK104.out 0).trans rfl; have hcz24_1 : w23.cell? ⟨gb104, 1, none⟩ = some (.int .i64 0) := (blk_cell BK104.out 1).trans rfl; have hcz24_2 : w23.cell? ⟨gb104, 2, none⟩ = some (.int .i64 0) := (blk_cell BK104.out 2).trans rfl; have hfz24_0 := blk_frozen BK104.out 0; have hfz24_1 := blk_frozen BK104.out 1; have hfz24_2 := blk_frozen BK104.out 2; obtain ⟨Ao25, co25, eo25⟩ := Kd.R_slice HO_5.out; subst eo25))
                                go_roundg k3
                                case measure => have := HJ2.out; have := HK2.out; have := HK3.out; omega
                                case rel => exact ⟨(x5_3), (wrap64 (x24_3 + 1)), (by first | rfl | (simp; done) | (simp [*]; done) | (simp only [i64_w, i32_w]; done) | (simp [*, i64_w, i32_w]; done)), H', ⟨by have := HJ2.out; have := HK2.out; have := HK3.out; omega⟩, ⟨by (with_reducible repeat (first | apply Kd.R_alloc | apply Kd.R_drewN | apply Kd.R_drew)); exact Kd.R_mono (Kd.R_far (p := ⟨gb104, 2, none⟩) (Kd.R_far (p := ⟨gb104, 1, none⟩) (Kd.R_far (p := ⟨gb104, 0, none⟩) (Kd.R_types HO_5.out BK104.out (by decide)) (fun _ hk => hk.2) (.int .i64 ((rd_T62 l0 x24_3).f0))) (fun _ hk => hk.2) (.int .i64 ((rd_T62 l0 x24_3).f1))) (fun _ hk => hk.2) (.int .i64 ((rd_T62 l0 x24_3).f2))) (fun _ hk => trivial)⟩, ⟨by repeat (first | (with_reducible first | exact HB.out | apply below_alloc | apply pw_below_drewN | apply below_drew1 | refine below_set ?_ GE104.out) | exact HB.out)⟩⟩
                            · rw [if_neg c16] at H
                              have c16b0 : decide ((wrap64 (x6_2 + ((rd_T62 l0 x24_3).f1))) ≤ a1) = false := decide_eq_false c16
                              clear c16
                              have H' := Aside0.mk H
                              clear H
                              have p103 : 0 ≤ (x24_3 : Int) := of_decide_eq_true (by first | (with_reducible assumption) | assumption)
                              have q103 : x24_3 < (l0.length : Int) := of_decide_eq_true (by first | (with_reducible assumption) | assumption)
                              obtain ⟨ad103, e103, hx103_0, hx103_1, hx103_2⟩ := at_T62 HR0.out x24_3 p103 q103
                              cases e103
                              replace hx103_0 := (HB.out.cell (World.block_lt_of_cell? w _ hx103_0)).trans hx103_0
                              replace hx103_1 := (HB.out.cell (World.block_lt_of_cell? w _ hx103_1)).trans hx103_1
                              replace hx103_2 := (HB.out.cell (World.block_lt_of_cell? w _ hx103_2)).trans hx103_2
                              replace p103 := eq_true p103
                              replace q103 := eq_true q103
                              go_wp2_with (first | ((with_reducible refine gate_dst (N := 8) rfl ?_); (try (refine gate_guard (by rfl) ?_; dsimp only)); refine box_event ?hg (N := 8) ?hd (cs := #[.int .i64 0, .int .i64 0, .int .i64 0]) (t := 62) ?hr ?_; (case hd => rfl); (case hg => rfl); (case hr => first | (go_simp; done) | (go_simp; rfl)); intro gb104 hg w26 hbox hb; have n0_ := Aside0.mk (Kd.R_below (by (with_reducible repeat (first | apply Kd.R_alloc | apply Kd.R_drewN | apply Kd.R_drew)); exact HO_5.out) hb); have n1_ := Aside0.mk (below_step (by repeat (first | (with_reducible first | exact HB.out | apply below_alloc | apply pw_below_drewN | apply below_drew1) | exact HB.out)) hb); have n2_ := Aside0.mk (hbox); have n3_ := Aside0.mk ((by rw [hg]; exact (below_size (by repeat (first | (with_reducible first | exact HB.out | apply below_alloc | apply pw_below_drewN | apply below_drew1) | exact HB.out))) : w.heap.size ≤ gb104)); have n4_ := Aside0.mk ((by rw [hg]; exact (below_size (by repeat (first | (with_reducible first | exact HB.out | apply below_alloc | apply pw_below_drewN | apply below_drew1) | exact HB.out))) : w.heap.size ≤ gb104)); clear HO_5; clear HB; have HO_5 := n0_; have HB := n1_; have BK104 := n2_; have GW104 := n3_; have GE104 := n4_; clear n0_ n1_ n2_ n3_ n4_; clear hb hbox hg; have hcz27_0 : w26.cell? ⟨gb104, 0, none⟩ = some (.int .i64 0) := (blk_cell BK104.out 0).trans rfl; have hcz27_1 : w26.cell? ⟨gb104, 1, none⟩ = some (.int .i64 0) := (blk_cell BK104.out 1).trans rfl; have hcz27_2 : w26.cell? ⟨gb104, 2, none⟩ = some (.int .i64 0) := (blk_cell BK104.out 2).trans rfl; have hfz27_0 := blk_frozen BK104.out 0; have hfz27_1 := blk_frozen BK104.out 1; have hfz27_2 := blk_frozen BK104.out 2))
                              go_roundg k3
                              case measure => have := HJ2.out; have := HK2.out; have := HK3.out; omega
                              case rel => exact ⟨(x5_3), (wrap64 (x24_3 + 1)), (by first | rfl | (simp; done) | (simp [*]; done) | (simp only [i64_w, i32_w]; done) | (simp [*, i64_w, i32_w]; done)), H', ⟨by have := HJ2.out; have := HK2.out; have := HK3.out; omega⟩, ⟨by (with_reducible repeat (first | apply Kd.R_alloc | apply Kd.R_drewN | apply Kd.R_drew)); exact Kd.R_mono (Kd.R_far (p := ⟨gb104, 2, none⟩) (Kd.R_far (p := ⟨gb104, 1, none⟩) (Kd.R_far (p := ⟨gb104, 0, none⟩) (Kd.R_types HO_5.out BK104.out (by decide)) (fun _ hk => hk.2) (.int .i64 ((rd_T62 l0 x24_3).f0))) (fun _ hk => hk.2) (.int .i64 ((rd_T62 l0 x24_3).f1))) (fun _ hk => hk.2) (.int .i64 ((rd_T62 l0 x24_3).f2))) (fun _ hk => trivial)⟩, ⟨by repeat (first | (with_reducible first | exact HB.out | apply below_alloc | apply pw_below_drewN | apply below_drew1 | refine below_set ?_ GE104.out) | exact HB.out)⟩⟩
                          · rw [if_neg c15] at H
                            have c15b0 : ((Int.tmod x6_2 ((rd_T62 l0 x24_3).f2)) == 0) = false := beq_eq_false_iff_ne.mpr c15
                            have c15b1 : ((Int.tmod x6_2 ((rd_T62 l0 x24_3).f2)) != 0) = true := bne_iff_ne.mpr c15
                            have H' := Aside0.mk H
                            clear H
                            have p103 : 0 ≤ (x24_3 : Int) := of_decide_eq_true (by first | (with_reducible assumption) | assumption)
                            have q103 : x24_3 < (l0.length : Int) := of_decide_eq_true (by first | (with_reducible assumption) | assumption)
                            obtain ⟨ad103, e103, hx103_0, hx103_1, hx103_2⟩ := at_T62 HR0.out x24_3 p103 q103
                            cases e103
                            replace hx103_0 := (HB.out.cell (World.block_lt_of_cell? w _ hx103_0)).trans hx103_0
                            replace hx103_1 := (HB.out.cell (World.block_lt_of_cell? w _ hx103_1)).trans hx103_1
                            replace hx103_2 := (HB.out.cell (World.block_lt_of_cell? w _ hx103_2)).trans hx103_2
                            replace p103 := eq_true p103
                            replace q103 := eq_true q103
                            go_wp2_with (first | ((with_reducible refine gate_dst (N := 8) rfl ?_); (try (refine gate_guard (by rfl) ?_; dsimp only)); refine box_event ?hg (N := 8) ?hd (cs := #[.int .i64 0, .int .i64 0, .int .i64 0]) (t := 62) ?hr ?_; (case hd => rfl); (case hg => rfl); (case hr => first | (go_simp; done) | (go_simp; rfl)); intro gb104 hg w28 hbox hb; have n0_ := Aside0.mk (Kd.R_below (by (with_reducible repeat (first | apply Kd.R_alloc | apply Kd.R_drewN | apply Kd.R_drew)); exact HO_5.out) hb); have n1_ := Aside0.mk (below_step (by repeat (first | (with_reducible first | exact HB.out | apply below_alloc | apply pw_below_drewN | apply below_drew1) | exact HB.out)) hb); have n2_ := Aside0.mk (hbox); have n3_ := Aside0.mk ((by rw [hg]; exact (below_size (by repeat (first | (with_reducible first | exact HB.out | apply below_alloc | apply pw_below_drewN | apply below_drew1) | exact HB.out))) : w.heap.size ≤ gb104)); have n4_ := Aside0.mk ((by rw [hg]; exact (below_size (by repeat (first | (with_reducible first | exact HB.out | apply below_alloc | apply pw_below_drewN | apply below_drew1) | exact HB.out))) : w.heap.size ≤ gb104)); clear HO_5; clear HB; have HO_5 := n0_; have HB := n1_; have BK104 := n2_; have GW104 := n3_; have GE104 := n4_; clear n0_ n1_ n2_ n3_ n4_; clear hb hbox hg; have hcz29_0 : w28.cell? ⟨gb104, 0, none⟩ = some (.int .i64 0) := (blk_cell BK104.out 0).trans rfl; have hcz29_1 : w28.cell? ⟨gb104, 1, none⟩ = some (.int .i64 0) := (blk_cell BK104.out 1).trans rfl; have hcz29_2 : w28.cell? ⟨gb104, 2, none⟩ = some (.int .i64 0) := (blk_cell BK104.out 2).trans rfl; have hfz29_0 := blk_frozen BK104.out 0; have hfz29_1 := blk_frozen BK104.out 1; have hfz29_2 := blk_frozen BK104.out 2))
                            go_roundg k3
                            case measure => have := HJ2.out; have := HK2.out; have := HK3.out; omega
                            case rel => exact ⟨(x5_3), (wrap64 (x24_3 + 1)), (by first | rfl | (simp; done) | (simp [*]; done) | (simp only [i64_w, i32_w]; done) | (simp [*, i64_w, i32_w]; done)), H', ⟨by have := HJ2.out; have := HK2.out; have := HK3.out; omega⟩, ⟨by (with_reducible repeat (first | apply Kd.R_alloc | apply Kd.R_drewN | apply Kd.R_drew)); exact Kd.R_mono (Kd.R_far (p := ⟨gb104, 2, none⟩) (Kd.R_far (p := ⟨gb104, 1, none⟩) (Kd.R_far (p := ⟨gb104, 0, none⟩) (Kd.R_types HO_5.out BK104.out (by decide)) (fun _ hk => hk.2) (.int .i64 ((rd_T62 l0 x24_3).f0))) (fun _ hk => hk.2) (.int .i64 ((rd_T62 l0 x24_3).f1))) (fun _ hk => hk.2) (.int .i64 ((rd_T62 l0 x24_3).f2))) (fun _ hk => trivial)⟩, ⟨by repeat (first | (with_reducible first | exact HB.out | apply below_alloc | apply pw_below_drewN | apply below_drew1 | refine below_set ?_ GE104.out) | exact HB.out)⟩⟩
                      · rw [if_neg c13] at H
                        exact absurd H (by simp)
                    · rw [if_neg c12] at H
                      exact absurd H (by simp)
                  · rw [if_neg c11] at H
                    have c11b0 : decide (x24_3 < (l0.length : Int)) = false := decide_eq_false c11
                    clear c11
                    have H' := Aside0.mk H
                    clear H
                    go_wp2
                    go_roundg k3
                    case measure => have := HJ2.out; have := HK2.out; have := HK3.out; omega
                    case rel => exact ⟨(x5_3), (wrap64 (x6_2 + 1)), (by first | rfl | (simp; done) | (simp [*]; done) | (simp only [i64_w, i32_w]; done) | (simp [*, i64_w, i32_w]; done)), H', ⟨by have := HJ2.out; have := HK2.out; have := HK3.out; omega⟩, ⟨by (with_reducible repeat (first | apply Kd.R_alloc | apply Kd.R_drewN | apply Kd.R_drew)); exact HO_5.out⟩, ⟨by repeat (first | (with_reducible first | exact HB.out | apply below_alloc | apply pw_below_drewN | apply below_drew1) | exact HB.out)⟩⟩
            · rw [if_neg c10] at H
              have c10b0 : decide (x6_2 < a1) = false := decide_eq_false c10
              clear c10
              obtain rfl := Option.some.inj H
              obtain ⟨Ac_, cc_, ec_⟩ := Kd.R_slice HO_5.out
              subst ec_
              have hcap_ := (Kd.R_reads' HO_5.out).2.1
              have hcm_ := r_capmax HO_5.out
              go_wp2_with (go_at_call 106; refine (Clip_Job _ _ _ _ hcap_ hcm_).mono ?_; rintro e w3_ ⟨rfl, hd_⟩; obtain ⟨m_, rfl⟩ := hd_.out; clear hd_)
              go_ret
              exact ⟨_, rfl, Kd.RR_clip (Kd.R_drewN (by (with_reducible repeat (first | apply Kd.R_alloc | apply Kd.R_drewN | apply Kd.R_drew)); exact HO_5.out) m_) (Nat.le_refl _), pw_below_drewN (by repeat (first | (with_reducible first | exact HB.out | apply below_alloc | apply pw_below_drewN | apply below_drew1) | exact HB.out)) m_⟩



/-! ### impl_demand: function 115 -/
def impl_demand.l0 : Nat → Int → Int → List (S62) → Int → Int → Option (Int)
  | 0, _, _, _, _, _ => none
  | k + 1, x1, x5, x8, x9, x10 => if x10 < x9 then (if 0 ≤ x10 then (if x10 < (x8.length : Int) then (if x1 ≥ ((rd_T62 x8 x10).f1) then (if ((rd_T62 x8 x10).f2) = 0 then (none) else (impl_demand.l0 k x1 (wrap64 (x5 + (wrap64 ((wrap64 ((wrap64 (Int.tdiv (wrap64 (x1 - ((rd_T62 x8 x10).f1))) ((rd_T62 x8 x10).f2))) + 1)) * ((rd_T62 x8 x10).f0))))) x8 x9 (wrap64 (x10 + 1)))) else (impl_demand.l0 k x1 x5 x8 x9 (wrap64 (x10 + 1)))) else (none)) else (none)) else (some x5)
def impl_demand.f (k : Nat) (l0 : List (S62)) (a1 : Int) : Option (Int) := impl_demand.l0 k a1 0 l0 (l0.length : Int) 0
theorem impl_demand.mono_l : ∀ k, (∀ y0 y1 y2 y3 y4, LeO (impl_demand.l0 k y0 y1 y2 y3 y4) (impl_demand.l0 (k + 1) y0 y1 y2 y3 y4))
  | 0 => fun _ _ _ _ _ r h => by simp [impl_demand.l0] at h
  | k + 1 => by
    have ih0 := impl_demand.mono_l k
    · intro y0 y1 y2 y3 y4
      unfold impl_demand.l0
      repeat' first
      | (with_reducible exact ih0 _ _ _ _ _)
      | (with_reducible exact LeO.refl _)
      | (with_reducible exact LeO.none _)
      | (with_reducible refine LeO.ite ?_ ?_)
      | (with_reducible refine LeO.bind ?_ (fun _ => ?_))
      | exact ih0 _ _ _ _ _
      | exact LeO.none _
      | refine LeO.ite ?_ ?_
      | refine LeO.bind ?_ (fun _ => ?_)
theorem impl_demand.mono : ∀ a0 a1 k, LeO (impl_demand.f k a0 a1) (impl_demand.f (k + 1) a0 a1) := by
  intro a0 a1 k
  have ih0 := impl_demand.mono_l k
  unfold impl_demand.f
  repeat' first
      | (with_reducible exact ih0 _ _ _ _ _)
      | (with_reducible exact LeO.refl _)
      | (with_reducible exact LeO.none _)
      | (with_reducible refine LeO.ite ?_ ?_)
      | (with_reducible refine LeO.bind ?_ (fun _ => ?_))
      | exact ih0 _ _ _ _ _
      | exact LeO.none _
      | refine LeO.ite ?_ ?_
      | refine LeO.bind ?_ (fun _ => ?_)
set_option maxHeartbeats 8000000 in
set_option maxRecDepth 100000 in
theorem impl_demand.calls (k : Nat) (A0 : Option Addr) (c0 : Nat) (l0 : List (S62)) (a1 : Int) (r : Int) (w : World) (hr0 : Kd.C k62 w A0 l0.length l0) (hc0 : l0.length ≤ c0) (h : impl_demand.f k l0 a1 = some r) :
    Calls Try.prog 115 #[.slice A0 l0.length c0, .int .i64 a1] w fun e w' => e = .returned (.int .i64 r) ∧ Below w.heap.size w w' := by
  have hu62 := Try.underlying62
  have HR0 := Aside0.mk hr0
  have HC0 := Aside0.mk hc0
  clear hr0 hc0
  have HB := Aside0.mk (Below.refl w.heap.size w)
  have H : (impl_demand.l0 k a1 0 l0 (l0.length : Int) 0) = some r := h
  clear h
  have H' := Aside0.mk H
  clear H
  go_enter Try.func115, Try.ntmps115
  go_wp2
  repeat (go_quiet (fail); try go_wp2)
  go_loopg [5, 10] k (fun kq v5 v10 w' => ∃ (x5_1 : Int) (x10_1 : Int), v5 = .int .i64 x5_1 ∧ v10 = .int .i64 x10_1 ∧ Aside0 (impl_demand.l0 kq a1 x5_1 l0 (l0.length : Int) x10_1 = some r) ∧ Aside0 (kq ≤ k) ∧ Aside0 (Below w.heap.size w w'))
  case atStart => exact ⟨(0), (0), (by first | rfl | (simp; done) | (simp [*]; done) | (simp only [i64_w, i32_w]; done) | (simp [*, i64_w, i32_w]; done)), (by first | rfl | (simp; done) | (simp [*]; done) | (simp only [i64_w, i32_w]; done) | (simp [*, i64_w, i32_w]; done)), H', ⟨Nat.le_refl _⟩, ⟨by repeat (first | (with_reducible first | exact HB.out | apply below_alloc | apply pw_below_drewN | apply below_drew1) | exact HB.out)⟩⟩
  case round =>
    clear H'
    try clear c1
    try clear p2
    obtain ⟨x5_1, x10_1, rfl, rfl, HA, HK1, HB⟩ := hrel
    cases gk with
    | zero => exact absurd HA.out (by simp [impl_demand.l0])
    | succ k1 =>
      have H := HA.out
      clear HA
      simp only [impl_demand.l0] at H
      by_cases c3 : x10_1 < (l0.length : Int)
      · rw [if_pos c3] at H
        have c3b0 : decide (x10_1 < (l0.length : Int)) = true := decide_eq_true c3
        clear c3
        by_cases c4 : 0 ≤ x10_1
        · rw [if_pos c4] at H
          have c4b0 : decide (0 ≤ x10_1) = true := decide_eq_true c4
          clear c4
          by_cases c5 : x10_1 < (l0.length : Int)
          · rw [if_pos c5] at H
            have c5b0 : decide (x10_1 < (l0.length : Int)) = true := decide_eq_true c5
            clear c5
            by_cases c6 : a1 ≥ ((rd_T62 l0 x10_1).f1)
            · rw [if_pos c6] at H
              have c6b0 : decide (((rd_T62 l0 x10_1).f1) ≤ a1) = true := decide_eq_true c6
              clear c6
              by_cases c7 : ((rd_T62 l0 x10_1).f2) = 0
              · rw [if_pos c7] at H
                exact absurd H (by simp)
              · rw [if_neg c7] at H
                have c7b0 : (((rd_T62 l0 x10_1).f2) == 0) = false := beq_eq_false_iff_ne.mpr c7
                have c7b1 : (((rd_T62 l0 x10_1).f2) != 0) = true := bne_iff_ne.mpr c7
                have H' := Aside0.mk H
                clear H
                have p101 : 0 ≤ (x10_1 : Int) := of_decide_eq_true (by first | (with_reducible assumption) | assumption)
                have q101 : x10_1 < (l0.length : Int) := of_decide_eq_true (by first | (with_reducible assumption) | assumption)
                obtain ⟨ad101, e101, hx101_0, hx101_1, hx101_2⟩ := at_T62 HR0.out x10_1 p101 q101
                cases e101
                replace hx101_0 := (HB.out.cell (World.block_lt_of_cell? w _ hx101_0)).trans hx101_0
                replace hx101_1 := (HB.out.cell (World.block_lt_of_cell? w _ hx101_1)).trans hx101_1
                replace hx101_2 := (HB.out.cell (World.block_lt_of_cell? w _ hx101_2)).trans hx101_2
                replace p101 := eq_true p101
                replace q101 := eq_true q101
                go_wp2_with (first | ((with_reducible refine gate_dst (N := 7) rfl ?_); refine box_event ?hg (N := 7) ?hd (cs := #[.int .i64 0, .int .i64 0, .int .i64 0]) (t := 62) ?hr ?_; (case hd => rfl); (case hg => rfl); (case hr => first | (go_simp; done) | (go_simp; rfl)); intro gb102 hg w8 hbox hb; have n0_ := Aside0.mk (below_step (by repeat (first | (with_reducible first | exact HB.out | apply below_alloc | apply pw_below_drewN | apply below_drew1) | exact HB.out)) hb); have n1_ := Aside0.mk (hbox); have n2_ := Aside0.mk ((by rw [hg]; exact (below_size (by repeat (first | (with_reducible first | exact HB.out | apply below_alloc | apply pw_below_drewN | apply below_drew1) | exact HB.out))) : w.heap.size ≤ gb102)); have n3_ := Aside0.mk ((by rw [hg]; exact (below_size (by repeat (first | (with_reducible first | exact HB.out | apply below_alloc | apply pw_below_drewN | apply below_drew1) | exact HB.out))) : w.heap.size ≤ gb102)); clear HB; have HB := n0_; have BK102 := n1_; have GW102 := n2_; have GE102 := n3_; clear n0_ n1_ n2_ n3_; clear hb hbox hg; have hcz9_0 : w8.cell? ⟨gb102, 0, none⟩ = some (.int .i64 0) := (blk_cell BK102.out 0).trans rfl; have hcz9_1 : w8.cell? ⟨gb102, 1, none⟩ = some (.int .i64 0) := (blk_cell BK102.out 1).trans rfl; have hcz9_2 : w8.cell? ⟨gb102, 2, none⟩ = some (.int .i64 0) := (blk_cell BK102.out 2).trans rfl; have hfz9_0 := blk_frozen BK102.out 0; have hfz9_1 := blk_frozen BK102.out 1; have hfz9_2 := blk_frozen BK102.out 2))
                repeat (go_quiet (first | ((with_reducible refine gate_dst (N := 7) rfl ?_); refine box_event ?hg (N := 7) ?hd (cs := #[.int .i64 0, .int .i64 0, .int .i64 0]) (t := 62) ?hr ?_; (case hd => rfl); (case hg => rfl); (case hr => first | (go_simp; done) | (go_simp; rfl)); intro gb102 hg w8 hbox hb; have n0_ := Aside0.mk (below_step (by repeat (first | (with_reducible first | exact HB.out | apply below_alloc | apply pw_below_drewN | apply below_drew1) | exact HB.out)) hb); have n1_ := Aside0.mk (hbox); have n2_ := Aside0.mk ((by rw [hg]; exact (below_size (by repeat (first | (with_reducible first | exact HB.out | apply below_alloc | apply pw_below_drewN | apply below_drew1) | exact HB.out))) : w.heap.size ≤ gb102)); have n3_ := Aside0.mk ((by rw [hg]; exact (below_size (by repeat (first | (with_reducible first | exact HB.out | apply below_alloc | apply pw_below_drewN | apply below_drew1) | exact HB.out))) : w.heap.size ≤ gb102)); clear HB; have HB := n0_; have BK102 := n1_; have GW102 := n2_; have GE102 := n3_; clear n0_ n1_ n2_ n3_; clear hb hbox hg; have hcz9_0 : w8.cell? ⟨gb102, 0, none⟩ = some (.int .i64 0) := (blk_cell BK102.out 0).trans rfl; have hcz9_1 : w8.cell? ⟨gb102, 1, none⟩ = some (.int .i64 0) := (blk_cell BK102.out 1).trans rfl; have hcz9_2 : w8.cell? ⟨gb102, 2, none⟩ = some (.int .i64 0) := (blk_cell BK102.out 2).trans rfl; have hfz9_0 := blk_frozen BK102.out 0; have hfz9_1 := blk_frozen BK102.out 1; have hfz9_2 := blk_frozen BK102.out 2)); try go_wp2_with (first | ((with_reducible refine gate_dst (N := 7) rfl ?_); refine box_event ?hg (N := 7) ?hd (cs := #[.int .i64 0, .int .i64 0, .int .i64 0]) (t := 62) ?hr ?_; (case hd => rfl); (case hg => rfl); (case hr => first | (go_simp; done) | (go_simp; rfl)); intro gb102 hg w8 hbox hb; have n0_ := Aside0.mk (below_step (by repeat (first | (with_reducible first | exact HB.out | apply below_alloc | apply pw_below_drewN | apply below_drew1) | exact HB.out)) hb); have n1_ := Aside0.mk (hbox); have n2_ := Aside0.mk ((by rw [hg]; exact (below_size (by repeat (first | (with_reducible first | exact HB.out | apply below_alloc | apply pw_below_drewN | apply below_drew1) | exact HB.out))) : w.heap.size ≤ gb102)); have n3_ := Aside0.mk ((by rw [hg]; exact (below_size (by repeat (first | (with_reducible first | exact HB.out | apply below_alloc | apply pw_below_drewN | apply below_drew1) | exact HB.out))) : w.heap.size ≤ gb102)); clear HB; have HB := n0_; have BK102 := n1_; have GW102 := n2_; have GE102 := n3_; clear n0_ n1_ n2_ n3_; clear hb hbox hg; have hcz9_0 : w8.cell? ⟨gb102, 0, none⟩ = some (.int .i64 0) := (blk_cell BK102.out 0).trans rfl; have hcz9_1 : w8.cell? ⟨gb102, 1, none⟩ = some (.int .i64 0) := (blk_cell BK102.out 1).trans rfl; have hcz9_2 : w8.cell? ⟨gb102, 2, none⟩ = some (.int .i64 0) := (blk_cell BK102.out 2).trans rfl; have hfz9_0 := blk_frozen BK102.out 0; have hfz9_1 := blk_frozen BK102.out 1; have hfz9_2 := blk_frozen BK102.out 2)))
                go_roundg k1
                case measure => have := HK1.out; omega
                case rel => exact ⟨(wrap64 (x5_1 + (wrap64 ((wrap64 ((wrap64 (Int.tdiv (wrap64 (a1 - ((rd_T62 l0 x10_1).f1))) ((rd_T62 l0 x10_1).f2))) + 1)) * ((rd_T62 l0 x10_1).f0))))), (wrap64 (x10_1 + 1)), (by first | rfl | (simp; done) | (simp [*]; done) | (simp only [i64_w, i32_w]; done) | (simp [*, i64_w, i32_w]; done)), (by first | rfl | (simp; done) | (simp [*]; done) | (simp only [i64_w, i32_w]; done) | (simp [*, i64_w, i32_w]; done)), H', ⟨by have := HK1.out; omega⟩, ⟨by repeat (first | (with_reducible first | exact HB.out | apply below_alloc | apply pw_below_drewN | apply below_drew1 | refine below_set ?_ GE102.out) | exact HB.out)⟩⟩
            · rw [if_neg c6] at H
              have c6b0 : decide (((rd_T62 l0 x10_1).f1) ≤ a1) = false := decide_eq_false c6
              clear c6
              have H' := Aside0.mk H
              clear H
              have p101 : 0 ≤ (x10_1 : Int) := of_decide_eq_true (by first | (with_reducible assumption) | assumption)
              have q101 : x10_1 < (l0.length : Int) := of_decide_eq_true (by first | (with_reducible assumption) | assumption)
              obtain ⟨ad101, e101, hx101_0, hx101_1, hx101_2⟩ := at_T62 HR0.out x10_1 p101 q101
              cases e101
              replace hx101_0 := (HB.out.cell (World.block_lt_of_cell? w _ hx101_0)).trans hx101_0
              replace hx101_1 := (HB.out.cell (World.block_lt_of_cell? w _ hx101_1)).trans hx101_1
              replace hx101_2 := (HB.out.cell (World.block_lt_of_cell? w _ hx101_2)).trans hx101_2
              replace p101 := eq_true p101
              replace q101 := eq_true q101
              go_wp2_with (first | ((with_reducible refine gate_dst (N := 7) rfl ?_); refine box_event ?hg (N := 7) ?hd (cs := #[.int .i64 0, .int .i64 0, .int .i64 0]) (t := 62) ?hr ?_; (case hd => rfl); (case hg => rfl); (case hr => first | (go_simp; done) | (go_simp; rfl)); intro gb102 hg w10 hbox hb; have n0_ := Aside0.mk (below_step (by repeat (first | (with_reducible first | exact HB.out | apply below_alloc | apply pw_below_drewN | apply below_drew1) | exact HB.out)) hb); have n1_ := Aside0.mk (hbox); have n2_ := Aside0.mk ((by rw [hg]; exact (below_size (by repeat (first | (with_reducible first | exact HB.out | apply below_alloc | apply pw_below_drewN | apply below_drew1) | exact HB.out))) : w.heap.size ≤ gb102)); have n3_ := Aside0.mk ((by rw [hg]; exact (below_size (by repeat (first | (with_reducible first | exact HB.out | apply below_alloc | apply pw_below_drewN | apply below_drew1) | exact HB.out))) : w.heap.size ≤ gb102)); clear HB; have HB := n0_; have BK102 := n1_; have GW102 := n2_; have GE102 := n3_; clear n0_ n1_ n2_ n3_; clear hb hbox hg; have hcz11_0 : w10.cell? ⟨gb102, 0, none⟩ = some (.int .i64 0) := (blk_cell BK102.out 0).trans rfl; have hcz11_1 : w10.cell? ⟨gb102, 1, none⟩ = some (.int .i64 0) := (blk_cell BK102.out 1).trans rfl; have hcz11_2 : w10.cell? ⟨gb102, 2, none⟩ = some (.int .i64 0) := (blk_cell BK102.out 2).trans rfl; have hfz11_0 := blk_frozen BK102.out 0; have hfz11_1 := blk_frozen BK102.out 1; have hfz11_2 := blk_frozen BK102.out 2))
              repeat (go_quiet (first | ((with_reducible refine gate_dst (N := 7) rfl ?_); refine box_event ?hg (N := 7) ?hd (cs := #[.int .i64 0, .int .i64 0, .int .i64 0]) (t := 62) ?hr ?_; (case hd => rfl); (case hg => rfl); (case hr => first | (go_simp; done) | (go_simp; rfl)); intro gb102 hg w10 hbox hb; have n0_ := Aside0.mk (below_step (by repeat (first | (with_reducible first | exact HB.out | apply below_alloc | apply pw_below_drewN | apply below_drew1) | exact HB.out)) hb); have n1_ := Aside0.mk (hbox); have n2_ := Aside0.mk ((by rw [hg]; exact (below_size (by repeat (first | (with_reducible first | exact HB.out | apply below_alloc | apply pw_below_drewN | apply below_drew1) | exact HB.out))) : w.heap.size ≤ gb102)); have n3_ := Aside0.mk ((by rw [hg]; exact (below_size (by repeat (first | (with_reducible first | exact HB.out | apply below_alloc | apply pw_below_drewN | apply below_drew1) | exact HB.out))) : w.heap.size ≤ gb102)); clear HB; have HB := n0_; have BK102 := n1_; have GW102 := n2_; have GE102 := n3_; clear n0_ n1_ n2_ n3_; clear hb hbox hg; have hcz11_0 : w10.cell? ⟨gb102, 0, none⟩ = some (.int .i64 0) := (blk_cell BK102.out 0).trans rfl; have hcz11_1 : w10.cell? ⟨gb102, 1, none⟩ = some (.int .i64 0) := (blk_cell BK102.out 1).trans rfl; have hcz11_2 : w10.cell? ⟨gb102, 2, none⟩ = some (.int .i64 0) := (blk_cell BK102.out 2).trans rfl; have hfz11_0 := blk_frozen BK102.out 0; have hfz11_1 := blk_frozen BK102.out 1; have hfz11_2 := blk_frozen BK102.out 2)); try go_wp2_with (first | ((with_reducible refine gate_dst (N := 7) rfl ?_); refine box_event ?hg (N := 7) ?hd (cs := #[.int .i64 0, .int .i64 0, .int .i64 0]) (t := 62) ?hr ?_; (case hd => rfl); (case hg => rfl); (case hr => first | (go_simp; done) | (go_simp; rfl)); intro gb102 hg w10 hbox hb; have n0_ := Aside0.mk (below_step (by repeat (first | (with_reducible first | exact HB.out | apply below_alloc | apply pw_below_drewN | apply below_drew1) | exact HB.out)) hb); have n1_ := Aside0.mk (hbox); have n2_ := Aside0.mk ((by rw [hg]; exact (below_size (by repeat (first | (with_reducible first | exact HB.out | apply below_alloc | apply pw_below_drewN | apply below_drew1) | exact HB.out))) : w.heap.size ≤ gb102)); have n3_ := Aside0.mk ((by rw [hg]; exact (below_size (by repeat (first | (with_reducible first | exact HB.out | apply below_alloc | apply pw_below_drewN | apply below_drew1) | exact HB.out))) : w.heap.size ≤ gb102)); clear HB; have HB := n0_; have BK102 := n1_; have GW102 := n2_; have GE102 := n3_; clear n0_ n1_ n2_ n3_; clear hb hbox hg; have hcz11_0 : w10.cell? ⟨gb102, 0, none⟩ = some (.int .i64 0) := (blk_cell BK102.out 0).trans rfl; have hcz11_1 : w10.cell? ⟨gb102, 1, none⟩ = some (.int .i64 0) := (blk_cell BK102.out 1).trans rfl; have hcz11_2 : w10.cell? ⟨gb102, 2, none⟩ = some (.int .i64 0) := (blk_cell BK102.out 2).trans rfl; have hfz11_0 := blk_frozen BK102.out 0; have hfz11_1 := blk_frozen BK102.out 1; have hfz11_2 := blk_frozen BK102.out 2)))
              go_roundg k1
              case measure => have := HK1.out; omega
              case rel => exact ⟨(x5_1), (wrap64 (x10_1 + 1)), (by first | rfl | (simp; done) | (simp [*]; done) | (simp only [i64_w, i32_w]; done) | (simp [*, i64_w, i32_w]; done)), (by first | rfl | (simp; done) | (simp [*]; done) | (simp only [i64_w, i32_w]; done) | (simp [*, i64_w, i32_w]; done)), H', ⟨by have := HK1.out; omega⟩, ⟨by repeat (first | (with_reducible first | exact HB.out | apply below_alloc | apply pw_below_drewN | apply below_drew1 | refine below_set ?_ GE102.out) | exact HB.out)⟩⟩
          · rw [if_neg c5] at H
            exact absurd H (by simp)
        · rw [if_neg c4] at H
          exact absurd H (by simp)
      · rw [if_neg c3] at H
        have c3b0 : decide (x10_1 < (l0.length : Int)) = false := decide_eq_false c3
        clear c3
        obtain rfl := Option.some.inj H
        go_wp2
        repeat (go_quiet (fail); try go_wp2)
        go_ret
        exact ⟨by first | rfl | (simp [errW_none, errW_some] <;> rfl) | (simp [*, errW_none, errW_some] <;> rfl), by repeat (first | (with_reducible first | exact HB.out | apply below_alloc | apply pw_below_drewN | apply below_drew1) | exact HB.out)⟩



/-! ### impl_gcd: function 170 -/
def impl_gcd.l0 : Nat → Int → Int → Option (Int)
  | 0, _, _ => none
  | k + 1, x0, x1 => if x1 = 0 then (some x0) else (impl_gcd.l0 k x1 (Int.tmod x0 x1))
def impl_gcd.f (k : Nat) (a0 : Int) (a1 : Int) : Option (Int) := impl_gcd.l0 k a0 a1
theorem impl_gcd.mono_l : ∀ k, (∀ y0 y1, LeO (impl_gcd.l0 k y0 y1) (impl_gcd.l0 (k + 1) y0 y1))
  | 0 => fun _ _ r h => by simp [impl_gcd.l0] at h
  | k + 1 => by
    have ih0 := impl_gcd.mono_l k
    · intro y0 y1
      unfold impl_gcd.l0
      repeat' first
      | (with_reducible exact ih0 _ _)
      | (with_reducible exact LeO.refl _)
      | (with_reducible exact LeO.none _)
      | (with_reducible refine LeO.ite ?_ ?_)
      | (with_reducible refine LeO.bind ?_ (fun _ => ?_))
      | exact ih0 _ _
      | exact LeO.none _
      | refine LeO.ite ?_ ?_
      | refine LeO.bind ?_ (fun _ => ?_)
theorem impl_gcd.mono : ∀ a0 a1 k, LeO (impl_gcd.f k a0 a1) (impl_gcd.f (k + 1) a0 a1) := by
  intro a0 a1 k
  have ih0 := impl_gcd.mono_l k
  unfold impl_gcd.f
  repeat' first
      | (with_reducible exact ih0 _ _)
      | (with_reducible exact LeO.refl _)
      | (with_reducible exact LeO.none _)
      | (with_reducible refine LeO.ite ?_ ?_)
      | (with_reducible refine LeO.bind ?_ (fun _ => ?_))
      | exact ih0 _ _
      | exact LeO.none _
      | refine LeO.ite ?_ ?_
      | refine LeO.bind ?_ (fun _ => ?_)
set_option maxHeartbeats 8000000 in
set_option maxRecDepth 100000 in
theorem impl_gcd.calls (k : Nat) (a0 : Int) (a1 : Int) (r : Int) (w : World) (h : impl_gcd.f k a0 a1 = some r) :
    Calls Try.prog 170 #[.int .i64 a0, .int .i64 a1] w fun e w' => e = .returned (.int .i64 r) ∧ Drawn0 w w' := by
  have H : (impl_gcd.l0 k a0 a1) = some r := h
  clear h
  have H' := Aside0.mk H
  clear H
  go_enter Try.func170, Try.ntmps170
  go_wp2
  repeat (go_quiet (fail); try go_wp2)
  go_loopg [0, 1] k (fun kq v0 v1 w' => ∃ (x0_1 : Int) (x1_1 : Int), v0 = .int .i64 x0_1 ∧ v1 = .int .i64 x1_1 ∧ Aside0 (impl_gcd.l0 kq x0_1 x1_1 = some r) ∧ Aside0 (kq ≤ k) ∧ Drawn0 w w')
  case atStart => exact ⟨(a0), (a1), (by first | rfl | (simp; done) | (simp [*]; done) | (simp only [i64_w, i32_w]; done) | (simp [*, i64_w, i32_w]; done)), (by first | rfl | (simp; done) | (simp [*]; done) | (simp only [i64_w, i32_w]; done) | (simp [*, i64_w, i32_w]; done)), H', ⟨Nat.le_refl _⟩, by repeat (first | exact Drawn0.refl _ | apply Drawn0.step)⟩
  case round =>
    clear H'
    try clear c1
    try clear p2
    obtain ⟨x0_1, x1_1, rfl, rfl, HA, HK1, ⟨m1, rfl⟩⟩ := hrel
    cases gk with
    | zero => exact absurd HA.out (by simp [impl_gcd.l0])
    | succ k1 =>
      have H := HA.out
      clear HA
      simp only [impl_gcd.l0] at H
      by_cases c3 : x1_1 = 0
      · rw [if_pos c3] at H
        have c3b0 : (x1_1 == 0) = true := beq_iff_eq.mpr c3
        have c3b1 : (x1_1 != 0) = false := bne_eq_false_iff_eq.mpr c3
        clear c3
        obtain rfl := Option.some.inj H
        go_wp2
        repeat (go_quiet (fail); try go_wp2)
        go_ret
        exact ⟨by first | rfl | (simp; done) | (simp [*]; done) | (simp only [i64_w, i32_w]; done) | (simp [*, i64_w, i32_w]; done), by repeat (first | exact Drawn0.refl _ | apply Drawn0.step)⟩
      · rw [if_neg c3] at H
        have c3b0 : (x1_1 == 0) = false := beq_eq_false_iff_ne.mpr c3
        have c3b1 : (x1_1 != 0) = true := bne_iff_ne.mpr c3
        have H' := Aside0.mk H
        clear H
        go_wp2
        repeat (go_quiet (fail); try go_wp2)
        go_roundg k1
        case measure => have := HK1.out; omega
        case rel => exact ⟨(x1_1), (Int.tmod x0_1 x1_1), (by first | rfl | (simp; done) | (simp [*]; done) | (simp only [i64_w, i32_w]; done) | (simp [*, i64_w, i32_w]; done)), (by first | rfl | (simp; done) | (simp [*]; done) | (simp only [i64_w, i32_w]; done) | (simp [*, i64_w, i32_w]; done)), H', ⟨by have := HK1.out; omega⟩, by repeat (first | exact Drawn0.refl _ | apply Drawn0.step)⟩



/-! ### impl_lcm: function 155 -/
def impl_lcm.f (k : Nat) (a0 : Int) (a1 : Int) : Option (Int) := (impl_gcd.f k a0 a1).bind fun t101 => (if t101 = 0 then (none) else (some (wrap64 ((wrap64 (Int.tdiv a0 t101)) * a1))))
theorem impl_lcm.mono : ∀ a0 a1 k, LeO (impl_lcm.f k a0 a1) (impl_lcm.f (k + 1) a0 a1) := by
  intro a0 a1 k
  unfold impl_lcm.f
  repeat' first
      | (with_reducible exact impl_gcd.mono _ _ _)
      | (with_reducible exact LeO.refl _)
      | (with_reducible exact LeO.none _)
      | (with_reducible refine LeO.ite ?_ ?_)
      | (with_reducible refine LeO.bind ?_ (fun _ => ?_))
      | exact impl_gcd.mono _ _ _
      | exact LeO.none _
      | refine LeO.ite ?_ ?_
      | refine LeO.bind ?_ (fun _ => ?_)
set_option maxHeartbeats 8000000 in
set_option maxRecDepth 100000 in
theorem impl_lcm.calls (k : Nat) (a0 : Int) (a1 : Int) (r : Int) (w : World) (h : impl_lcm.f k a0 a1 = some r) :
    Calls Try.prog 155 #[.int .i64 a0, .int .i64 a1] w fun e w' => e = .returned (.int .i64 r) ∧ Drawn0 w w' := by
  have H : ((impl_gcd.f k a0 a1).bind fun t101 => (if t101 = 0 then (none) else (some (wrap64 ((wrap64 (Int.tdiv a0 t101)) * a1))))) = some r := h
  clear h
  replace H := Option.bind_eq_some_iff.mp H
  obtain ⟨t101, A30, H⟩ := H
  replace H : (if t101 = 0 then (none) else (some (wrap64 ((wrap64 (Int.tdiv a0 t101)) * a1)))) = some r := H
  have A3 := Aside0.mk A30
  clear A30
  by_cases c4 : t101 = 0
  · rw [if_pos c4] at H
    exact absurd H (by simp)
  · rw [if_neg c4] at H
    have c4b0 : (t101 == 0) = false := beq_eq_false_iff_ne.mpr c4
    have c4b1 : (t101 != 0) = true := bne_iff_ne.mpr c4
    obtain rfl := Option.some.inj H
    go_enter Try.func155, Try.ntmps155
    go_wp2_with (first | ((with_reducible refine gate_callee (f := 170) rfl ?_); refine goesL_ (some 8) rfl rfl Try.func170 (by kernel_rfl) rfl #[.int .i64 a0, .int .i64 a1] rfl (by (try simp only [List.map_toArray, List.map_cons, List.map_nil]); first | done | rfl | (simp only [List.length_drop, List.length_take]; rfl)) ?_; (with_reducible refine (impl_gcd.calls k a0 a1 t101 _ A3.out).mono ?_); rintro e w' ⟨rfl, ⟨nd, rfl⟩⟩; refine ⟨_, rfl, ?_⟩))
    go_ret
    exact ⟨by first | rfl | (simp; done) | (simp [*]; done) | (simp only [i64_w, i32_w]; done) | (simp [*, i64_w, i32_w]; done), by repeat (first | exact Drawn0.refl _ | apply Drawn0.step)⟩



/-! ### impl_hyper: function 114 -/
def impl_hyper.l0 : Nat → Int → List (S62) → Int → Int → Option (Int)
  | 0, _, _, _, _ => none
  | k + 1, x3, x6, x7, x8 => if x8 < x7 then (if 0 ≤ x8 then (if x8 < (x6.length : Int) then ((impl_lcm.f k x3 ((rd_T62 x6 x8).f2)).bind fun t103 => (impl_hyper.l0 k t103 x6 x7 (wrap64 (x8 + 1)))) else (none)) else (none)) else (some x3)
def impl_hyper.f (k : Nat) (l0 : List (S62)) : Option (Int) := impl_hyper.l0 k 1 l0 (l0.length : Int) 0
theorem impl_hyper.mono_l : ∀ k, (∀ y0 y1 y2 y3, LeO (impl_hyper.l0 k y0 y1 y2 y3) (impl_hyper.l0 (k + 1) y0 y1 y2 y3))
  | 0 => fun _ _ _ _ r h => by simp [impl_hyper.l0] at h
  | k + 1 => by
    have ih0 := impl_hyper.mono_l k
    · intro y0 y1 y2 y3
      unfold impl_hyper.l0
      repeat' first
      | (with_reducible exact ih0 _ _ _ _)
      | (with_reducible exact impl_lcm.mono _ _ _)
      | (with_reducible exact LeO.refl _)
      | (with_reducible exact LeO.none _)
      | (with_reducible refine LeO.ite ?_ ?_)
      | (with_reducible refine LeO.bind ?_ (fun _ => ?_))
      | exact ih0 _ _ _ _
      | exact impl_lcm.mono _ _ _
      | exact LeO.none _
      | refine LeO.ite ?_ ?_
      | refine LeO.bind ?_ (fun _ => ?_)
theorem impl_hyper.mono : ∀ a0 k, LeO (impl_hyper.f k a0) (impl_hyper.f (k + 1) a0) := by
  intro a0 k
  have ih0 := impl_hyper.mono_l k
  unfold impl_hyper.f
  repeat' first
      | (with_reducible exact ih0 _ _ _ _)
      | (with_reducible exact impl_lcm.mono _ _ _)
      | (with_reducible exact LeO.refl _)
      | (with_reducible exact LeO.none _)
      | (with_reducible refine LeO.ite ?_ ?_)
      | (with_reducible refine LeO.bind ?_ (fun _ => ?_))
      | exact ih0 _ _ _ _
      | exact impl_lcm.mono _ _ _
      | exact LeO.none _
      | refine LeO.ite ?_ ?_
      | refine LeO.bind ?_ (fun _ => ?_)
set_option maxHeartbeats 8000000 in
set_option maxRecDepth 100000 in
theorem impl_hyper.calls (k : Nat) (A0 : Option Addr) (c0 : Nat) (l0 : List (S62)) (r : Int) (w : World) (hr0 : Kd.C k62 w A0 l0.length l0) (hc0 : l0.length ≤ c0) (h : impl_hyper.f k l0 = some r) :
    Calls Try.prog 114 #[.slice A0 l0.length c0] w fun e w' => e = .returned (.int .i64 r) ∧ Below w.heap.size w w' := by
  have hu62 := Try.underlying62
  have HR0 := Aside0.mk hr0
  have HC0 := Aside0.mk hc0
  clear hr0 hc0
  have HB := Aside0.mk (Below.refl w.heap.size w)
  have H : (impl_hyper.l0 k 1 l0 (l0.length : Int) 0) = some r := h
  clear h
  have H' := Aside0.mk H
  clear H
  go_enter Try.func114, Try.ntmps114
  go_wp2
  go_loopg [3, 8] k (fun kq v3 v8 w' => ∃ (x3_1 : Int) (x8_1 : Int), v3 = .int .i64 x3_1 ∧ v8 = .int .i64 x8_1 ∧ Aside0 (impl_hyper.l0 kq x3_1 l0 (l0.length : Int) x8_1 = some r) ∧ Aside0 (kq ≤ k) ∧ Aside0 (Below w.heap.size w w'))
  case atStart => exact ⟨(1), (0), (by first | rfl | (simp; done) | (simp [*]; done) | (simp only [i64_w, i32_w]; done) | (simp [*, i64_w, i32_w]; done)), (by first | rfl | (simp; done) | (simp [*]; done) | (simp only [i64_w, i32_w]; done) | (simp [*, i64_w, i32_w]; done)), H', ⟨Nat.le_refl _⟩, ⟨by repeat (first | (with_reducible first | exact HB.out | apply below_alloc | apply pw_below_drewN | apply below_drew1) | exact HB.out)⟩⟩
  case round =>
    clear H'
    try clear c1
    obtain ⟨x3_1, x8_1, rfl, rfl, HA, HK1, HB⟩ := hrel
    cases gk with
    | zero => exact absurd HA.out (by simp [impl_hyper.l0])
    | succ k1 =>
      have H := HA.out
      clear HA
      simp only [impl_hyper.l0] at H
      by_cases c2 : x8_1 < (l0.length : Int)
      · rw [if_pos c2] at H
        have c2b0 : decide (x8_1 < (l0.length : Int)) = true := decide_eq_true c2
        clear c2
        by_cases c3 : 0 ≤ x8_1
        · rw [if_pos c3] at H
          have c3b0 : decide (0 ≤ x8_1) = true := decide_eq_true c3
          clear c3
          by_cases c4 : x8_1 < (l0.length : Int)
          · rw [if_pos c4] at H
            have c4b0 : decide (x8_1 < (l0.length : Int)) = true := decide_eq_true c4
            clear c4
            replace H := Option.bind_eq_some_iff.mp H
            obtain ⟨t103, A50, H⟩ := H
            replace H : (impl_hyper.l0 k1 t103 l0 (l0.length : Int) (wrap64 (x8_1 + 1))) = some r := H
            have A5 := Aside0.mk A50
            clear A50
            have H' := Aside0.mk H
            clear H
            have p101 : 0 ≤ (x8_1 : Int) := of_decide_eq_true (by first | (with_reducible assumption) | assumption)
            have q101 : x8_1 < (l0.length : Int) := of_decide_eq_true (by first | (with_reducible assumption) | assumption)
            obtain ⟨ad101, e101, hx101_0, hx101_1, hx101_2⟩ := at_T62 HR0.out x8_1 p101 q101
            cases e101
            replace hx101_0 := (HB.out.cell (World.block_lt_of_cell? w _ hx101_0)).trans hx101_0
            replace hx101_1 := (HB.out.cell (World.block_lt_of_cell? w _ hx101_1)).trans hx101_1
            replace hx101_2 := (HB.out.cell (World.block_lt_of_cell? w _ hx101_2)).trans hx101_2
            replace p101 := eq_true p101
            replace q101 := eq_true q101
            go_wp2_with (first | ((with_reducible refine gate_dst (N := 5) rfl ?_); refine box_event ?hg (N := 5) ?hd (cs := #[.int .i64 0, .int .i64 0, .int .i64 0]) (t := 62) ?hr ?_; (case hd => rfl); (case hg => rfl); (case hr => first | (go_simp; done) | (go_simp; rfl)); intro gb102 hg w6 hbox hb; have n0_ := Aside0.mk (below_step (by repeat (first | (with_reducible first | exact HB.out | apply below_alloc | apply pw_below_drewN | apply below_drew1) | exact HB.out)) hb); have n1_ := Aside0.mk (hbox); have n2_ := Aside0.mk ((by rw [hg]; exact (below_size (by repeat (first | (with_reducible first | exact HB.out | apply below_alloc | apply pw_below_drewN | apply below_drew1) | exact HB.out))) : w.heap.size ≤ gb102)); have n3_ := Aside0.mk ((by rw [hg]; exact (below_size (by repeat (first | (with_reducible first | exact HB.out | apply below_alloc | apply pw_below_drewN | apply below_drew1) | exact HB.out))) : w.heap.size ≤ gb102)); clear HB; have HB := n0_; have BK102 := n1_; have GW102 := n2_; have GE102 := n3_; clear n0_ n1_ n2_ n3_; clear hb hbox hg; have hcz7_0 : w6.cell? ⟨gb102, 0, none⟩ = some (.int .i64 0) := (blk_cell BK102.out 0).trans rfl; have hcz7_1 : w6.cell? ⟨gb102, 1, none⟩ = some (.int .i64 0) := (blk_cell BK102.out 1).trans rfl; have hcz7_2 : w6.cell? ⟨gb102, 2, none⟩ = some (.int .i64 0) := (blk_cell BK102.out 2).trans rfl; have hfz7_0 := blk_frozen BK102.out 0; have hfz7_1 := blk_frozen BK102.out 1; have hfz7_2 := blk_frozen BK102.out 2) | ((with_reducible refine gate_callee (f := 155) rfl ?_); refine goesL_ (some 15) rfl rfl Try.func155 (by kernel_rfl) rfl #[.int .i64 x3_1, .int .i64 ((rd_T62 l0 x8_1).f2)] rfl (by (try simp only [List.map_toArray, List.map_cons, List.map_nil]); first | done | rfl | (simp only [List.length_drop, List.length_take]; rfl)) ?_; (with_reducible refine (impl_lcm.calls k1 x3_1 ((rd_T62 l0 x8_1).f2) t103 _ A5.out).mono ?_); rintro e w' ⟨rfl, ⟨nd, rfl⟩⟩; refine ⟨_, rfl, ?_⟩))
            go_roundg k1
            case measure => have := HK1.out; omega
            case rel => exact ⟨(t103), (wrap64 (x8_1 + 1)), (by first | rfl | (simp; done) | (simp [*]; done) | (simp only [i64_w, i32_w]; done) | (simp [*, i64_w, i32_w]; done)), (by first | rfl | (simp; done) | (simp [*]; done) | (simp only [i64_w, i32_w]; done) | (simp [*, i64_w, i32_w]; done)), H', ⟨by have := HK1.out; omega⟩, ⟨by repeat (first | (with_reducible first | exact HB.out | apply below_alloc | apply pw_below_drewN | apply below_drew1 | refine below_set ?_ GE102.out) | exact HB.out)⟩⟩
          · rw [if_neg c4] at H
            exact absurd H (by simp)
        · rw [if_neg c3] at H
          exact absurd H (by simp)
      · rw [if_neg c2] at H
        have c2b0 : decide (x8_1 < (l0.length : Int)) = false := decide_eq_false c2
        clear c2
        obtain rfl := Option.some.inj H
        go_wp2
        go_ret
        exact ⟨by first | rfl | (simp [errW_none, errW_some] <;> rfl) | (simp [*, errW_none, errW_some] <;> rfl), by repeat (first | (with_reducible first | exact HB.out | apply below_alloc | apply pw_below_drewN | apply below_drew1) | exact HB.out)⟩



/-! ### impl_FirstOverload: function 173 -/
def impl_FirstOverload.l0 : Nat → List (S62) → Int → Option (Int)
  | 0, _, _ => none
  | k + 1, x0, x3 => (impl_hyper.f k x0).bind fun t102 => (if x3 ≤ t102 then ((impl_demand.f k x0 x3).bind fun t103 => (if t103 > x3 then (some x3) else (impl_FirstOverload.l0 k x0 (wrap64 (x3 + 1))))) else (some (-1)))
def impl_FirstOverload.f (k : Nat) (l0 : List (S62)) : Option (Int) := (impl_SetValid.f l0).bind fun t101 => (if t101 = true then (impl_FirstOverload.l0 k l0 1) else (some (-1)))
theorem impl_FirstOverload.mono_l : ∀ k, (∀ y0 y1, LeO (impl_FirstOverload.l0 k y0 y1) (impl_FirstOverload.l0 (k + 1) y0 y1))
  | 0 => fun _ _ r h => by simp [impl_FirstOverload.l0] at h
  | k + 1 => by
    have ih0 := impl_FirstOverload.mono_l k
    · intro y0 y1
      unfold impl_FirstOverload.l0
      repeat' first
      | (with_reducible exact ih0 _ _)
      | (with_reducible exact impl_demand.mono _ _ _)
      | (with_reducible exact impl_hyper.mono _ _)
      | (with_reducible exact LeO.refl _)
      | (with_reducible exact LeO.none _)
      | (with_reducible refine LeO.ite ?_ ?_)
      | (with_reducible refine LeO.bind ?_ (fun _ => ?_))
      | exact ih0 _ _
      | exact impl_demand.mono _ _ _
      | exact impl_hyper.mono _ _
      | exact LeO.none _
      | refine LeO.ite ?_ ?_
      | refine LeO.bind ?_ (fun _ => ?_)
theorem impl_FirstOverload.mono : ∀ a0 k, LeO (impl_FirstOverload.f k a0) (impl_FirstOverload.f (k + 1) a0) := by
  intro a0 k
  have ih0 := impl_FirstOverload.mono_l k
  unfold impl_FirstOverload.f
  repeat' first
      | (with_reducible exact ih0 _ _)
      | (with_reducible exact impl_demand.mono _ _ _)
      | (with_reducible exact impl_hyper.mono _ _)
      | (with_reducible exact LeO.refl _)
      | (with_reducible exact LeO.none _)
      | (with_reducible refine LeO.ite ?_ ?_)
      | (with_reducible refine LeO.bind ?_ (fun _ => ?_))
      | exact ih0 _ _
      | exact impl_demand.mono _ _ _
      | exact impl_hyper.mono _ _
      | exact LeO.none _
      | refine LeO.ite ?_ ?_
      | refine LeO.bind ?_ (fun _ => ?_)
set_option maxHeartbeats 8000000 in
set_option maxRecDepth 100000 in
theorem impl_FirstOverload.calls (k : Nat) (A0 : Option Addr) (c0 : Nat) (l0 : List (S62)) (r : Int) (w : World) (hr0 : Kd.C k62 w A0 l0.length l0) (hc0 : l0.length ≤ c0) (h : impl_FirstOverload.f k l0 = some r) :
    Calls Try.prog 173 #[.slice A0 l0.length c0] w fun e w' => e = .returned (.int .i64 r) ∧ Below w.heap.size w w' := by
  have HR0 := Aside0.mk hr0
  have HC0 := Aside0.mk hc0
  clear hr0 hc0
  have HB := Aside0.mk (Below.refl w.heap.size w)
  have H : ((impl_SetValid.f l0).bind fun t101 => (if t101 = true then (impl_FirstOverload.l0 k l0 1) else (some (-1)))) = some r := h
  clear h
  replace H := Option.bind_eq_some_iff.mp H
  obtain ⟨t101, A20, H⟩ := H
  replace H : (if t101 = true then (impl_FirstOverload.l0 k l0 1) else (some (-1))) = some r := H
  have A2 := Aside0.mk A20
  clear A20
  by_cases c3 : t101 = true
  · subst c3
    have H1 : (impl_FirstOverload.l0 k l0 1) = some r := by rw [if_pos rfl] at H; exact H
    clear H
    have H := H1
    clear H1
    have H' := Aside0.mk H
    clear H
    go_enter Try.func173, Try.ntmps173
    go_wp2_with (first | ((with_reducible refine gate_callee (f := 97) rfl ?_); refine goesL_ (some 5) rfl rfl Try.func97 (by kernel_rfl) rfl #[.slice A0 l0.length c0] rfl (by (try simp only [List.map_toArray, List.map_cons, List.map_nil]); first | done | rfl | (simp only [List.length_drop, List.length_take]; rfl)) ?_; (with_reducible refine (impl_SetValid.calls _ _ l0 true _ ?side1 ?side2 A2.out).mono ?_); (case side1 => repeat (first | exact HR0.out | (with_reducible refine Kd.C_alloc ?_ _) | (with_reducible refine Kd.C_drewN ?_ _) | (with_reducible refine Kd.C_drew ?_))); (case side2 => exact HC0.out); rintro e w4 ⟨rfl, hb⟩; refine ⟨_, rfl, ?_⟩; have n0_ := Aside0.mk (below_step (by repeat (first | (with_reducible first | exact HB.out | apply below_alloc | apply pw_below_drewN | apply below_drew1) | exact HB.out)) hb); clear HB; have HB := n0_; clear n0_; (try clear hb); (try clear hb2); (try clear hk); (try clear hi)))
    go_loopg [3] k (fun kq v3 w' => ∃ (x3_1 : Int), v3 = .int .i64 x3_1 ∧ Aside0 (impl_FirstOverload.l0 kq l0 x3_1 = some r) ∧ Aside0 (kq ≤ k) ∧ Aside0 (Below w.heap.size w w'))
    case atStart => exact ⟨(1), (by first | rfl | (simp; done) | (simp [*]; done) | (simp only [i64_w, i32_w]; done) | (simp [*, i64_w, i32_w]; done)), H', ⟨Nat.le_refl _⟩, ⟨by repeat (first | (with_reducible first | exact HB.out | apply below_alloc | apply pw_below_drewN | apply below_drew1) | exact HB.out)⟩⟩
    case round =>
      clear H'
      try clear c1
      try clear p2
      try clear c3
      obtain ⟨x3_1, rfl, HA, HK1, HB⟩ := hrel
      cases gk with
      | zero => exact absurd HA.out (by simp [impl_FirstOverload.l0])
      | succ k1 =>
        have H := HA.out
        clear HA
        simp only [impl_FirstOverload.l0] at H
        replace H := Option.bind_eq_some_iff.mp H
        obtain ⟨t102, A50, H⟩ := H
        replace H : (if x3_1 ≤ t102 then ((impl_demand.f k1 l0 x3_1).bind fun t103 => (if t103 > x3_1 then (some x3_1) else (impl_FirstOverload.l0 k1 l0 (wrap64 (x3_1 + 1))))) else (some (-1))) = some r := H
        have A5 := Aside0.mk A50
        clear A50
        by_cases c6 : x3_1 ≤ t102
        · rw [if_pos c6] at H
          have c6b0 : decide (x3_1 ≤ t102) = true := decide_eq_true c6
          clear c6
          replace H := Option.bind_eq_some_iff.mp H
          obtain ⟨t103, A70, H⟩ := H
          replace H : (if t103 > x3_1 then (some x3_1) else (impl_FirstOverload.l0 k1 l0 (wrap64 (x3_1 + 1)))) = some r := H
          have A7 := Aside0.mk A70
          clear A70
          by_cases c8 : t103 > x3_1
          · rw [if_pos c8] at H
            have c8b0 : decide (x3_1 < t103) = true := decide_eq_true c8
            clear c8
            obtain rfl := Option.some.inj H
            go_wp2_with (first | ((with_reducible refine gate_callee (f := 114) rfl ?_); refine goesL_ (some 9) rfl rfl Try.func114 (by kernel_rfl) rfl #[.slice A0 l0.length c0] rfl (by (try simp only [List.map_toArray, List.map_cons, List.map_nil]); first | done | rfl | (simp only [List.length_drop, List.length_take]; rfl)) ?_; (with_reducible refine (impl_hyper.calls k1 _ _ l0 t102 _ ?side1 ?side2 A5.out).mono ?_); (case side1 => repeat (first | exact (Kd.C_below HR0.out HB.out) | (with_reducible refine Kd.C_alloc ?_ _) | (with_reducible refine Kd.C_drewN ?_ _) | (with_reducible refine Kd.C_drew ?_))); (case side2 => exact HC0.out); rintro e w9 ⟨rfl, hb⟩; refine ⟨_, rfl, ?_⟩; have n0_ := Aside0.mk (below_step (by repeat (first | (with_reducible first | exact HB.out | apply below_alloc | apply pw_below_drewN | apply below_drew1) | exact HB.out)) hb); clear HB; have HB := n0_; clear n0_; (try clear hb); (try clear hb2); (try clear hk); (try clear hi)) | ((with_reducible refine gate_callee (f := 115) rfl ?_); refine goesL_ (some 15) rfl rfl Try.func115 (by kernel_rfl) rfl #[.slice A0 l0.length c0, .int .i64 x3_1] rfl (by (try simp only [List.map_toArray, List.map_cons, List.map_nil]); first | done | rfl | (simp only [List.length_drop, List.length_take]; rfl)) ?_; (with_reducible refine (impl_demand.calls k1 _ _ l0 x3_1 t103 _ ?side1 ?side2 A7.out).mono ?_); (case side1 => repeat (first | exact (Kd.C_below HR0.out HB.out) | (with_reducible refine Kd.C_alloc ?_ _) | (with_reducible refine Kd.C_drewN ?_ _) | (with_reducible refine Kd.C_drew ?_))); (case side2 => exact HC0.out); rintro e w10 ⟨rfl, hb⟩; refine ⟨_, rfl, ?_⟩; have n0_ := Aside0.mk (below_step (by repeat (first | (with_reducible first | exact HB.out | apply below_alloc | apply pw_below_drewN | apply below_drew1) | exact HB.out)) hb); clear HB; have HB := n0_; clear n0_; (try clear hb); (try clear hb2); (try clear hk); (try clear hi)))
            go_ret
            exact ⟨by first | rfl | (simp [errW_none, errW_some] <;> rfl) | (simp [*, errW_none, errW_some] <;> rfl), by repeat (first | (with_reducible first | exact HB.out | apply below_alloc | apply pw_below_drewN | apply below_drew1) | exact HB.out)⟩
          · rw [if_neg c8] at H
            have c8b0 : decide (x3_1 < t103) = false := decide_eq_false c8
            clear c8
            have H' := Aside0.mk H
            clear H
            go_wp2_with (first | ((with_reducible refine gate_callee (f := 114) rfl ?_); refine goesL_ (some 9) rfl rfl Try.func114 (by kernel_rfl) rfl #[.slice A0 l0.length c0] rfl (by (try simp only [List.map_toArray, List.map_cons, List.map_nil]); first | done | rfl | (simp only [List.length_drop, List.length_take]; rfl)) ?_; (with_reducible refine (impl_hyper.calls k1 _ _ l0 t102 _ ?side1 ?side2 A5.out).mono ?_); (case side1 => repeat (first | exact (Kd.C_below HR0.out HB.out) | (with_reducible refine Kd.C_alloc ?_ _) | (with_reducible refine Kd.C_drewN ?_ _) | (with_reducible refine Kd.C_drew ?_))); (case side2 => exact HC0.out); rintro e w11 ⟨rfl, hb⟩; refine ⟨_, rfl, ?_⟩; have n0_ := Aside0.mk (below_step (by repeat (first | (with_reducible first | exact HB.out | apply below_alloc | apply pw_below_drewN | apply below_drew1) | exact HB.out)) hb); clear HB; have HB := n0_; clear n0_; (try clear hb); (try clear hb2); (try clear hk); (try clear hi)) | ((with_reducible refine gate_callee (f := 115) rfl ?_); refine goesL_ (some 15) rfl rfl Try.func115 (by kernel_rfl) rfl #[.slice A0 l0.length c0, .int .i64 x3_1] rfl (by (try simp only [List.map_toArray, List.map_cons, List.map_nil]); first | done | rfl | (simp only [List.length_drop, List.length_take]; rfl)) ?_; (with_reducible refine (impl_demand.calls k1 _ _ l0 x3_1 t103 _ ?side1 ?side2 A7.out).mono ?_); (case side1 => repeat (first | exact (Kd.C_below HR0.out HB.out) | (with_reducible refine Kd.C_alloc ?_ _) | (with_reducible refine Kd.C_drewN ?_ _) | (with_reducible refine Kd.C_drew ?_))); (case side2 => exact HC0.out); rintro e w12 ⟨rfl, hb⟩; refine ⟨_, rfl, ?_⟩; have n0_ := Aside0.mk (below_step (by repeat (first | (with_reducible first | exact HB.out | apply below_alloc | apply pw_below_drewN | apply below_drew1) | exact HB.out)) hb); clear HB; have HB := n0_; clear n0_; (try clear hb); (try clear hb2); (try clear hk); (try clear hi)))
            go_roundg k1
            case measure => have := HK1.out; omega
            case rel => exact ⟨(wrap64 (x3_1 + 1)), (by first | rfl | (simp; done) | (simp [*]; done) | (simp only [i64_w, i32_w]; done) | (simp [*, i64_w, i32_w]; done)), H', ⟨by have := HK1.out; omega⟩, ⟨by repeat (first | (with_reducible first | exact HB.out | apply below_alloc | apply pw_below_drewN | apply below_drew1) | exact HB.out)⟩⟩
        · rw [if_neg c6] at H
          have c6b0 : decide (x3_1 ≤ t102) = false := decide_eq_false c6
          clear c6
          obtain rfl := Option.some.inj H
          go_wp2_with (first | ((with_reducible refine gate_callee (f := 114) rfl ?_); refine goesL_ (some 9) rfl rfl Try.func114 (by kernel_rfl) rfl #[.slice A0 l0.length c0] rfl (by (try simp only [List.map_toArray, List.map_cons, List.map_nil]); first | done | rfl | (simp only [List.length_drop, List.length_take]; rfl)) ?_; (with_reducible refine (impl_hyper.calls k1 _ _ l0 t102 _ ?side1 ?side2 A5.out).mono ?_); (case side1 => repeat (first | exact (Kd.C_below HR0.out HB.out) | (with_reducible refine Kd.C_alloc ?_ _) | (with_reducible refine Kd.C_drewN ?_ _) | (with_reducible refine Kd.C_drew ?_))); (case side2 => exact HC0.out); rintro e w13 ⟨rfl, hb⟩; refine ⟨_, rfl, ?_⟩; have n0_ := Aside0.mk (below_step (by repeat (first | (with_reducible first | exact HB.out | apply below_alloc | apply pw_below_drewN | apply below_drew1) | exact HB.out)) hb); clear HB; have HB := n0_; clear n0_; (try clear hb); (try clear hb2); (try clear hk); (try clear hi)))
          go_ret
          exact ⟨by first | rfl | (simp [errW_none, errW_some] <;> rfl) | (simp [*, errW_none, errW_some] <;> rfl), by repeat (first | (with_reducible first | exact HB.out | apply below_alloc | apply pw_below_drewN | apply below_drew1) | exact HB.out)⟩
  · replace c3 := Bool.eq_false_iff.mpr c3
    subst c3
    have H1 : (some (-1)) = some r := by rw [if_neg (show ¬ (false = true) by decide)] at H; exact H
    clear H
    have H := H1
    clear H1
    obtain rfl := Option.some.inj H
    go_enter Try.func173, Try.ntmps173
    go_wp2_with (first | ((with_reducible refine gate_callee (f := 97) rfl ?_); refine goesL_ (some 5) rfl rfl Try.func97 (by kernel_rfl) rfl #[.slice A0 l0.length c0] rfl (by (try simp only [List.map_toArray, List.map_cons, List.map_nil]); first | done | rfl | (simp only [List.length_drop, List.length_take]; rfl)) ?_; (with_reducible refine (impl_SetValid.calls _ _ l0 false _ ?side1 ?side2 A2.out).mono ?_); (case side1 => repeat (first | exact HR0.out | (with_reducible refine Kd.C_alloc ?_ _) | (with_reducible refine Kd.C_drewN ?_ _) | (with_reducible refine Kd.C_drew ?_))); (case side2 => exact HC0.out); rintro e w14 ⟨rfl, hb⟩; refine ⟨_, rfl, ?_⟩; have n0_ := Aside0.mk (below_step (by repeat (first | (with_reducible first | exact HB.out | apply below_alloc | apply pw_below_drewN | apply below_drew1) | exact HB.out)) hb); clear HB; have HB := n0_; clear n0_; (try clear hb); (try clear hb2); (try clear hk); (try clear hi)))
    go_ret
    exact ⟨by first | rfl | (simp [errW_none, errW_some] <;> rfl) | (simp [*, errW_none, errW_some] <;> rfl), by repeat (first | (with_reducible first | exact HB.out | apply below_alloc | apply pw_below_drewN | apply below_drew1) | exact HB.out)⟩



/-! ### impl_feasible: function 160 -/
def impl_feasible.f (k : Nat) (l0 : List (S62)) : Option (Bool) := (impl_FirstOverload.f k l0).bind fun t101 => (some (decide (t101 < 0)))
theorem impl_feasible.mono : ∀ a0 k, LeO (impl_feasible.f k a0) (impl_feasible.f (k + 1) a0) := by
  intro a0 k
  unfold impl_feasible.f
  repeat' first
      | (with_reducible exact impl_FirstOverload.mono _ _)
      | (with_reducible exact LeO.refl _)
      | (with_reducible exact LeO.none _)
      | (with_reducible refine LeO.ite ?_ ?_)
      | (with_reducible refine LeO.bind ?_ (fun _ => ?_))
      | exact impl_FirstOverload.mono _ _
      | exact LeO.none _
      | refine LeO.ite ?_ ?_
      | refine LeO.bind ?_ (fun _ => ?_)
set_option maxHeartbeats 8000000 in
set_option maxRecDepth 100000 in
theorem impl_feasible.calls (k : Nat) (A0 : Option Addr) (c0 : Nat) (l0 : List (S62)) (r : Bool) (w : World) (hr0 : Kd.C k62 w A0 l0.length l0) (hc0 : l0.length ≤ c0) (h : impl_feasible.f k l0 = some r) :
    Calls Try.prog 160 #[.slice A0 l0.length c0] w fun e w' => e = .returned (.bool r) ∧ Below w.heap.size w w' := by
  have HR0 := Aside0.mk hr0
  have HC0 := Aside0.mk hc0
  clear hr0 hc0
  have HB := Aside0.mk (Below.refl w.heap.size w)
  have H : ((impl_FirstOverload.f k l0).bind fun t101 => (some (decide (t101 < 0)))) = some r := h
  clear h
  replace H := Option.bind_eq_some_iff.mp H
  obtain ⟨t101, A20, H⟩ := H
  replace H : (some (decide (t101 < 0))) = some r := H
  have A2 := Aside0.mk A20
  clear A20
  obtain rfl := Option.some.inj H
  go_enter Try.func160, Try.ntmps160
  go_wp2_with (first | ((with_reducible refine gate_callee (f := 173) rfl ?_); refine goesL_ (some 4) rfl rfl Try.func173 (by kernel_rfl) rfl #[.slice A0 l0.length c0] rfl (by (try simp only [List.map_toArray, List.map_cons, List.map_nil]); first | done | rfl | (simp only [List.length_drop, List.length_take]; rfl)) ?_; (with_reducible refine (impl_FirstOverload.calls k _ _ l0 t101 _ ?side1 ?side2 A2.out).mono ?_); (case side1 => repeat (first | exact HR0.out | (with_reducible refine Kd.C_alloc ?_ _) | (with_reducible refine Kd.C_drewN ?_ _) | (with_reducible refine Kd.C_drew ?_))); (case side2 => exact HC0.out); rintro e w3 ⟨rfl, hb⟩; refine ⟨_, rfl, ?_⟩; have n0_ := Aside0.mk (below_step (by repeat (first | (with_reducible first | exact HB.out | apply below_alloc | apply pw_below_drewN | apply below_drew1) | exact HB.out)) hb); clear HB; have HB := n0_; clear n0_; (try clear hb); (try clear hb2); (try clear hk); (try clear hi)))
  go_ret
  exact ⟨by first | rfl | (simp [errW_none, errW_some] <;> rfl) | (simp [*, errW_none, errW_some] <;> rfl), by repeat (first | (with_reducible first | exact HB.out | apply below_alloc | apply pw_below_drewN | apply below_drew1) | exact HB.out)⟩



/-! ### impl_onCore: function 161 (given) -/
open Go.Proofs.Ytonifhkplniblaa.Walk
set_option maxHeartbeats 1000000 in
set_option maxRecDepth 100000 in
theorem Clip_Task (A : Option Addr) (n c : Nat) (w : World) (hn : n ≤ c) (hc : c ≤ 9223372036854775807) : Calls Try.prog 174 #[.slice A n c] w fun e w' => e = .returned (.slice A n n) ∧ Drawn0 w w' := by
  have hu := Try.underlying37
  go_enter Try.func174, Try.ntmps174
  go_wp2
  go_ret
  exact ⟨rfl, by repeat (first | exact Drawn0.refl _ | apply Drawn0.step)⟩
/-- The tasks of a processor among the first. -/
def onN (s : List (S62)) (a : List Int) (c : Int) : Nat → List (S62)
  | 0 => []
  | j + 1 => if a.getD j 0 = c then onN s a c j ++ [s.getD j z62] else onN s a c j
theorem onN_len (s : List (S62)) (a : List Int) (c : Int) : ∀ j, (onN s a c j).length ≤ j
  | 0 => Nat.le_refl _
  | j + 1 => by
    have := onN_len s a c j
    unfold onN
    split
    · rw [List.length_append, List.length_singleton]; omega
    · omega
def impl_onCore.f (l0 : List (S62)) (l1 : List Int) (a2 : Int) : Option (List (S62)) := if l1.length ≤ l0.length ∧ l0.length ≤ 1000000 then some (onN l0 l1 a2 l1.length) else none
set_option maxHeartbeats 2000000 in
set_option maxRecDepth 100000 in
theorem impl_onCore.calls (A0 : Option Addr) (c0 : Nat) (l0 : List (S62)) (A1 : Option Addr) (c1 : Nat) (l1 : List Int) (a2 : Int) (r : List (S62)) (w : World) (hr0 : Kd.C k62 w A0 l0.length l0) (hc0 : l0.length ≤ c0) (hr1 : Kd.C (Kd.int .i64) w A1 l1.length l1) (hc1 : l1.length ≤ c1) (h : impl_onCore.f l0 l1 a2 = some r) :
    Calls Try.prog 161 #[.slice A0 l0.length c0, .slice A1 l1.length c1, .int .i64 a2] w fun e w' => ∃ v0_ : Value, e = .returned v0_ ∧ Kd.V k62 62 w' w.heap.size (fun k_ => (w.heap.size ≤ k_)) v0_ r ∧ Below w.heap.size w w' := by
  unfold impl_onCore.f at h
  split at h
  · rename_i hl
    obtain rfl := Option.some.inj h
    have hu := Try.underlying62
    have HL := Lib.hid hl
    have HR0 := Aside0.mk hr0
    have HR1 := Aside0.mk hr1
    have HB := Aside0.mk (Below.refl w.heap.size w)
    have hmx : l1.length ≤ 9223372036854775807 := hr1.2.1
    clear hr0 hc0 hr1 hc1 h hl
    go_enter Try.func161, Try.ntmps161
    go_wp2
    go_loopw [7, 12] (fun v7 v12 w' => ∃ j : Nat, v12 = .int .i64 j ∧ Aside0 (j ≤ l1.length) ∧ Aside0 (Kd.R k62 62 w' w.heap.size (fun _ => True) v7 (onN l0 l1 a2 j)) ∧ Aside0 (Below w.heap.size w w')) (fun v7 v12 _ => l1.length - (intOf v12).toNat)
    case atStart => exact ⟨0, rfl, ⟨Nat.zero_le _⟩, ⟨Kd.R_nil _ _ _ _ _⟩, HB⟩
    case round =>
      clear HB
      obtain ⟨j, rfl, ⟨HJ⟩, HO, HB⟩ := hrel
      by_cases hlt : j < l1.length
      · have b1 : decide ((j : Int) < (l1.length : Int)) = true := decide_eq_true (by omega)
        have hlt0 : j < l0.length := by have := HL.out; omega
        obtain ⟨ad1, e1, hx0⟩ := Kd.at_int HR1.out (j : Int) (by omega) (by omega)
        cases e1
        obtain ⟨ad0, e0, hy0, hy1, hy2⟩ := at_T62 HR0.out (j : Int) (by omega) (by omega)
        cases e0
        replace hx0 := (HB.out.cell (World.block_lt_of_cell? w _ hx0)).trans hx0
        replace hy0 := (HB.out.cell (World.block_lt_of_cell? w _ hy0)).trans hy0
        replace hy1 := (HB.out.cell (World.block_lt_of_cell? w _ hy1)).trans hy1
        replace hy2 := (HB.out.cell (World.block_lt_of_cell? w _ hy2)).trans hy2
        simp only [Int.toNat_natCast] at hx0 hy0 hy1 hy2
        have hrd : rd_T62 l0 (j : Int) = l0.getD j z62 := rfl
        have hrd1 : rd l1 (j : Int) = l1.getD j 0 := rfl
        rw [hrd] at hy0 hy1 hy2
        rw [hrd1] at hx0
        have q0 : 0 ≤ (j : Int) := by omega
        have q1 : (j : Int) < (l1.length : Int) := by omega
        have q2 : (j : Int) < (l0.length : Int) := by omega
        obtain ⟨y, hy⟩ : ∃ y, y = l0.getD j z62 := ⟨_, rfl⟩
        rw [← hy] at hy0 hy1 hy2
        have HY := Lib.hid hy
        obtain ⟨x, hx⟩ : ∃ x, x = l1.getD j 0 := ⟨_, rfl⟩
        rw [← hx] at hx0
        have hst : onN l0 l1 a2 (j + 1) = if x = a2 then onN l0 l1 a2 j ++ [y] else onN l0 l1 a2 j := by rw [hx, HY.out]; rfl
        clear hrd hrd1 hy hx
        by_cases hc : x = a2
        · have e1 : (x == a2) = true := beq_iff_eq.mpr hc
          have hn : onN l0 l1 a2 (j + 1) = onN l0 l1 a2 j ++ [y] := by rw [hst, if_pos hc]
          have HN := Lib.hid hn
          have hle := onN_len l0 l1 a2 j
          have HLE := Lib.hid hle
          clear hn hc hle hst
          obtain ⟨ya, yb, yc⟩ := y
          go_wp2_with ((with_reducible refine gate_builtin (b := .append) (xs := #[.tmp 20, .tmp 25]) rfl ?_); at_builtin; refine Kd.R_append k62 (w0 := w) w.heap.size rfl (.tmp 20) (.tmp 25) 37 62 (.agg #[(.int .i64 0), (.int .i64 0), (.int .i64 0)]) 24 rfl Try.underlying37 info62 rfl (by decide) (by omega) u7 (onN l0 l1 a2 j) (⟨ya, yb, yc⟩ : S62) [.int .i64 ya, .int .i64 yb, .int .i64 yc] (fun _ => True) (fun _ => False) rfl rfl ?aP (fun _ hk => hk.elim) ?aF ?aO ?aB ?aS ?aL ?_; (case aP => exact k62_mkM _ _ _ (⟨ya, yb, yc⟩ : S62)); (case aB => exact (by repeat (first | (with_reducible first | exact HB.out | apply below_alloc | apply pw_below_drewN | apply below_drew1) | exact HB.out))); (case aF => exact (fun _ _ => trivial)); (case aO => exact (by (with_reducible repeat (first | apply Kd.R_alloc | apply Kd.R_drewN | apply Kd.R_drew)); exact HO.out)); (case aS => exact (below_size (by repeat (first | (with_reducible first | exact HB.out | apply below_alloc | apply pw_below_drewN | apply below_drew1) | exact HB.out)))); (case aL => have := HLE.out; have := HL.out; omega); intro v107 w11 ho hb hg hat; rw [← HN.out] at ho; have n0_ := Aside0.mk (hb); have n1_ := Aside0.mk (ho); clear HB; clear HO; have HB := n0_; have HO := n1_; clear n0_ n1_; clear ho hb hg hat)
          go_roundw
          case rel => exact ⟨j + 1, by go_num, ⟨by omega⟩, ⟨by (with_reducible repeat (first | apply Kd.R_alloc | apply Kd.R_drewN | apply Kd.R_drew)); exact HO.out⟩, ⟨by repeat (first | (with_reducible first | exact HB.out | apply below_alloc | apply pw_below_drewN | apply below_drew1) | exact HB.out)⟩⟩
          case measure => simp [intOf]; omega
        · have e1 : (x == a2) = false := beq_eq_false_iff_ne.mpr hc
          have hn : onN l0 l1 a2 (j + 1) = onN l0 l1 a2 j := by rw [hst, if_neg hc]
          have HN := Lib.hid hn
          clear hn hc hst
          go_wp2
          go_roundw
          case rel => exact ⟨j + 1, by go_num, ⟨by omega⟩, ⟨by rw [HN.out]; (with_reducible repeat (first | apply Kd.R_alloc | apply Kd.R_drewN | apply Kd.R_drew)); exact HO.out⟩, ⟨by repeat (first | (with_reducible first | exact HB.out | apply below_alloc | apply pw_below_drewN | apply below_drew1) | exact HB.out)⟩⟩
          case measure => simp [intOf]; omega
      · have b1 : decide ((j : Int) < (l1.length : Int)) = false := decide_eq_false (by omega)
        obtain ⟨A, cap, rfl⟩ := Kd.R_slice HO.out
        have hcap := (Kd.R_reads' HO.out).2.1
        have hcm := r_capmax HO.out
        have hje : j = l1.length := by omega
        have HJE := Lib.hid hje
        clear hje
        go_wp2_with (go_at_call 174; refine (Clip_Task _ _ _ _ hcap hcm).mono ?_; rintro e w3 ⟨rfl, hd⟩; obtain ⟨m, rfl⟩ := hd.out; clear hd)
        go_ret
        refine ⟨_, rfl, ?_, ?_⟩
        · have ho := Kd.R_drewN HO.out m
          rw [HJE.out] at ho ⊢
          exact v_of_r (fun W W' x c h => h) ho (by simp) (by simp)
        · exact pw_below_drewN HB.out m
  · cases h

end Go.Proofs.Ytonifhkplniblaa.Print
