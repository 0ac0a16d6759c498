/- Walks by hand for FnExactParseTask: no condition beyond what each statement says. -/
import Derived.Test.YtkgloicnfphmoaaDoorPB
import Derived.Lib.Hide
import Derived.Test.YtkgloicnfphmoaaDoorDevParseTask
import Derived.Test.YtkgloicnfphmoaaDoorPSpecParseTask
import Derived.Test.YtkgloicnfphmoaaDoorPLawsLeqTask
namespace Go.Proofs.YtkgloicnfphmoaaDoor.Print
open Go.RowKit Go.Proofs.YtkgloicnfphmoaaDoorW.PrintWords Go.Proofs.YtkgloicnfphmoaaDoorW.PrintLast Go.Proofs.YtkgloicnfphmoaaDoorW.PrintMore
attribute [local go_sem] max2_int min2_int max_two min_two max_three min_three max_four min_four
set_option linter.unusedVariables false
set_option linter.unusedSimpArgs false
set_option maxHeartbeats 4000000 in
set_option maxRecDepth 100000 in
theorem laws_FnExactParseTask.calls (s : ByteArray) (w : World) (hm : Met w) (h : s.size ≤ 1048576 → ∃ k x1 x2 x3 x4, spec_ParseTask.f k s = some (x1, x2, x3, x4) ∧ impl_ParseTask.f s = some (x1, x2, x3, x4)) :
    Calls Tryd.prog 3 #[.string s] w fun e w' => e = .returned (.bool true) ∧ Below w.heap.size w w' := by
  by_cases hA : 1048576 < s.size
  · have a1 : decide (1048576 < (s.size : Int)) = true := decide_eq_true (by omega)
    have a2 : decide (1048576 < s.size) = true := decide_eq_true hA
    clear hA h
    go_enter Tryd.func3, Tryd.ntmps3
    go_wp2
    go_ret
    exact ⟨rfl, Below.refl _ _⟩
  · have a1 : decide (1048576 < (s.size : Int)) = false := decide_eq_false (by omega)
    have a2 : decide (1048576 < s.size) = false := decide_eq_false hA
    obtain ⟨k, x1, x2, x3, x4, h1, h2⟩ := h (by omega)
    have H1 := Lib.hid h1
    have H2 := Lib.hid h2
    have HM := Lib.hid hm
    have HSZ := Lib.hid (show s.size < 4294967281 by omega)
    clear hA h h1 h2 hm
    go_enter Tryd.func3, Tryd.ntmps3
    go_wp2_with fail
    refine (spec_ParseTask.calls k s x1 x2 x3 x4 w H1.out).mono ?_
    rintro e W1 ⟨rfl, hb1⟩
    have HB1 := Lib.hid hb1
    clear hb1
    go_upto_region 4 with (fail)
    obtain ⟨W2, hW2⟩ : ∃ W2, W2 = W1.alloc (.cells #[.int .i64 x1, .int .i64 x2, .int .i64 x3] 23) := ⟨_, rfl⟩
    rw [← hW2]
    have hb2 : Below W1.heap.size W1 W2 := by rw [hW2]; exact below_alloc (Below.refl _ _) _
    have HT2 := Lib.hid (show W2.heap[W1.heap.size]? = some (.cells #[.int .i64 x1, .int .i64 x2, .int .i64 x3] 23 (0, 0)) by rw [hW2]; exact alloc_at _ _)
    have HL2 := Lib.hid (show W1.heap.size < W2.heap.size by rw [hW2]; exact alloc_lt _ _)
    have HB2 := Lib.hid (below_step HB1.out hb2)
    clear hW2 hb2
    go_wp2_with fail
    refine (impl_ParseTask.calls s x1 x2 x3 x4 W2 (HM.out.below HB2.out) HSZ.out H2.out).mono ?_
    rintro e W3 ⟨rfl, hb3⟩
    have HB3 := Lib.hid (below_step HB2.out hb3)
    have HT3 := Lib.hid ((hb3.block _ HL2.out).trans HT2.out)
    have HL3 := Lib.hid (Nat.lt_of_lt_of_le HL2.out hb3.size)
    clear hb3 HT2
    go_upto_region 5 with (fail)
    obtain ⟨W4, hW4⟩ : ∃ W4, W4 = W3.alloc (.cells #[.int .i64 x1, .int .i64 x2, .int .i64 x3] 23) := ⟨_, rfl⟩
    rw [← hW4]
    have hb4 : Below W3.heap.size W3 W4 := by rw [hW4]; exact below_alloc (Below.refl _ _) _
    have HU4 := Lib.hid (show W4.heap[W3.heap.size]? = some (.cells #[.int .i64 x1, .int .i64 x2, .int .i64 x3] 23 (0, 0)) by rw [hW4]; exact alloc_at _ _)
    have HB4 := Lib.hid (below_step HB3.out hb4)
    have HT4 := Lib.hid ((hb4.block _ HL3.out).trans HT3.out)
    clear hW4 hb4 HT3
    have ht0 : W4.cell? ⟨W1.heap.size, 0, none⟩ = some (.int .i64 x1) := (blk_cell HT4.out 0).trans rfl
    have ht1 : W4.cell? ⟨W1.heap.size, 1, none⟩ = some (.int .i64 x2) := (blk_cell HT4.out 1).trans rfl
    have ht2 : W4.cell? ⟨W1.heap.size, 2, none⟩ = some (.int .i64 x3) := (blk_cell HT4.out 2).trans rfl
    have hz0 : W4.cell? ⟨W3.heap.size, 0, none⟩ = some (.int .i64 x1) := (blk_cell HU4.out 0).trans rfl
    have hz1 : W4.cell? ⟨W3.heap.size, 1, none⟩ = some (.int .i64 x2) := (blk_cell HU4.out 1).trans rfl
    have hz2 : W4.cell? ⟨W3.heap.size, 2, none⟩ = some (.int .i64 x3) := (blk_cell HU4.out 2).trans rfl
    have heq : laws_eqTask.f x1 x2 x3 x1 x2 x3 = some true := by unfold laws_eqTask.f; simp
    have HQ := Lib.hid heq
    have hu := Tryd.underlying23
    clear heq
    go_wp2_with (go_at_call 6; refine (laws_eqTask.calls x1 x2 x3 x1 x2 x3 true W4 HQ.out).mono ?_; rintro e W5 ⟨rfl, hb5⟩; have HB5 := Lib.hid (below_step HB4.out hb5))
    go_ret
    exact ⟨rfl, HB5.out⟩

end Go.Proofs.YtkgloicnfphmoaaDoor.Print
