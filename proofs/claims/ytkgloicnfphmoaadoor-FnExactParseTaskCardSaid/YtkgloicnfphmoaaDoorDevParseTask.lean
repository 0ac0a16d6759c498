/- Walks by hand for FnExactParseTask: no condition beyond what each statement says. -/
import Derived.Test.YtkgloicnfphmoaaDoorPB
import Derived.Test.YtkgloicnfphmoaaDoorWalk
import Derived.Lib.Hide
import Derived.Lib.SplitLaws
import Derived.Test.YtkgloicnfphmoaaDoorDevPtNum
import Derived.Test.YtkgloicnfphmoaaDoorPImplFormatTask
namespace Go.Proofs.YtkgloicnfphmoaaDoor.Print
open Go.RowKit Go.Proofs.YtkgloicnfphmoaaDoorW.PrintWords Go.Proofs.YtkgloicnfphmoaaDoorW.PrintLast Go.Proofs.YtkgloicnfphmoaaDoorW.PrintMore
attribute [local go_sem] max2_int min2_int max_two min_two max_three min_three max_four min_four
set_option linter.unusedVariables false
set_option linter.unusedSimpArgs false
/-- The pieces of a line. -/
def pieces (s : ByteArray) : List ByteArray := Lib.splitB ⟨#[32]⟩ 0 (Lib.countB s ⟨#[32]⟩) s
theorem pieces_len (s : ByteArray) : (pieces s).length = Lib.countB s ⟨#[32]⟩ + 1 := Lib.splitB_all ⟨#[32]⟩ (by decide) 0 _ s rfl
theorem pieces_size (k : Nat) : ∀ (s x : ByteArray), x ∈ Lib.splitB ⟨#[32]⟩ 0 k s → x.size ≤ s.size := by
  induction k with
  | zero => intro s x h; rw [Lib.splitB_zero] at h; rw [List.mem_singleton.1 h]; exact Nat.le_refl _
  | succ k ih =>
    intro s x h
    unfold Lib.splitB at h
    split at h
    · rw [List.mem_singleton.1 h]; exact Nat.le_refl _
    · rcases List.mem_cons.1 h with rfl | h
      · rw [ByteArray.size_extract]; omega
      · have := ih _ _ h; rw [ByteArray.size_extract] at this; omega
def piece (s : ByteArray) (i : Nat) : ByteArray := (pieces s).getD i ByteArray.empty
theorem piece_size (s : ByteArray) (i : Nat) : (piece s i).size ≤ s.size := by
  unfold piece
  by_cases h : i < (pieces s).length
  · rw [List.getD_eq_getElem?_getD, List.getElem?_eq_getElem h]
    exact pieces_size _ _ _ (List.getElem_mem h)
  · rw [List.getD_eq_getElem?_getD, List.getElem?_eq_none (by omega)]
    exact Nat.zero_le _
theorem alloc_at (w : World) (o : Obj) : (w.alloc o).heap[w.heap.size]? = some o := by show (w.heap.push o)[w.heap.size]? = some o; exact Array.getElem?_push_size
theorem alloc_lt (w : World) (o : Obj) : w.heap.size < (w.alloc o).heap.size := by simp
theorem put3 {w : World} {g : Nat} {t : TypeId} {x y z a b c : Value} (h : w.heap[g]? = some (.cells #[x, y, z] t (0, 0))) : (((w.setCell ⟨g, 0, none⟩ a).setCell ⟨g, 1, none⟩ b).setCell ⟨g, 2, none⟩ c).heap[g]? = some (.cells #[a, b, c] t (0, 0)) :=
  blk_put (cs := #[a, b, z]) (blk_put (cs := #[a, y, z]) (blk_put (cs := #[x, y, z]) h 0 a rfl) 1 b rfl) 2 c rfl
theorem put3_below {w0 w : World} {g : Nat} {a b c : Value} (hg : w0.heap.size ≤ g) (h : Below w0.heap.size w0 w) : Below w0.heap.size w0 (((w.setCell ⟨g, 0, none⟩ a).setCell ⟨g, 1, none⟩ b).setCell ⟨g, 2, none⟩ c) :=
  below_set (below_set (below_set h hg) hg) hg
/-- What the program's ParseTask answers. -/
def impl_ParseTask.f (s : ByteArray) : Option (Int × Int × Int × Bool) :=
  if s.size ≤ 20 ∧ (pieces s).length = 4 then
    (impl_FormatTask.f (numB (piece s 1)) (numB (piece s 2)) (numB (piece s 3))).bind fun l =>
      if l.toList = s.toList then some (numB (piece s 1), numB (piece s 2), numB (piece s 3), true) else some (0, 0, 0, false)
  else some (0, 0, 0, false)
set_option maxHeartbeats 4000000 in
set_option maxRecDepth 100000 in
theorem impl_ParseTask.calls (s : ByteArray) (r1 r2 r3 : Int) (r4 : Bool) (w : World) (hm : Met w) (hs : s.size < 4294967281) (h : impl_ParseTask.f s = some (r1, r2, r3, r4)) :
    Calls Tryd.prog 5 #[.string s] w fun e w' => e = .returned (.tuple #[.agg #[.int .i64 r1, .int .i64 r2, .int .i64 r3], .bool r4]) ∧ Below w.heap.size w w' := by
  have hmf : ∀ (fn : Fn) (first cap : Array Value) (w : World), (Instr.makeFunc fn first cap).run Tryd.prog w = .ok (.func fn first cap) w := fun _ _ _ _ => rfl
  have hi9 : (Tryd.prog.info? 9).map (fun i => (i.zero, i.size, i.bytes)) = some (some (.string ByteArray.empty), 1, 16) := by kernel_rfl
  have HS := Lib.hid (fun (V : World) (hV : Below w.heap.size w V) => by
    obtain ⟨m, h3⟩ := (hm.below hV).max
    exact Go.Proofs.Any.strings_Split Go.Proofs.Tryd.splitL hi9 s ⟨#[32]⟩ m V hs h3 (by decide))
  have hpl := pieces_len s
  have hu := Tryd.underlying23
  have HM := Lib.hid hm
  have HH := Lib.hid h
  have HP := Lib.hid hpl
  clear h hm hpl
  go_enter Tryd.func5, Tryd.ntmps5
  go_wp2_with fail
  obtain ⟨W1, hW1⟩ : ∃ W1, W1 = w.alloc (.cells #[.int .i64 0, .int .i64 0, .int .i64 0] 23) := ⟨_, rfl⟩
  rw [← hW1]
  have hb1 : Below w.heap.size w W1 := by rw [hW1]; exact below_alloc (Below.refl _ _) _
  have hg0 : W1.heap[w.heap.size]? = some (.cells #[.int .i64 0, .int .i64 0, .int .i64 0] 23 (0, 0)) := by rw [hW1]; exact alloc_at _ _
  refine (HS.out W1 hb1).mono ?_
  rintro e W2 ⟨rfl, hW2⟩
  have hb2 : Below W1.heap.size W1 W2 := by rw [hW2]; exact below_alloc (Below.refl _ _) _
  have hlt1 : w.heap.size < W1.heap.size := by rw [hW1]; exact alloc_lt _ _
  have hg1 := (hb2.block _ hlt1).trans hg0
  have HC := Lib.hid (fun (i : Nat) (hi : i < (pieces s).length) => by
    have : W2.cell? ⟨W1.heap.size, i, none⟩ = some (.string (piece s i)) := by
      rw [hW2, World.cell?_alloc_at _ _ _ _ rfl]
      simp only [List.getElem?_toArray, List.getElem?_map]
      unfold piece pieces at *
      rw [List.getD_eq_getElem?_getD, List.getElem?_eq_getElem hi]
      rfl
    exact this)
  have HB1 := Lib.hid (hb2.mono (Nat.le_of_lt hlt1) |> hb1.trans)
  have HG := Lib.hid hg1
  have HL := Lib.hid hlt1
  have HL2 := Lib.hid (show W1.heap.size < W2.heap.size by rw [hW2]; exact alloc_lt _ _)
  clear hW1 hW2 hb1 hb2 hg0 hg1 hlt1
  have hpl := HP.out
  have HSz := Lib.hid hs
  clear HP HS hi9 hs
  generalize hc : Lib.countB s ⟨#[32]⟩ + 1 = c at *
  go_upto_region 2 with (fail)
  obtain ⟨W3, hW3⟩ : ∃ W3, W3 = W2.alloc (.cells #[.slice (some ⟨W1.heap.size, 0, none⟩) c c] 28) := ⟨_, rfl⟩
  rw [← hW3]
  have hb3 : Below W2.heap.size W2 W3 := by rw [hW3]; exact below_alloc (Below.refl _ _) _
  have HBX := Lib.hid (show W3.heap[W2.heap.size]? = some (.cells #[.slice (some ⟨W1.heap.size, 0, none⟩) c c] 28 (0, 0)) by rw [hW3]; exact alloc_at _ _)
  have HB3 := Lib.hid (below_step HB1.out hb3)
  have HG3 := Lib.hid ((hb3.block _ (Nat.lt_trans HL.out HL2.out)).trans HG.out)
  have HC3 := Lib.hid (fun (i : Nat) (hi : i < (pieces s).length) => (hb3.cell (World.block_lt_of_cell? _ _ (HC.out i hi))).trans (HC.out i hi))
  clear hW3 hb3 HC HB1 HG
  have hbx := (blk_cell HBX.out 0).trans rfl
  have hz0 : W3.cell? ⟨w.heap.size, 0, none⟩ = some (.int .i64 0) := (blk_cell HG3.out 0).trans rfl
  have hz1 : W3.cell? ⟨w.heap.size, 1, none⟩ = some (.int .i64 0) := (blk_cell HG3.out 1).trans rfl
  have hz2 : W3.cell? ⟨w.heap.size, 2, none⟩ = some (.int .i64 0) := (blk_cell HG3.out 2).trans rfl
  have hf0 := blk_frozen HG3.out 0
  have hf1 := blk_frozen HG3.out 1
  have hf2 := blk_frozen HG3.out 2
  by_cases hA : 20 < s.size
  · have a1 : decide (20 < (s.size : Int)) = true := decide_eq_true (by omega)
    have a2 : decide (20 < s.size) = true := decide_eq_true hA
    have H := HH.out
    unfold impl_ParseTask.f at H
    rw [if_neg (by omega)] at H
    simp only [Option.some.injEq, Prod.mk.injEq] at H
    obtain ⟨rfl, rfl, rfl, rfl⟩ := H
    clear hA hpl hc
    go_wp2
    refine bodyPost_ret (results_ct rfl _ _ w.heap.size 23 #[.int .i64 0, .int .i64 0, .int .i64 0] (0, 0) _ rfl (put3 HG3.out) hu rfl (by kernel_rfl)) rfl ?_
    exact ⟨rfl, put3_below (Nat.le_refl _) HB3.out⟩
  by_cases hB : c = 4
  · subst hB
    have a1 : decide (20 < (s.size : Int)) = false := decide_eq_false (by omega)
    have a2 : decide (20 < s.size) = false := decide_eq_false hA
    have H := HH.out
    unfold impl_ParseTask.f at H
    rw [if_pos ⟨by omega, hpl⟩] at H
    replace H := Option.bind_eq_some_iff.mp H
    obtain ⟨l, h1, H⟩ := H
    have HF := Lib.hid h1
    have HH2 := Lib.hid H
    have HSS := Lib.hid hA
    have HPL := Lib.hid hpl
    clear hA hpl hc H h1
    go_upto_region 5 with (fail)
    have HN := Lib.hid (fun (V : World) (hV : Below W3.heap.size W3 V) (i : Nat) (hi : i < 4) => by
      have hi' : i < (pieces s).length := by rw [HPL.out]; exact hi
      have hsz : (piece s i).size ≤ 281474976710656 := by have := piece_size s i; have := HSz.out; omega
      exact number_calls W2.heap.size W1.heap.size (pieces s) i (piece s i) V HPL.out hi ((hV.cell (World.block_lt_of_cell? _ _ (HC3.out i hi'))).trans (HC3.out i hi')) hsz ((hV.cell (World.block_lt_of_cell? _ _ hbx)).trans hbx) (HM.out.below (below_step HB3.out hV)))
    clear hz0 hz1 hz2 hf0 hf1 hf2 hbx
    go_wp2_with fail
    refine (HN.out W3 (Below.refl _ _) 1 (by decide)).mono ?_
    rintro e W4 ⟨rfl, hb4⟩
    have HB4 := Lib.hid hb4
    clear hb4
    go_wp2_with fail
    refine (HN.out W4 HB4.out 2 (by decide)).mono ?_
    rintro e W5 ⟨rfl, hb5⟩
    have HB5 := Lib.hid (below_step HB4.out hb5)
    clear hb5 HB4
    go_wp2_with fail
    refine (HN.out W5 HB5.out 3 (by decide)).mono ?_
    rintro e W6 ⟨rfl, hb6⟩
    have HB6 := Lib.hid (below_step HB5.out hb6)
    have HBW := Lib.hid (below_step HB3.out HB6.out)
    have hlt3 : w.heap.size < W3.heap.size := by
      have h_ := HG3.out
      rcases Nat.lt_or_ge w.heap.size W3.heap.size with h | h
      · exact h
      · rw [Array.getElem?_eq_none h] at h_; cases h_
    have HG6 := Lib.hid ((HB6.out.block _ hlt3).trans HG3.out)
    have HL6 := Lib.hid (Nat.lt_of_lt_of_le hlt3 HB6.out.size)
    clear hb6 HB5 HN hlt3 HBX HC3 HG3 HB6
    generalize numB (piece s 1) = n1 at *
    generalize numB (piece s 2) = n2 at *
    generalize numB (piece s 3) = n3 at *
    go_upto_region 6 with (fail)
    obtain ⟨W7, hW7⟩ : ∃ W7, W7 = W6.alloc (.cells #[.int .i64 n1, .int .i64 n2, .int .i64 n3] 23) := ⟨_, rfl⟩
    rw [← hW7]
    have hb7 : Below W6.heap.size W6 W7 := by rw [hW7]; exact below_alloc (Below.refl _ _) _
    have HT7 := Lib.hid (show W7.heap[W6.heap.size]? = some (.cells #[.int .i64 n1, .int .i64 n2, .int .i64 n3] 23 (0, 0)) by rw [hW7]; exact alloc_at _ _)
    have HL7 := Lib.hid (show W6.heap.size < W7.heap.size by rw [hW7]; exact alloc_lt _ _)
    have HB7 := Lib.hid (below_step HBW.out hb7)
    have HG7 := Lib.hid ((hb7.block _ HL6.out).trans HG6.out)
    clear hW7 hb7 HG6 HBW
    have ht0 : W7.cell? ⟨W6.heap.size, 0, none⟩ = some (.int .i64 n1) := (blk_cell HT7.out 0).trans rfl
    have ht1 : W7.cell? ⟨W6.heap.size, 1, none⟩ = some (.int .i64 n2) := (blk_cell HT7.out 1).trans rfl
    have ht2 : W7.cell? ⟨W6.heap.size, 2, none⟩ = some (.int .i64 n3) := (blk_cell HT7.out 2).trans rfl
    go_wp2_with fail
    refine (impl_FormatTask.calls n1 n2 n3 l W7 HF.out).mono ?_
    rintro e W8 ⟨rfl, hb8⟩
    clear ht0 ht1 ht2
    have HB8 := Lib.hid (below_step HB7.out hb8)
    have HT8 := Lib.hid ((hb8.block _ HL7.out).trans HT7.out)
    have HG8 := Lib.hid ((hb8.block _ (Nat.lt_trans HL6.out HL7.out)).trans HG7.out)
    clear hb8 HB7 HT7 HG7
    have ht0 : W8.cell? ⟨W6.heap.size, 0, none⟩ = some (.int .i64 n1) := (blk_cell HT8.out 0).trans rfl
    have ht1 : W8.cell? ⟨W6.heap.size, 1, none⟩ = some (.int .i64 n2) := (blk_cell HT8.out 1).trans rfl
    have ht2 : W8.cell? ⟨W6.heap.size, 2, none⟩ = some (.int .i64 n3) := (blk_cell HT8.out 2).trans rfl
    have hz0 : W8.cell? ⟨w.heap.size, 0, none⟩ = some (.int .i64 0) := (blk_cell HG8.out 0).trans rfl
    have hz1 : W8.cell? ⟨w.heap.size, 1, none⟩ = some (.int .i64 0) := (blk_cell HG8.out 1).trans rfl
    have hz2 : W8.cell? ⟨w.heap.size, 2, none⟩ = some (.int .i64 0) := (blk_cell HG8.out 2).trans rfl
    have hf0 := blk_frozen HG8.out 0
    have hf1 := blk_frozen HG8.out 1
    have hf2 := blk_frozen HG8.out 2
    have H := HH2.out
    by_cases hE : l.toList = s.toList
    · rw [if_pos hE] at H
      simp only [Option.some.injEq, Prod.mk.injEq] at H
      obtain ⟨rfl, rfl, rfl, rfl⟩ := H
      have b0 : (l.toList == s.toList) = true := beq_iff_eq.mpr hE
      have b1 : (l.toList != s.toList) = false := bne_eq_false_iff_eq.mpr hE
      have b2 : (!(l.toList == s.toList)) = false := by rw [b0]; rfl
      clear hE
      go_wp2
      refine bodyPost_ret (results_ct rfl _ _ w.heap.size 23 #[.int .i64 n1, .int .i64 n2, .int .i64 n3] (0, 0) _ rfl (put3 HG8.out) hu rfl (by kernel_rfl)) rfl ?_
      exact ⟨rfl, put3_below (Nat.le_refl _) HB8.out⟩
    · rw [if_neg hE] at H
      simp only [Option.some.injEq, Prod.mk.injEq] at H
      obtain ⟨rfl, rfl, rfl, rfl⟩ := H
      have b0 : (l.toList == s.toList) = false := beq_eq_false_iff_ne.mpr hE
      have b1 : (l.toList != s.toList) = true := bne_iff_ne.mpr hE
      have b2 : (!(l.toList == s.toList)) = true := by rw [b0]; rfl
      clear hE
      go_wp2
      refine bodyPost_ret (results_ct rfl _ _ w.heap.size 23 #[.int .i64 0, .int .i64 0, .int .i64 0] (0, 0) _ rfl (put3 HG8.out) hu rfl (by kernel_rfl)) rfl ?_
      exact ⟨rfl, put3_below (Nat.le_refl _) HB8.out⟩
  · have a1 : decide (20 < (s.size : Int)) = false := decide_eq_false (by omega)
    have a2 : decide (20 < s.size) = false := decide_eq_false hA
    have a3 : ((c : Int) == 4) = false := beq_eq_false_iff_ne.mpr (by omega)
    have a4 : ((c : Int) != 4) = true := bne_iff_ne.mpr (by omega)
    have H := HH.out
    unfold impl_ParseTask.f at H
    rw [if_neg (by omega)] at H
    simp only [Option.some.injEq, Prod.mk.injEq] at H
    obtain ⟨rfl, rfl, rfl, rfl⟩ := H
    clear hA hpl hc
    go_wp2
    refine bodyPost_ret (results_ct rfl _ _ w.heap.size 23 #[.int .i64 0, .int .i64 0, .int .i64 0] (0, 0) _ rfl (put3 HG3.out) hu rfl (by kernel_rfl)) rfl ?_
    exact ⟨rfl, put3_below (Nat.le_refl _) HB3.out⟩

end Go.Proofs.YtkgloicnfphmoaaDoor.Print
