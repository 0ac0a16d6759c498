/- Functions of the translation as plain Lean functions, and their contracts: written by a program. No condition. -/
import Derived.Test.YtkgloicnfphmoaaGreatDoorProg
import Derived.Below
import Derived.Deep.Draws
import Derived.Deep.AppendLies
import Derived.Maps.AppendAt
import Derived.OwnWalk
import Derived.Laws.BytesArg
import Derived.Laws.MakeOwn
import Derived.Laws.OwnMore
import Derived.Deep.OwnRows
import Derived.Tactics
import Derived.Lib.ConvBytes
import Derived.Laws.Slices
import Derived.WalkKit
import Derived.KernelRfl
import Derived.RowKit3
import Derived.Deep.LoopGhost
import Derived.Deep.QuietTactic
import Derived.BigQuiet
import Derived.WideLaws
import Derived.Deep.DeepCutAuto
import Derived.Deep.CutBlock
import Derived.Deep.RegionHeld3
import Derived.Laws.Rows
import Derived.Lib.AppendStr
import Derived.ArgAppend
import Derived.Laws.IdiomCopy
import Derived.OrdersHeld
import Derived.Laws.BitsLemmas
import Derived.RowKit
import Derived.Test.YtkgloicnfphmoaaGreatDoorYFnExactReportWWords
import Derived.Test.YtkgloicnfphmoaaGreatDoorYFnExactReportWLast
import Derived.Test.YtkgloicnfphmoaaGreatDoorYFnExactReportWTab
import Derived.Test.YtkgloicnfphmoaaGreatDoorYFnExactReportWQPut
import Derived.Test.YtkgloicnfphmoaaGreatDoorYFnExactReportWApart
import Derived.Test.YtkgloicnfphmoaaGreatDoorYFnExactReportWArr
import Derived.Test.YtkgloicnfphmoaaGreatDoorYFnExactReportWZeros
import Derived.Test.YtkgloicnfphmoaaGreatDoorYFnExactReportWFoot
import Derived.Test.YtkgloicnfphmoaaGreatDoorYFnExactReportWKept
import Derived.Test.YtkgloicnfphmoaaGreatDoorYFnExactReportWShare
import Derived.Test.YtkgloicnfphmoaaGreatDoorYFnExactReportWN
import Derived.Test.YtkgloicnfphmoaaGreatDoorYFnExactReportWFootNe
import Derived.Test.YtkgloicnfphmoaaGreatDoorYFnExactReportWAt
import Derived.Test.YtkgloicnfphmoaaGreatDoorYFnExactReportWEqStruct
import Derived.Test.YtkgloicnfphmoaaGreatDoorYFnExactReportWRepsOne
import Derived.Test.YtkgloicnfphmoaaGreatDoorYFnExactReportWGuard
import Derived.Test.YtkgloicnfphmoaaGreatDoorYFnExactReportWNEv
import Derived.Test.YtkgloicnfphmoaaGreatDoorYFnExactReportWMore
namespace Go.Proofs.YtkgloicnfphmoaaGreatDoor.Print
open Go.RowKit Go.Proofs.YtkgloicnfphmoaaGreatDoorW.PrintWords Go.Proofs.YtkgloicnfphmoaaGreatDoorW.PrintLast Go.Proofs.YtkgloicnfphmoaaGreatDoorW.PrintMore
attribute [local go_sem] max2_int min2_int max_two min_two max_three min_three max_four min_four   -- for this text's walks alone
set_option linter.unusedVariables false
set_option linter.unusedSimpArgs false



def errW : Option Int → Value
  | none => .nilIface
  | some c => .iface 0 (.int .i64 c)
theorem errW_none : errW none = .nilIface := rfl
theorem errW_some (c : Int) : errW (some c) = .iface 0 (.int .i64 c) := rfl

theorem info3 : (Tryz.prog.info? 3).map (fun i => (i.zero, i.size, i.bytes)) = some (some (.int .i64 0), 1, 8) := by kernel_rfl
theorem info9 : (Tryz.prog.info? 9).map (fun i => (i.zero, i.size, i.bytes)) = some (some (.string ⟨#[]⟩), 1, 16) := by kernel_rfl
theorem info29 : (Tryz.prog.info? 29).map (fun i => (i.zero, i.size, i.bytes)) = some (some (.agg #[(.int .i64 0), (.int .i64 0), (.int .i64 0)]), 3, 24) := by kernel_rfl
-- the values' own types
/-! #### struct type 29 -/
structure S29 where
  f0 : Int
  f1 : Int
  f2 : Int
def z29 : S29 := ⟨(0 : Int), (0 : Int), (0 : Int)⟩
def k29 : Kd S29 := Kd.iso (Kd.pair (Kd.int .i64) (Kd.pair (Kd.int .i64) (Kd.int .i64))) (fun x : S29 => (x.f0, x.f1, x.f2))
theorem k29_heap : Kd.Heap k29 := Kd.heap_iso _ (Kd.heap_pair (Kd.heap_int .i64) (Kd.heap_pair (Kd.heap_int .i64) (Kd.heap_int .i64)))
theorem k29_open {w : World} {x : S29} {cs : List Value} (h : k29.K w x cs) : cs = [.int .i64 x.f0, .int .i64 x.f1, .int .i64 x.f2] := by
  obtain ⟨_, _, rfl, rfl, ⟨_, _, rfl, rfl, rfl⟩⟩ := h
  exact rfl
theorem k29_mkM (w : World) (base : Nat) (ok : Nat → Prop) (x : S29)  : k29.M w base ok x [.int .i64 x.f0, .int .i64 x.f1, .int .i64 x.f2] := ⟨[.int .i64 x.f0], [.int .i64 x.f1, .int .i64 x.f2], rfl, rfl, ⟨[.int .i64 x.f1], [.int .i64 x.f2], rfl, rfl, rfl⟩⟩
def rd_T29 (xs : List S29) (i : Int) : S29 := xs.getD i.toNat z29
theorem at_T29 {w : World} {A : Option Addr} {n : Nat} {xs : List S29} (h : Kd.C k29 w A n xs) (i : Int) (h0 : 0 ≤ i) (h1 : i < n) : ∃ ad , A = some ad ∧ w.cell? (ad.add (i.toNat * 3)) = some (.int .i64 (rd_T29 xs i).f0) ∧ w.cell? ⟨(ad.add (i.toNat * 3)).block, (ad.add (i.toNat * 3)).off + 1, none⟩ = some (.int .i64 (rd_T29 xs i).f1) ∧ w.cell? ⟨(ad.add (i.toNat * 3)).block, (ad.add (i.toNat * 3)).off + 2, none⟩ = some (.int .i64 (rd_T29 xs i).f2) := by
  obtain ⟨ad, c, e, _, hK, hc0⟩ := Kd.C_get h z29 i h0 h1
  have hc : ∀ j u, c[j]? = some u → w.cell? (ad.add (i.toNat * 3 + j)) = some u := hc0
  obtain rfl := k29_open hK
  exact ⟨ad, e, hc 0 _ rfl, by rw [← add_field _ _ 1 (by omega)]; exact hc 1 _ rfl, by rw [← add_field _ _ 2 (by omega)]; exact hc 2 _ rfl⟩

theorem bq {B : Nat} {a w : World} (h : Below B a w := by repeat (first | (with_reducible first | exact HB.out | apply below_alloc | apply pw_below_drewN | apply below_drew1) | exact HB.out)) : Below B a w := h
theorem bq101 {B : Nat} {a w : World} (h : Below B a w := by repeat (first | (with_reducible first | exact HB.out | apply below_alloc | apply pw_below_drewN | apply below_drew1 | refine below_set ?_ GE101.out) | exact HB.out)) : Below B a w := h
theorem gbq {p : Prop} (h : p := by rw [hg]; exact (below_size bq)) : p := h
theorem bq101_106_119 {B : Nat} {a w : World} (h : Below B a w := by repeat (first | (with_reducible first | exact HB.out | apply below_alloc | apply pw_below_drewN | apply below_drew1 | refine below_set ?_ GE101.out | refine below_set ?_ GE106.out | refine below_set ?_ GE119.out) | exact HB.out)) : Below B a w := h
theorem bq106 {B : Nat} {a w : World} (h : Below B a w := by repeat (first | (with_reducible first | exact HB.out | apply below_alloc | apply pw_below_drewN | apply below_drew1 | refine below_set ?_ GE106.out) | exact HB.out)) : Below B a w := h
theorem bq119 {B : Nat} {a w : World} (h : Below B a w := by repeat (first | (with_reducible first | exact HB.out | apply below_alloc | apply pw_below_drewN | apply below_drew1 | refine below_set ?_ GE119.out) | exact HB.out)) : Below B a w := h
theorem bq101_112 {B : Nat} {a w : World} (h : Below B a w := by repeat (first | (with_reducible first | exact HB.out | apply below_alloc | apply pw_below_drewN | apply below_drew1 | refine below_set ?_ GE101.out | refine below_set ?_ GE112.out) | exact HB.out)) : Below B a w := h
theorem gbq101 {p : Prop} (h : p := by rw [hg]; exact (below_size bq101)) : p := h
theorem bq109 {B : Nat} {a w : World} (h : Below B a w := by repeat (first | (with_reducible first | exact HB.out | apply below_alloc | apply pw_below_drewN | apply below_drew1 | refine below_set ?_ GE109.out) | exact HB.out)) : Below B a w := h
theorem bq122 {B : Nat} {a w : World} (h : Below B a w := by repeat (first | (with_reducible first | exact HB.out | apply below_alloc | apply pw_below_drewN | apply below_drew1 | refine below_set ?_ GE122.out) | exact HB.out)) : Below B a w := h
theorem q1 {p : Prop} (h : p := by (try simp only [List.map_toArray, List.map_cons, List.map_nil]); first | done | rfl | (simp only [List.length_drop, List.length_take]; rfl)) : p := h
theorem q2 {p : Prop} (h : p := by first | rfl | (simp; done) | (simp [*]; done) | (simp only [i64_w, i32_w]; done) | (simp [*, i64_w, i32_w]; done)) : p := h
theorem q3 {p : Prop} (h : p := by first | (with_reducible assumption) | assumption) : p := h
theorem q4 {p : Prop} (h : p := by (with_reducible repeat (first | refine blk_drewN ?_ _ | refine blk_drew ?_ | refine blk_alloc ?_ _)); exact BK101.out) : p := h
theorem q5 {p : Prop} (h : p := by (with_reducible repeat (first | refine blk_drewN ?_ _ | refine blk_drew ?_ | refine blk_alloc ?_ _)); exact BK112.out) : p := h
theorem q6 {p : Prop} (h : p := by (with_reducible repeat (first | refine blk_drewN ?_ _ | refine blk_drew ?_ | refine blk_alloc ?_ _)); exact BK122.out) : p := h
theorem q7 {p : Prop} (h : p := by simp only [putAll, Act.put, List.setIfInBounds_toArray, List.set_cons_zero, List.set_cons_succ]) : p := h
theorem q8 {p : Prop} (h : p := by (with_reducible repeat (first | refine blk_drewN ?_ _ | refine blk_drew ?_ | refine blk_alloc ?_ _)); exact BK119.out) : p := h
end Go.Proofs.YtkgloicnfphmoaaGreatDoor.Print
