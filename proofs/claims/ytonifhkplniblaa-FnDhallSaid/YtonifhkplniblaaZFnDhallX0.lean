/- What the program and the reference compute, and that both agree. No condition. -/
import Derived.Test.YtonifhkplniblaaPB
import Derived.Sort.Defs
import Derived.Lib.Hide
import Derived.Test.YtonifhkplniblaaWalk
import Derived.Deep.DeepMust
import Derived.Shelf.SlSortCmp.Insertion
import Derived.Ground.SlsfProg
import Derived.Lib.OwnBridge
import Derived.Below
import Derived.Test.YtonifhkplniblaaWGuard
import Derived.Deep.QuietTactic
import Derived.BigQuiet
import Derived.Lib.LazyBuf
import Derived.Deep.RegionHeld3
import Derived.Deep.LoopGhost
import Derived.Test.YtonifhkplniblaaZFnDhallP0
import Derived.Test.YtonifhkplniblaaZFnDhallP1
namespace Go.Proofs.Ytonifhkplniblaa.Print
open Go.RowKit Go.Proofs.YtonifhkplniblaaW.PrintWords Go.Proofs.YtonifhkplniblaaW.PrintLast Go.Proofs.YtonifhkplniblaaW.PrintMore
attribute [local go_sem] max2_int min2_int max_two min_two max_three min_three max_four min_four
set_option linter.unusedVariables false
set_option linter.unusedSimpArgs false
theorem insInner_size {α : Type} [Inhabited α] (lt : α → α → Bool) (a : Nat) : ∀ (j : Nat) (d : Array α), (Go.Sort.insInner lt a j d).size = d.size
  | 0, d => rfl
  | j + 1, d => by
    unfold Go.Sort.insInner
    split
    · rw [insInner_size lt a j]; simp [Go.Sort.swp]
    · rfl
theorem insOuter_size {α : Type} [Inhabited α] (lt : α → α → Bool) (a b : Nat) : ∀ (n i : Nat) (d : Array α), b - i ≤ n → (Go.Sort.insOuter lt a b i d).size = d.size
  | 0, i, d, h => by unfold Go.Sort.insOuter; rw [if_neg (by omega)]
  | n + 1, i, d, h => by
    unfold Go.Sort.insOuter
    split
    · rw [insOuter_size lt a b n (i + 1) _ (by omega), insInner_size]
    · rfl
theorem insertionSort_size {α : Type} [Inhabited α] (lt : α → α → Bool) (a b : Nat) (d : Array α) : (Go.Sort.insertionSort lt d a b).size = d.size := insOuter_size lt a b _ _ d (Nat.le_refl _)
section
variable {α : Type} [Inhabited α]
theorem get_mid (A B : List α) (y : α) : (A ++ y :: B).toArray[A.length]! = y := by
  rw [getElem!_pos _ _ (by simp)]
  simp
theorem get_next (A B : List α) (r x : α) : (A ++ r :: x :: B).toArray[A.length + 1]! = x := by
  have := get_mid (A ++ [r]) B x
  simpa only [List.append_assoc, List.singleton_append, List.length_append, List.length_singleton] using this
theorem swp_mid (A B : List α) (r x : α) : Go.Sort.swp (A ++ r :: x :: B).toArray (A.length + 1) A.length = (A ++ x :: r :: B).toArray := by
  have h1 : (A ++ r :: x :: B).toArray[A.length]! = r := get_mid A (x :: B) r
  have h2 : (A ++ r :: x :: B).toArray[A.length + 1]! = x := get_next A B r x
  unfold Go.Sort.swp
  rw [h1, h2]
  simp [List.set_append]
/-- The inner loop takes x left over what is greater, up to what is not. -/
theorem ins_in (lt : α → α → Bool) (x : α) : ∀ (n : Nat) (R L post : List α), R.length = n → (∀ r ∈ R, lt x r = true) → (∀ l ∈ L, lt x l = false) →
    Go.Sort.insInner lt 0 (L.length + n) (L ++ R ++ x :: post).toArray = (L ++ x :: (R ++ post)).toArray
  | 0, R, L, post, hn, _, hL => by
    obtain rfl := List.eq_nil_of_length_eq_zero hn
    rw [List.append_nil, List.nil_append, Nat.add_zero]
    rcases List.eq_nil_or_concat L with rfl | ⟨L', l, rfl⟩
    · rfl
    · rw [List.concat_eq_append] at hL ⊢
      have e : (L' ++ [l]).length = L'.length + 1 := by simp
      rw [e]
      unfold Go.Sort.insInner
      have h1 : (L' ++ [l] ++ x :: post).toArray[L'.length + 1]! = x := by rw [← e]; exact get_mid _ _ _
      have h2 : (L' ++ [l] ++ x :: post).toArray[L'.length]! = l := by rw [List.append_assoc]; exact get_mid _ _ _
      rw [h1, h2, hL l (by simp), Bool.and_false, if_neg (by simp)]
  | n + 1, R, L, post, hn, hR, hL => by
    rcases List.eq_nil_or_concat R with rfl | ⟨R', r, rfl⟩
    · simp at hn
    · rw [List.concat_eq_append] at hn hR ⊢
      have hn' : R'.length = n := by simpa using hn
      have e : L ++ (R' ++ [r]) ++ x :: post = (L ++ R') ++ r :: x :: post := by simp
      have el : L.length + n = (L ++ R').length := by simp [hn']
      rw [e, ← Nat.add_assoc, el]
      unfold Go.Sort.insInner
      have h2 : ((L ++ R') ++ r :: x :: post).toArray[(L ++ R').length]! = r := get_mid _ _ _
      have h1 : ((L ++ R') ++ r :: x :: post).toArray[(L ++ R').length + 1]! = x := get_next (L ++ R') post r x
      rw [h1, h2, hR r (by simp), if_pos (by simp), swp_mid, ← el]
      have := ins_in lt x n R' L (r :: post) hn' (fun r' h' => hR r' (by simp [h'])) hL
      rw [this]
      simp
/-- The elements by ascending number, ties as they came. -/
def bucketP (dl : α → Int) (ys : List α) : List α := (List.range 12).flatMap (fun (d : Nat) => ys.filter (fun y => decide (dl y = (d : Int) + 1)))
omit [Inhabited α] in
theorem bucketP_nil (dl : α → Int) : bucketP dl ([] : List α) = [] := by unfold bucketP; simp
theorem range_cut : ∀ e, e < 12 → List.range 12 = List.range e ++ e :: (List.range 12).drop (e + 1) ∧ (∀ d ∈ List.range e, d < e) ∧ ∀ d ∈ (List.range 12).drop (e + 1), e < d := by decide
omit [Inhabited α] in
theorem flat_same (dl : α → Int) (ys : List α) (x : α) : ∀ (ds : List Nat), (∀ d ∈ ds, dl x ≠ (d : Int) + 1) → ds.flatMap (fun (d : Nat) => (ys ++ [x]).filter (fun y => decide (dl y = (d : Int) + 1))) = ds.flatMap (fun (d : Nat) => ys.filter (fun y => decide (dl y = (d : Int) + 1)))
  | [], _ => rfl
  | d :: ds, h => by
    rw [List.flatMap_cons, List.flatMap_cons, flat_same dl ys x ds (fun d' h' => h d' (by simp [h'])), List.filter_append]
    have : [x].filter (fun y => decide (dl y = (d : Int) + 1)) = [] := by simp [h d (by simp)]
    rw [this, List.append_nil]
omit [Inhabited α] in
theorem bucket_split (dl : α → Int) (ys : List α) (x : α) (hx : 1 ≤ dl x ∧ dl x ≤ 12) : ∃ L R, bucketP dl ys = L ++ R ∧ bucketP dl (ys ++ [x]) = L ++ x :: R ∧ (∀ r ∈ R, dl x < dl r) ∧ (∀ l ∈ L, ¬ dl x < dl l) := by
  obtain ⟨e, he⟩ : ∃ e : Nat, dl x = (e : Int) + 1 := ⟨(dl x - 1).toNat, by omega⟩
  obtain ⟨h1, h2, h3⟩ := range_cut e (by omega)
  obtain ⟨P, hP⟩ : ∃ P, P = List.range e := ⟨_, rfl⟩
  obtain ⟨S, hS⟩ : ∃ S, S = (List.range 12).drop (e + 1) := ⟨_, rfl⟩
  rw [← hP, ← hS] at h1
  rw [← hP] at h2
  rw [← hS] at h3
  refine ⟨P.flatMap (fun (d : Nat) => ys.filter (fun y => decide (dl y = (d : Int) + 1))) ++ ys.filter (fun y => decide (dl y = (e : Int) + 1)), S.flatMap (fun (d : Nat) => ys.filter (fun y => decide (dl y = (d : Int) + 1))), ?_, ?_, ?_, ?_⟩
  · unfold bucketP; rw [h1]; simp
  · unfold bucketP
    rw [h1, List.flatMap_append, List.flatMap_cons, flat_same dl ys x P (fun d hd => by have := h2 d hd; omega), flat_same dl ys x S (fun d hd => by have := h3 d hd; omega), List.filter_append]
    have : [x].filter (fun y => decide (dl y = (e : Int) + 1)) = [x] := by simp [he]
    rw [this]
    simp
  · intro r hr
    obtain ⟨d, hd, hm⟩ := List.mem_flatMap.1 hr
    have := of_decide_eq_true (List.mem_filter.1 hm).2
    have := h3 d hd
    omega
  · intro l hl
    rcases List.mem_append.1 hl with h | h
    · obtain ⟨d, hd, hm⟩ := List.mem_flatMap.1 h
      have := of_decide_eq_true (List.mem_filter.1 hm).2
      have := h2 d hd
      omega
    · have := of_decide_eq_true (List.mem_filter.1 h).2
      omega
theorem ins_bucket (lt : α → α → Bool) (dl : α → Int) (hlt : ∀ x y, lt x y = decide (dl x < dl y)) (xs : List α) (hx : ∀ x ∈ xs, 1 ≤ dl x ∧ dl x ≤ 12) : ∀ (ys zs : List α), xs = ys ++ zs → (bucketP dl ys).length = ys.length →
    ∀ n, zs.length = n → Go.Sort.insOuter lt 0 xs.length ys.length (bucketP dl ys ++ zs).toArray = (bucketP dl xs).toArray ∧ (bucketP dl xs).length = xs.length
  | ys, zs, h, hl, 0, hn => by
    obtain rfl := List.eq_nil_of_length_eq_zero hn
    rw [List.append_nil] at h
    subst h
    unfold Go.Sort.insOuter
    rw [if_neg (by omega), List.append_nil]
    exact ⟨rfl, hl⟩
  | ys, [], h, hl, n + 1, hn => by simp at hn
  | ys, z :: zs, h, hl, n + 1, hn => by
    have hz : 1 ≤ dl z ∧ dl z ≤ 12 := hx z (by rw [h]; simp)
    obtain ⟨L, R, e1, e2, e3, e4⟩ := bucket_split dl ys z hz
    have hlr : ys.length = L.length + R.length := by rw [← hl, e1, List.length_append]
    have ht := ins_bucket lt dl hlt xs hx (ys ++ [z]) zs (by rw [h]; simp) (by rw [e2]; simp; omega) n (by simpa using hn)
    refine ⟨?_, ht.2⟩
    unfold Go.Sort.insOuter
    rw [if_pos (by rw [h]; simp), e1]
    have hi := ins_in lt z R.length R L zs rfl (fun r hr => by rw [hlt]; exact decide_eq_true (e3 r hr)) (fun l hl => by rw [hlt]; exact decide_eq_false (e4 l hl))
    rw [hlr, hi, ← hlr]
    have h5 := ht.1
    rw [e2, List.length_append, List.length_singleton] at h5
    rw [← h5]
    congr 2
    simp
/-- The sort, from the second element on. -/
theorem sort_bucket (lt : α → α → Bool) (dl : α → Int) (hlt : ∀ x y, lt x y = decide (dl x < dl y)) (xs : List α) (hx : ∀ x ∈ xs, 1 ≤ dl x ∧ dl x ≤ 12) (h0 : 0 < xs.length) : (Go.Sort.insertionSort lt xs.toArray 0 xs.length).toList = bucketP dl xs := by
  have hb : bucketP dl ([] : List α) = [] := by unfold bucketP; simp
  have h := (ins_bucket lt dl hlt xs hx [] xs rfl (by rw [hb]) xs.length rfl).1
  rw [hb, List.nil_append] at h
  unfold Go.Sort.insOuter at h
  rw [List.length_nil, if_pos h0] at h
  unfold Go.Sort.insertionSort
  rw [show Go.Sort.insInner lt 0 0 xs.toArray = xs.toArray from rfl] at h
  rw [h]
end

end Go.Proofs.Ytonifhkplniblaa.Print

namespace Go.Proofs.Ytonifhkplniblaa.Print
open Go.RowKit Go.Proofs.YtonifhkplniblaaW.PrintWords Go.Proofs.YtonifhkplniblaaW.PrintLast Go.Proofs.YtonifhkplniblaaW.PrintMore
attribute [local go_sem] max2_int min2_int max_two min_two max_three min_three max_four min_four
set_option linter.unusedVariables false
set_option linter.unusedSimpArgs false
end Go.Proofs.Ytonifhkplniblaa.Print
namespace Go.Proofs
open Go.Shelf Go.RowKit Go.Lib Go.Sort
def Try.insInt_ren : Go.Shelf.Ren := ⟨fun | 20 => 171 | n => n, fun | 24 => 3 | 22 => 30 | 3 => 3 | 25 => 152 | 4 => 4 | 0 => 0 | n => n, fun | n => n⟩
theorem Try.insInt : Go.Proofs.SlLaysF.n20 Try.prog Try.insInt_ren := {
  mixed := by kernel_rfl
  f20 := ⟨Try.f171.name, by decide, Try.func171.trans (congrArg some (by kernel_rfl))⟩
  t0 := Try.underlying0
  a0 := Try.isAgg0
  z0 := Try.sizeOf0
  v0 := Try.zeroValue0
  t3 := Try.underlying3
  a3 := Try.isAgg3
  z3 := Try.sizeOf3
  v3 := Try.zeroValue3
  t4 := Try.underlying4
  a4 := Try.isAgg4
  z4 := Try.sizeOf4
  v4 := Try.zeroValue4
  t22 := Try.underlying30
  a22 := Try.isAgg30
  z22 := Try.sizeOf30
  v22 := Try.zeroValue30
  a24 := Try.isAgg3
  z24 := Try.sizeOf3
  t25 := Try.underlying152
  a25 := Try.isAgg152
  z25 := Try.sizeOf152
  v25 := Try.zeroValue152 }
end Go.Proofs
namespace Go.Proofs.Ytonifhkplniblaa.Print
open Go.RowKit Go.Proofs.YtonifhkplniblaaW.PrintWords Go.Proofs.YtonifhkplniblaaW.PrintLast Go.Proofs.YtonifhkplniblaaW.PrintMore
attribute [local go_sem] max2_int min2_int max_two min_two max_three min_three max_four min_four
set_option linter.unusedVariables false
set_option linter.unusedSimpArgs false
open Go.Proofs.Ytonifhkplniblaa.Walk
/-- A number below n as the program holds it. -/
def finV {n : Nat} (x : Fin n) : Value := .int .i64 (x.val : Int)
/-- Stable sort of at most 19 numbers below n by a reading closure. -/
def sortF {n : Nat} [Inhabited (Fin n)] (cf : Fin n → Fin n → Int) (xs : List (Fin n)) : List (Fin n) := (Go.Sort.insertionSort (Go.Proofs.ltOf cf) xs.toArray 0 xs.length).toList
set_option maxHeartbeats 4000000 in
set_option maxRecDepth 100000 in
theorem stable_calls {n : Nat} [Inhabited (Fin n)] (cf : Fin n → Fin n → Int) (fp : FuncId) (cb : Array Value) (g0 cap : Nat) (xs : List (Fin n)) (w : World)
    (h19 : xs.length ≤ 19) (hH : Go.Sort.Holds finV w g0 0 xs.toArray) (hcmp : Go.Proofs.CmpReads Try.prog fp cb finV cf g0 0 xs.length w) (eg : ∀ args w, (callFunc fp args).run Try.prog w = .ok (.enter fp args) w) :
    Calls Try.prog 156 #[.slice (some ⟨g0, 0, none⟩) xs.length cap, .int .i64 xs.length, .func (.func fp) #[] cb] w fun e w' => e = .returned (.tuple #[]) ∧ ∃ q, w' = (Go.Sort.putRow finV w g0 0 (sortF cf xs).toArray).drewN q := by
  have hins := Go.Proofs.Any.insertionSortCmpFunc_one (α := Fin n) Go.Proofs.Try.insInt finV (fun _ => rfl) cf fp cb g0 0 cap 0 xs.length xs.toArray w eg (by simpa using hcmp) hH (Nat.zero_le _) (by simp) (by simp; omega)
  change Calls Try.prog 171 _ _ _ at hins
  have hsz : xs.toArray.size = xs.length := by simp
  rw [hsz] at hins
  have HI := Lib.hid hins
  have b1 : decide ((20 : Int) ≤ (xs.length : Int)) = false := decide_eq_false (by omega)
  have b2 : decide ((20 : Int) < (xs.length : Int)) = false := decide_eq_false (by omega)
  clear hins hsz hH hcmp
  go_enter Try.func156, Try.ntmps156
  go_wp2_with fail
  go_loopw [7, 8] (fun v7 v8 w' => v7 = .int .i64 0 ∧ v8 = .int .i64 20 ∧ w' = w) (fun _ _ _ => 0)
  case atStart => exact ⟨rfl, rfl, rfl⟩
  case round =>
    obtain ⟨rfl, rfl, rfl⟩ := hrel
    go_wp2_with (go_at_call 171; refine HI.out.mono ?_; rintro e w2 ⟨rfl, hq⟩; have HQ := Lib.hid hq; clear hq)
    go_loopw [6] (fun v6 w' => v6 = .int .i64 20 ∧ w' = w2) (fun _ _ => 0)
    case atStart => exact ⟨rfl, rfl⟩
    case round =>
      obtain ⟨rfl, rfl⟩ := hrel
      go_wp2
      go_end0
      exact ⟨rfl, HQ.out⟩
theorem sortF_len {n : Nat} [Inhabited (Fin n)] (cf : Fin n → Fin n → Int) (xs : List (Fin n)) : (sortF cf xs).length = xs.length := by
  unfold sortF
  rw [Array.length_toList, insertionSort_size]
  simp
theorem sortWorld_at {n : Nat} [Inhabited (Fin n)] (w : World) (g0 m : Nat) (dk : Array (Fin n)) (os : Array Obj) : w.heap.size ≤ (Go.Proofs.sortWorld finV w g0 0 m dk os).heap.size ∧ ∀ k, k < w.heap.size → k ≠ g0 → (Go.Proofs.sortWorld finV w g0 0 m dk os).heap[k]? = w.heap[k]? := by
  unfold Go.Proofs.sortWorld Go.Sort.grow Go.Sort.putRow Go.Sort.mapBlock Go.Sort.ahead
  refine ⟨by simp, fun k hk hne => ?_⟩
  simp only
  rw [Array.getElem?_append_left (by simpa using hk), Array.getElem?_modify, if_neg (fun e => hne e.symm)]
theorem sortWorld_below {n : Nat} [Inhabited (Fin n)] {w w00 : World} {B : Nat} (g0 m : Nat) (dk : Array (Fin n)) (os : Array Obj) (hB : Below B w00 w) (hg : B ≤ g0) (hlt : g0 < w.heap.size) : Below B w00 (Go.Proofs.sortWorld finV w g0 0 m dk os) := by
  have h := Lib.below_putRow (enc := finV) (q := m) (d := dk) hB hg
  refine ⟨h.os, h.tape, h.output, Nat.le_trans h.size (by simp [Go.Proofs.sortWorld, Go.Sort.grow]), fun k hk => ?_⟩
  rw [(sortWorld_at w g0 m dk os).2 k (by omega) (by omega)]
  exact hB.block k hk
set_option maxHeartbeats 1000000 in
set_option maxRecDepth 100000 in
/-- slices.SortStableFunc at a row of the call's own, of at most 19 numbers below n: the row holds them sorted. -/
theorem sortStable_calls {n : Nat} [Inhabited (Fin n)] (cf : Fin n → Fin n → Int) (fp : FuncId) (cb : Array Value) (eg : ∀ args w, (callFunc fp args).run Try.prog w = .ok (.enter fp args) w) (B : Nat) (g0 cap : Nat) (xs : List (Fin n)) (w w00 : World)
    (h19 : xs.length ≤ 19) (ho : w.ownsRow B 3 1 (.slice (some ⟨g0, 0, none⟩) xs.length cap) xs.length (xs.map finV)) (hB : Below B w00 w)
    (hcmp : ∀ W, w.heap.size ≤ W.heap.size → (∀ k, k < w.heap.size → k ≠ g0 → W.heap[k]? = w.heap[k]?) → Below B w00 W → ∀ x y : Fin n, Calls Try.prog fp (#[finV x, finV y] ++ cb) W fun e w' => e = .returned (.int .i64 (cf x y)) ∧ ∃ q, w' = W.drewN q) :
    Calls Try.prog 123 #[.slice (some ⟨g0, 0, none⟩) xs.length cap, .func (.func fp) #[] cb] w fun e w' => e = .returned (.tuple #[]) ∧ w'.ownsRow B 3 1 (.slice (some ⟨g0, 0, none⟩) xs.length cap) xs.length ((sortF cf xs).map finV) ∧ Below B w00 w' := by
  obtain ⟨g1, cap1, e1, hb1, hlt1, hn1, hm1, hl1, hH⟩ := Lib.holds_of_ownsRow ho (by simp)
  injection e1 with e1 e2 e3
  injection e1 with e1
  injection e1 with e1
  subst e1
  have hst := stable_calls cf fp cb g0 cap xs w h19 hH (fun m os dk hs x y => by
    have hw := sortWorld_at w g0 m dk os
    exact hcmp _ hw.1 hw.2 (sortWorld_below g0 m dk os hB hb1 hlt1) x y) eg
  have hfin : ∀ q, ((Go.Sort.putRow finV w g0 0 (sortF cf xs).toArray).drewN q).ownsRow B 3 1 (.slice (some ⟨g0, 0, none⟩) xs.length cap) xs.length ((sortF cf xs).map finV) := fun q => by
    have := Lib.ownsRow_putRow (q := q) (k := xs.length) (ys := sortF cf xs) ho (sortF_len cf xs) (Nat.le_refl _)
    rw [List.take_of_length_le (by rw [sortF_len]; exact Nat.le_refl _)] at this
    exact this
  have hfb : ∀ q, Below B w00 ((Go.Sort.putRow finV w g0 0 (sortF cf xs).toArray).drewN q) := fun q => Lib.below_putRow (q := q) hB hb1
  have HS := Lib.hid (hst.mono (R' := fun e w' => e = .returned (.tuple #[]) ∧ w'.ownsRow B 3 1 (.slice (some ⟨g0, 0, none⟩) xs.length cap) xs.length ((sortF cf xs).map finV) ∧ Below B w00 w') (by
    rintro e w' ⟨rfl, q, rfl⟩
    exact ⟨rfl, hfin q, hfb q⟩))
  clear hst hfin hfb hcmp ho hB hH hb1 hlt1 hn1 hm1 hl1 e2 e3
  go_enter Try.func123, Try.ntmps123
  go_wp2_with (go_at_call 156; refine HS.out.mono ?_; rintro e w2 ⟨rfl, h1, h2⟩)
  go_end0
  exact ⟨rfl, h1, h2⟩
theorem insertion_nil (A : Option Addr) (c : Nat) (fv : Value) (w : World) : Calls Try.prog 171 #[.slice A 0 c, .int .i64 0, .int .i64 0, fv] w fun e w' => e = .returned (.tuple #[]) ∧ w' = w := by
  go_enter Try.func171, Try.ntmps171
  go_wp2_with fail
  go_loopw [8] (fun v8 w' => v8 = .int .i64 1 ∧ w' = w) (fun _ _ => 0)
  case atStart => exact ⟨rfl, rfl⟩
  case round =>
    obtain ⟨rfl, rfl⟩ := hrel
    go_wp2
    go_end0
    exact ⟨rfl, rfl⟩
theorem stable_nil (A : Option Addr) (c : Nat) (fv : Value) (w : World) : Calls Try.prog 156 #[.slice A 0 c, .int .i64 0, fv] w fun e w' => e = .returned (.tuple #[]) ∧ w' = w := by
  have HI := Lib.hid (insertion_nil A c fv w)
  go_enter Try.func156, Try.ntmps156
  go_wp2_with fail
  go_loopw [7, 8] (fun v7 v8 w' => v7 = .int .i64 0 ∧ v8 = .int .i64 20 ∧ w' = w) (fun _ _ _ => 0)
  case atStart => exact ⟨rfl, rfl, rfl⟩
  case round =>
    obtain ⟨rfl, rfl, rfl⟩ := hrel
    go_wp2_with (go_at_call 171; refine HI.out.mono ?_; rintro e w2 ⟨rfl, rfl⟩)
    go_loopw [6] (fun v6 w' => v6 = .int .i64 20 ∧ w' = w2) (fun _ _ => 0)
    case atStart => exact ⟨rfl, rfl⟩
    case round =>
      obtain ⟨rfl, rfl⟩ := hrel
      go_wp2
      go_end0
      exact ⟨rfl, rfl⟩
theorem sortStable_nil (A : Option Addr) (c : Nat) (fv : Value) (w : World) : Calls Try.prog 123 #[.slice A 0 c, fv] w fun e w' => e = .returned (.tuple #[]) ∧ w' = w := by
  have HS := Lib.hid (stable_nil A c fv w)
  go_enter Try.func123, Try.ntmps123
  go_wp2_with (go_at_call 156; refine HS.out.mono ?_; rintro e w2 ⟨rfl, rfl⟩)
  go_end0
  exact ⟨rfl, rfl⟩

end Go.Proofs.Ytonifhkplniblaa.Print

namespace Go.Proofs.Ytonifhkplniblaa.Print
open Go.RowKit Go.Proofs.YtonifhkplniblaaW.PrintWords Go.Proofs.YtonifhkplniblaaW.PrintLast Go.Proofs.YtonifhkplniblaaW.PrintMore
attribute [local go_sem] max2_int min2_int max_two min_two max_three min_three max_four min_four
set_option linter.unusedVariables false
set_option linter.unusedSimpArgs false
open Go.Proofs.Ytonifhkplniblaa.Walk
/-- A simulation, as it is read. -/
def MachR (W : World) (g : Nat) (A : Option Addr) (c : Nat) (jobs : List (S67)) (D : Option Addr) (cd : Nat) (done : List Int) (now : Int) : Prop :=
  W.heap[g]? = some (.cells #[.slice A jobs.length c, .slice D done.length cd, .int .i64 now] 124 (0, 0)) ∧ Kd.C k67 W A jobs.length jobs ∧ Kd.C (Kd.int .i64) W D done.length done ∧ done.length = jobs.length
theorem MachR.drewN {W : World} {g : Nat} {A : Option Addr} {c : Nat} {jobs : List (S67)} {D : Option Addr} {cd : Nat} {done : List Int} {now : Int} (h : MachR W g A c jobs D cd done now) (n : Nat) : MachR (W.drewN n) g A c jobs D cd done now :=
  ⟨blk_drewN h.1 n, Kd.C_drewN h.2.1 n, Kd.C_drewN h.2.2.1 n, h.2.2.2⟩
theorem MachR.below {W W' : World} {g : Nat} {A : Option Addr} {c : Nat} {jobs : List (S67)} {D : Option Addr} {cd : Nat} {done : List Int} {now : Int} (h : MachR W g A c jobs D cd done now) (hb : Below W.heap.size W W') : MachR W' g A c jobs D cd done now :=
  ⟨blk_below h.1 hb, Kd.C_below h.2.1 hb, Kd.C_below h.2.2.1 hb, h.2.2.2⟩
/-- Whether a job is released and unfinished. -/
def rdyB (jobs : List (S67)) (done : List Int) (now : Int) (i : Nat) : Bool := decide ((jobs.getD i z67).f1 ≤ now) && decide (done.getD i 0 < (jobs.getD i z67).f3)
set_option maxHeartbeats 2000000 in
set_option maxRecDepth 100000 in
theorem ready_calls (g : Nat) (A : Option Addr) (c : Nat) (jobs : List (S67)) (D : Option Addr) (cd : Nat) (done : List Int) (now : Int) (i : Nat) (hi : i < jobs.length) (w : World) (h : MachR w g A c jobs D cd done now) :
    Calls Try.prog 110 #[.pointer (some ⟨g, 0, none⟩), .int .i64 (i : Int)] w fun e w' => e = .returned (.bool (rdyB jobs done now i)) ∧ ∃ m, w' = w.drewN m := by
  obtain ⟨hb, hj, hd, hl⟩ := h
  have hm0 : w.cell? ⟨g, 0, none⟩ = some (.slice A jobs.length c) := (blk_cell hb 0).trans rfl
  have hm1 : w.cell? ⟨g, 1, none⟩ = some (.slice D done.length cd) := (blk_cell hb 1).trans rfl
  have hm2 : w.cell? ⟨g, 2, none⟩ = some (.int .i64 now) := (blk_cell hb 2).trans rfl
  obtain ⟨ad0, e0, hy0, hy1, hy2, hy3⟩ := at_T67 hj (i : Int) (by omega) (by omega)
  cases e0
  obtain ⟨ad1, e1, hx0⟩ := Kd.at_int hd (i : Int) (by omega) (by omega)
  cases e1
  simp only [Int.toNat_natCast] at hy0 hy1 hy2 hy3 hx0
  have hrd : rd_T67 jobs (i : Int) = jobs.getD i z67 := rfl
  have hrd1 : rd done (i : Int) = done.getD i 0 := rfl
  rw [hrd] at hy0 hy1 hy2 hy3
  rw [hrd1] at hx0
  have hu := Try.underlying124
  have huJ := Try.underlying67
  have q0 : 0 ≤ (i : Int) := by omega
  have q1 : (i : Int) < (jobs.length : Int) := by omega
  have q2 : (i : Int) < (done.length : Int) := by omega
  unfold rdyB
  obtain ⟨y, hy⟩ : ∃ y, y = jobs.getD i z67 := ⟨_, rfl⟩
  rw [← hy] at hy0 hy1 hy2 hy3 ⊢
  obtain ⟨x, hx⟩ : ∃ x, x = done.getD i 0 := ⟨_, rfl⟩
  rw [← hx] at hx0 ⊢
  clear hrd hrd1 hy hx hb hj hd hl
  obtain ⟨ya, yb, yc, yd⟩ := y
  simp only at hy0 hy1 hy2 hy3 ⊢
  by_cases d1 : yb ≤ now
  · have d1b : decide (yb ≤ now) = true := decide_eq_true d1
    rw [d1b]
    clear d1
    go_enter Try.func110, Try.ntmps110
    go_wp2_with fail
    go_quiet (fail)
    go_wp2
    go_ret
    exact ⟨by simp, _, rfl⟩
  · have d1b : decide (yb ≤ now) = false := decide_eq_false d1
    rw [d1b]
    clear d1
    go_enter Try.func110, Try.ntmps110
    go_wp2_with fail
    go_quiet (fail)
    go_wp2
    go_ret
    exact ⟨by simp, _, rfl⟩
set_option maxHeartbeats 2000000 in
set_option maxRecDepth 100000 in
theorem deadline_calls (g : Nat) (A : Option Addr) (c : Nat) (jobs : List (S67)) (D : Option Addr) (cd : Nat) (done : List Int) (now : Int) (i : Nat) (hi : i < jobs.length) (w : World) (h : MachR w g A c jobs D cd done now) :
    Calls Try.prog 112 #[.pointer (some ⟨g, 0, none⟩), .int .i64 (i : Int)] w fun e w' => e = .returned (.int .i64 (jobs.getD i z67).f2) ∧ ∃ m, w' = w.drewN m := by
  obtain ⟨hb, hj, hd, hl⟩ := h
  have hm0 : w.cell? ⟨g, 0, none⟩ = some (.slice A jobs.length c) := (blk_cell hb 0).trans rfl
  obtain ⟨ad0, e0, hy0, hy1, hy2, hy3⟩ := at_T67 hj (i : Int) (by omega) (by omega)
  cases e0
  simp only [Int.toNat_natCast] at hy0 hy1 hy2 hy3
  have hrd : rd_T67 jobs (i : Int) = jobs.getD i z67 := rfl
  rw [hrd] at hy0 hy1 hy2 hy3
  have hu := Try.underlying124
  have huJ := Try.underlying67
  have q0 : 0 ≤ (i : Int) := by omega
  have q1 : (i : Int) < (jobs.length : Int) := by omega
  obtain ⟨y, hy⟩ : ∃ y, y = jobs.getD i z67 := ⟨_, rfl⟩
  rw [← hy] at hy0 hy1 hy2 hy3 ⊢
  clear hrd hy hb hj hd hl
  obtain ⟨ya, yb, yc, yd⟩ := y
  go_enter Try.func112, Try.ntmps112
  go_wp2
  go_ret
  exact ⟨rfl, 0, rfl⟩
theorem any_calls (v : Value) (i : Int) (w : World) :
    Calls Try.prog 148 #[v, .int .i64 i] w fun e w' => e = .returned (.bool true) ∧ ∃ m, w' = w.drewN m := by
  go_enter Try.func148, Try.ntmps148
  go_wp2
  go_ret
  exact ⟨rfl, 0, rfl⟩
/-- The first of the candidates with the least key, among the first. -/
def bestN (ok : Nat → Bool) (key : Nat → Int) : Nat → Int
  | 0 => -1
  | j + 1 => if ok j && (decide (bestN ok key j < 0) || decide (key j < key (bestN ok key j).toNat)) then (j : Int) else bestN ok key j
theorem bestN_in (ok : Nat → Bool) (key : Nat → Int) : ∀ j, -1 ≤ bestN ok key j ∧ bestN ok key j < j
  | 0 => by simp [bestN]
  | j + 1 => by
    have := bestN_in ok key j
    unfold bestN
    split <;> omega
theorem bestN_ok (ok : Nat → Bool) (key : Nat → Int) : ∀ j, 0 ≤ bestN ok key j → ok (bestN ok key j).toNat = true
  | 0, h => by simp [bestN] at h
  | j + 1, h => by
    have ih := bestN_ok ok key j
    unfold bestN at h ⊢
    split
    · rename_i g
      rw [Bool.and_eq_true] at g
      simpa using g.1
    · rename_i g
      rw [if_neg g] at h
      exact ih h
set_option maxHeartbeats 4000000 in
set_option maxRecDepth 100000 in
theorem best_calls (g : Nat) (A : Option Addr) (c : Nat) (jobs : List (S67)) (D : Option Addr) (cd : Nat) (done : List Int) (now : Int) (w : World) (h : MachR w g A c jobs D cd done now) (key : Nat → Int) (may : Nat → Bool)
    (fk : FuncId) (k1 k2 : Array Value) {fnk : Func} (hfk : Try.prog.funcs[fk]? = some fnk) (hnk : (fnk.name == "runtime.NumGoroutine") = false) (hbk : fnk.body.isSome = true)
    (hck : ∀ (i n : Nat), i < jobs.length → Calls Try.prog fk (k1 ++ #[.int .i64 (i : Int)] ++ k2) (w.drewN n) fun e w' => e = .returned (.int .i64 (key i)) ∧ ∃ m, w' = (w.drewN n).drewN m)
    (fm : FuncId) (m1 m2 : Array Value) {fnm : Func} (hfm : Try.prog.funcs[fm]? = some fnm) (hnm : (fnm.name == "runtime.NumGoroutine") = false) (hbm : fnm.body.isSome = true)
    (hcm : ∀ (i n : Nat), i < jobs.length → Calls Try.prog fm (m1 ++ #[.int .i64 (i : Int)] ++ m2) (w.drewN n) fun e w' => e = .returned (.bool (may i)) ∧ ∃ m, w' = (w.drewN n).drewN m) :
    Calls Try.prog 111 #[.pointer (some ⟨g, 0, none⟩), .func (.func fk) k1 k2, .func (.func fm) m1 m2] w fun e w' => e = .returned (.int .i64 (bestN (fun i => rdyB jobs done now i && may i) key jobs.length)) ∧ ∃ m, w' = w.drewN m := by
  have HM := Aside0.mk h
  have hu := Try.underlying124
  have hm0 : w.cell? ⟨g, 0, none⟩ = some (.slice A jobs.length c) := (blk_cell h.1 0).trans rfl
  have hmx : jobs.length ≤ 9223372036854775807 := h.2.1.2.1
  have HFK := Aside0.mk hfk
  have HFM := Aside0.mk hfm
  have HCK := Aside0.mk hck
  have HCM := Aside0.mk hcm
  obtain ⟨B, hB⟩ : ∃ B, B = bestN (fun i => rdyB jobs done now i && may i) key := ⟨_, rfl⟩
  rw [← hB]
  have HIN : Hid (∀ j, -1 ≤ B j ∧ B j < j) := Lib.hid (by rw [hB]; exact bestN_in _ _)
  have HBS : Hid (∀ j, B (j + 1) = if (rdyB jobs done now j && may j) && (decide (B j < 0) || decide (key j < key (B j).toNat)) then (j : Int) else B j) := Lib.hid (fun j => by rw [hB]; rfl)
  have HB0 : Hid (B 0 = -1) := Lib.hid (by rw [hB]; rfl)
  clear h hfk hfm hck hcm hB
  go_enter Try.func111, Try.ntmps111
  go_wp2
  go_loopw [7, 14] (fun v7 v14 w' => ∃ j : Nat, v14 = .int .i64 j ∧ j ≤ jobs.length ∧ v7 = .int .i64 (B j) ∧ ∃ n, w' = w.drewN n) (fun v7 v14 _ => jobs.length - (intOf v14).toNat)
  case atStart => exact ⟨0, rfl, Nat.zero_le _, by rw [HB0.out], 0, rfl⟩
  case round =>
    obtain ⟨j, rfl, hj, rfl, n, rfl⟩ := hrel
    have hin := HIN.out j
    have hst := HBS.out j
    obtain ⟨b, hb⟩ : ∃ b, b = B j := ⟨_, rfl⟩
    rw [← hb] at hin hst ⊢
    by_cases hlt : j < jobs.length
    · have b1 : decide ((j : Int) < (jobs.length : Int)) = true := decide_eq_true (by omega)
      have hr0 := fun n => ready_calls g A c jobs D cd done now j hlt (w.drewN n) (HM.out.drewN n)
      cases hr : rdyB jobs done now j with
      | false =>
        have HN : Hid (B (j + 1) = b) := Lib.hid (by rw [hst, hr]; rfl)
        have HRDY : Hid (∀ n, Calls Try.prog 110 #[.pointer (some ⟨g, 0, none⟩), .int .i64 (j : Int)] (w.drewN n) fun e w' => e = .returned (.bool false) ∧ ∃ m, w' = (w.drewN n).drewN m) := Lib.hid (fun n => by rw [← hr]; exact hr0 n)
        clear hst hr hr0 hin hb
        go_wp2_with ((go_at_call 110; refine (HRDY.out _).mono ?_; rintro e w2 ⟨rfl, mm, rfl⟩; rw [World.drewN_drewN]))
        ((go_roundw; (case rel => exact ⟨j + 1, by go_num, by omega, by rw [HN.out], _, rfl⟩); (case measure => simp [intOf]; omega)))
      | true =>
        have HRDY : Hid (∀ n, Calls Try.prog 110 #[.pointer (some ⟨g, 0, none⟩), .int .i64 (j : Int)] (w.drewN n) fun e w' => e = .returned (.bool true) ∧ ∃ m, w' = (w.drewN n).drewN m) := Lib.hid (fun n => by rw [← hr]; exact hr0 n)
        cases hy : may j with
        | false =>
          have HN : Hid (B (j + 1) = b) := Lib.hid (by rw [hst, hr, hy]; rfl)
          have HMAY : Hid (∀ n, Calls Try.prog fm (m1 ++ #[.int .i64 (j : Int)] ++ m2) (w.drewN n) fun e w' => e = .returned (.bool false) ∧ ∃ m, w' = (w.drewN n).drewN m) := Lib.hid (fun n => by rw [← hy]; exact HCM.out j n hlt)
          clear hst hr hr0 hin hb hy
          go_wp2_with (first | ((go_at_call 110; refine (HRDY.out _).mono ?_; rintro e w2 ⟨rfl, mm, rfl⟩; rw [World.drewN_drewN])) | ((with_reducible refine gate_value (n := 21) rfl ?_; refine gate_guard (by first | rfl | (go_simp; done) | (simp [go_sem]; done)) ?_; dsimp only; go_must (refine goesF_ (some 23) rfl rfl rfl rfl HFM.out hnm hbm (m1 ++ #[.int .i64 (j : Int)] ++ m2) (by simp [Act.eval]) ?_; refine (HMAY.out _).mono ?_; rintro e w2 ⟨rfl, mm, rfl⟩; rw [World.drewN_drewN]; refine ⟨_, rfl, ?_⟩))))
          ((go_roundw; (case rel => exact ⟨j + 1, by go_num, by omega, by rw [HN.out], _, rfl⟩); (case measure => simp [intOf]; omega)))
        | true =>
          have HMAY : Hid (∀ n, Calls Try.prog fm (m1 ++ #[.int .i64 (j : Int)] ++ m2) (w.drewN n) fun e w' => e = .returned (.bool true) ∧ ∃ m, w' = (w.drewN n).drewN m) := Lib.hid (fun n => by rw [← hy]; exact HCM.out j n hlt)
          by_cases hneg : b < 0
          · have hnb : decide (b < 0) = true := decide_eq_true hneg
            have HN : Hid (B (j + 1) = (j : Int)) := Lib.hid (by rw [hst, hr, hy, hnb]; rfl)
            clear hst hr hr0 hin hb hy hneg
            go_wp2_with (first | ((go_at_call 110; refine (HRDY.out _).mono ?_; rintro e w2 ⟨rfl, mm, rfl⟩; rw [World.drewN_drewN])) | ((with_reducible refine gate_value (n := 21) rfl ?_; refine gate_guard (by first | rfl | (go_simp; done) | (simp [go_sem]; done)) ?_; dsimp only; go_must (refine goesF_ (some 23) rfl rfl rfl rfl HFM.out hnm hbm (m1 ++ #[.int .i64 (j : Int)] ++ m2) (by simp [Act.eval]) ?_; refine (HMAY.out _).mono ?_; rintro e w2 ⟨rfl, mm, rfl⟩; rw [World.drewN_drewN]; refine ⟨_, rfl, ?_⟩))))
            ((go_roundw; (case rel => exact ⟨j + 1, by go_num, by omega, by rw [HN.out], _, rfl⟩); (case measure => simp [intOf]; omega)))
          · have hnb : decide (b < 0) = false := decide_eq_false hneg
            have HKA : Hid (∀ n, Calls Try.prog fk (k1 ++ #[.int .i64 (j : Int)] ++ k2) (w.drewN n) fun e w' => e = .returned (.int .i64 (key j)) ∧ ∃ m, w' = (w.drewN n).drewN m) := Lib.hid (fun n => HCK.out j n hlt)
            have HKB : Hid (∀ n, Calls Try.prog fk (k1 ++ #[.int .i64 b] ++ k2) (w.drewN n) fun e w' => e = .returned (.int .i64 (key b.toNat)) ∧ ∃ m, w' = (w.drewN n).drewN m) := Lib.hid (fun n => by
              have hbe : b = ((b.toNat : Nat) : Int) := by omega
              have := HCK.out b.toNat n (by omega)
              rw [← hbe] at this
              exact this)
            by_cases hk : key j < key b.toNat
            · have hkb : decide (key j < key b.toNat) = true := decide_eq_true hk
              have HN : Hid (B (j + 1) = (j : Int)) := Lib.hid (by rw [hst, hr, hy, hkb]; simp)
              clear hst hr hr0 hin hb hy hneg hk
              go_wp2_with (first | ((go_at_call 110; refine (HRDY.out _).mono ?_; rintro e w2 ⟨rfl, mm, rfl⟩; rw [World.drewN_drewN])) | ((with_reducible refine gate_value (n := 21) rfl ?_; refine gate_guard (by first | rfl | (go_simp; done) | (simp [go_sem]; done)) ?_; dsimp only; go_must (refine goesF_ (some 23) rfl rfl rfl rfl HFM.out hnm hbm (m1 ++ #[.int .i64 (j : Int)] ++ m2) (by simp [Act.eval]) ?_; refine (HMAY.out _).mono ?_; rintro e w2 ⟨rfl, mm, rfl⟩; rw [World.drewN_drewN]; refine ⟨_, rfl, ?_⟩))) | ((with_reducible refine gate_value (n := 29) rfl ?_; refine gate_guard (by first | rfl | (go_simp; done) | (simp [go_sem]; done)) ?_; dsimp only; go_must (refine goesF_ (some 31) rfl rfl rfl rfl HFK.out hnk hbk (k1 ++ #[.int .i64 (j : Int)] ++ k2) (by simp [Act.eval]) ?_; refine (HKA.out _).mono ?_; rintro e w2 ⟨rfl, mm, rfl⟩; rw [World.drewN_drewN]; refine ⟨_, rfl, ?_⟩))) | ((with_reducible refine gate_value (n := 32) rfl ?_; refine gate_guard (by first | rfl | (go_simp; done) | (simp [go_sem]; done)) ?_; dsimp only; go_must (refine goesF_ (some 34) rfl rfl rfl rfl HFK.out hnk hbk (k1 ++ #[.int .i64 b] ++ k2) (by simp [Act.eval]) ?_; refine (HKB.out _).mono ?_; rintro e w2 ⟨rfl, mm, rfl⟩; rw [World.drewN_drewN]; refine ⟨_, rfl, ?_⟩))))
              ((go_roundw; (case rel => exact ⟨j + 1, by go_num, by omega, by rw [HN.out], _, rfl⟩); (case measure => simp [intOf]; omega)))
            · have hkb : decide (key j < key b.toNat) = false := decide_eq_false hk
              have HN : Hid (B (j + 1) = b) := Lib.hid (by rw [hst, hr, hy, hnb, hkb]; rfl)
              clear hst hr hr0 hin hb hy hneg hk
              go_wp2_with (first | ((go_at_call 110; refine (HRDY.out _).mono ?_; rintro e w2 ⟨rfl, mm, rfl⟩; rw [World.drewN_drewN])) | ((with_reducible refine gate_value (n := 21) rfl ?_; refine gate_guard (by first | rfl | (go_simp; done) | (simp [go_sem]; done)) ?_; dsimp only; go_must (refine goesF_ (some 23) rfl rfl rfl rfl HFM.out hnm hbm (m1 ++ #[.int .i64 (j : Int)] ++ m2) (by simp [Act.eval]) ?_; refine (HMAY.out _).mono ?_; rintro e w2 ⟨rfl, mm, rfl⟩; rw [World.drewN_drewN]; refine ⟨_, rfl, ?_⟩))) | ((with_reducible refine gate_value (n := 29) rfl ?_; refine gate_guard (by first | rfl | (go_simp; done) | (simp [go_sem]; done)) ?_; dsimp only; go_must (refine goesF_ (some 31) rfl rfl rfl rfl HFK.out hnk hbk (k1 ++ #[.int .i64 (j : Int)] ++ k2) (by simp [Act.eval]) ?_; refine (HKA.out _).mono ?_; rintro e w2 ⟨rfl, mm, rfl⟩; rw [World.drewN_drewN]; refine ⟨_, rfl, ?_⟩))) | ((with_reducible refine gate_value (n := 32) rfl ?_; refine gate_guard (by first | rfl | (go_simp; done) | (simp [go_sem]; done)) ?_; dsimp only; go_must (refine goesF_ (some 34) rfl rfl rfl rfl HFK.out hnk hbk (k1 ++ #[.int .i64 b] ++ k2) (by simp [Act.eval]) ?_; refine (HKB.out _).mono ?_; rintro e w2 ⟨rfl, mm, rfl⟩; rw [World.drewN_drewN]; refine ⟨_, rfl, ?_⟩))))
              ((go_roundw; (case rel => exact ⟨j + 1, by go_num, by omega, by rw [HN.out], _, rfl⟩); (case measure => simp [intOf]; omega)))
    · have b1 : decide ((j : Int) < (jobs.length : Int)) = false := decide_eq_false (by omega)
      have hje : j = jobs.length := by omega
      subst hje
      have HBE := Lib.hid hb
      clear hst hin hb
      go_wp2
      go_ret
      exact ⟨by rw [← HBE.out]; rfl, _, rfl⟩
set_option maxHeartbeats 1000000 in
theorem edf_calls (g : Nat) (A : Option Addr) (c : Nat) (jobs : List (S67)) (D : Option Addr) (cd : Nat) (done : List Int) (now : Int) (w : World) (h : MachR w g A c jobs D cd done now) :
    Calls Try.prog 82 #[.pointer (some ⟨g, 0, none⟩)] w fun e w' => e = .returned (.int .i64 (bestN (rdyB jobs done now) (fun i => (jobs.getD i z67).f2) jobs.length)) ∧ ∃ m, w' = w.drewN m := by
  have hmf : ∀ (fn : Fn) (first cap : Array Value) (w : World), (Instr.makeFunc fn first cap).run Try.prog w = .ok (.func fn first cap) w := fun _ _ _ _ => rfl
  have H := Lib.hid (best_calls g A c jobs D cd done now w h (fun i => (jobs.getD i z67).f2) (fun _ => true) 112 #[.pointer (some ⟨g, 0, none⟩)] #[] Try.func112 (by kernel_rfl) rfl
    (fun i n hi => deadline_calls g A c jobs D cd done now i hi (w.drewN n) (h.drewN n)) 148 #[.pointer (some ⟨g, 0, none⟩)] #[] Try.func148 (by kernel_rfl) rfl (fun i n hi => any_calls _ i (w.drewN n)))
  have he : (fun i => rdyB jobs done now i && true) = rdyB jobs done now := by funext i; simp
  have HE := Lib.hid he
  clear h he
  go_enter Try.func82, Try.ntmps82
  go_wp2_with (go_at_call 111; refine H.out.mono ?_; rw [HE.out]; rintro e w2 ⟨rfl, m, rfl⟩)
  go_ret
  exact ⟨rfl, _, rfl⟩


set_option maxHeartbeats 2000000 in
set_option maxRecDepth 100000 in
theorem newMachine_calls (A : Option Addr) (c : Nat) (jobs : List (S67)) (w : World) (hl : jobs.length ≤ 1000000) :
    Calls Try.prog 118 #[.slice A jobs.length c] w fun e w' => ∃ (g : Nat) (dv : Value), e = .returned (.pointer (some ⟨g, 0, none⟩)) ∧ w.heap.size ≤ g ∧ w'.heap[g]? = some (.cells #[.slice A jobs.length c, dv, .int .i64 0] 124 (0, 0)) ∧ Kd.R (Kd.int .i64) 3 w' w.heap.size (fun _ => True) dv (List.replicate jobs.length 0) ∧ Below w.heap.size w w' := by
  have hu := Try.underlying124
  have HB := Aside0.mk (Below.refl w.heap.size w)
  have n0 : (0 : Int) ≤ (jobs.length : Int) := by omega
  go_enter Try.func118, Try.ntmps118
  go_wp2_with (first | ((with_reducible refine gate_dst (N := 6) rfl ?_); refine Kd.R_make (Kd.int .i64) _ 3 rfl (N := 6) rfl 30 _ _ rfl (jobs.length : Int) rfl rfl Try.underlying30 (.int .i64 0) 8 info3 rfl (by decide) (by omega) 0 (ok := fun _ => True) (okp := fun _ => True) rfl (fun _ hk => hk) trivial n0 (by simp only [Int.toNat_natCast]; omega) (Below.refl _ _) (Nat.le_refl _) ?_; intro v103 w11 ho12 hb hg_ hnew_; clear hg_ hnew_; simp only [Int.toNat_natCast] at ho12; have n0_ := Aside0.mk ho12; have n1_ := Aside0.mk (below_step (by repeat (first | (with_reducible first | exact HB.out | apply below_alloc | apply pw_below_drewN | apply below_drew1) | exact HB.out)) hb); clear HB; have HO := n0_; have HB := n1_; clear n0_ n1_; clear hb ho12; obtain ⟨Ad, cd, ed⟩ := Kd.R_slice HO.out; have hln : (List.replicate jobs.length (0 : Int)).length = jobs.length := List.length_replicate; rw [hln] at ed; subst ed; clear hln) | ((with_reducible refine gate_dst (N := 8) rfl ?_); refine box_event ?hg (N := 8) ?hd (cs := #[.slice A jobs.length c, .slice Ad jobs.length cd, .int .i64 0]) (t := 124) ?hr ?_; (case hd => rfl); (case hg => rfl); (case hr => first | (go_simp; done) | (go_simp; rfl)); intro g hg w2 hbox hb2; have HG := Aside0.mk hg; have HBX := Aside0.mk hbox; have HB2 := Aside0.mk hb2; clear hg hbox hb2))
  go_ret
  exact ⟨g, .slice Ad jobs.length cd, rfl, by rw [HG.out]; exact HB.out.size, HBX.out, Kd.R_below HO.out HB2.out, below_step HB.out HB2.out⟩

end Go.Proofs.Ytonifhkplniblaa.Print

namespace Go.Proofs.Ytonifhkplniblaa.Print
open Go.RowKit Go.Proofs.YtonifhkplniblaaW.PrintWords Go.Proofs.YtonifhkplniblaaW.PrintLast Go.Proofs.YtonifhkplniblaaW.PrintMore
attribute [local go_sem] max2_int min2_int max_two min_two max_three min_three max_four min_four
set_option linter.unusedVariables false
set_option linter.unusedSimpArgs false
theorem isNaN_calls (x : Int) (w : World) : Calls Try.prog 157 #[.int .i64 x] w fun e w' => e = .returned (.bool false) ∧ ∃ m, w' = w.drewN m := by
  have h1 : (x != x) = false := by simp
  go_enter Try.func157, Try.ntmps157
  go_wp2
  go_ret
  exact ⟨rfl, 0, rfl⟩
/-- The order of two numbers. -/
def cmpI (a b : Int) : Int := if a < b then -1 else if b < a then 1 else 0
set_option maxHeartbeats 2000000 in
set_option maxRecDepth 100000 in
theorem compare_calls (a b : Int) (w : World) : Calls Try.prog 125 #[.int .i64 a, .int .i64 b] w fun e w' => e = .returned (.int .i64 (cmpI a b)) ∧ ∃ m, w' = w.drewN m := by
  have HA := Lib.hid (fun V => isNaN_calls a V)
  have HB := Lib.hid (fun V => isNaN_calls b V)
  unfold cmpI
  by_cases h1 : a < b
  · have b1 : decide (a < b) = true := decide_eq_true h1
    rw [if_pos h1]
    clear h1
    go_enter Try.func125, Try.ntmps125
    go_wp2_with (first | (go_at_call 157; refine (HA.out _).mono ?_; rintro e w2 ⟨rfl, mm, rfl⟩; try rw [World.drewN_drewN]) | (go_at_call 157; refine (HB.out _).mono ?_; rintro e w2 ⟨rfl, mm, rfl⟩; try rw [World.drewN_drewN]))
    go_ret
    exact ⟨rfl, _, rfl⟩
  · have b1 : decide (a < b) = false := decide_eq_false h1
    rw [if_neg h1]
    clear h1
    by_cases h2 : b < a
    · have b2 : decide (b < a) = true := decide_eq_true h2
      rw [if_pos h2]
      clear h2
      go_enter Try.func125, Try.ntmps125
      go_wp2_with (first | (go_at_call 157; refine (HA.out _).mono ?_; rintro e w2 ⟨rfl, mm, rfl⟩; try rw [World.drewN_drewN]) | (go_at_call 157; refine (HB.out _).mono ?_; rintro e w2 ⟨rfl, mm, rfl⟩; try rw [World.drewN_drewN]))
      go_ret
      exact ⟨rfl, _, rfl⟩
    · have b2 : decide (b < a) = false := decide_eq_false h2
      rw [if_neg h2]
      clear h2
      go_enter Try.func125, Try.ntmps125
      go_wp2_with (first | (go_at_call 157; refine (HA.out _).mono ?_; rintro e w2 ⟨rfl, mm, rfl⟩; try rw [World.drewN_drewN]) | (go_at_call 157; refine (HB.out _).mono ?_; rintro e w2 ⟨rfl, mm, rfl⟩; try rw [World.drewN_drewN]))
      go_ret
      exact ⟨rfl, _, rfl⟩
def dlJ (l : List (S67)) (i : Nat) : Int := (l.getD i z67).f2
set_option maxHeartbeats 2000000 in
set_option maxRecDepth 100000 in
theorem g_cmp (gb : Nat) (A : Option Addr) (c : Nat) (jobs : List (S67)) (W : World) (hc : W.cell? ⟨gb, 0, none⟩ = some (.slice A jobs.length c)) (hr : Kd.C k67 W A jobs.length jobs) (x y : Fin jobs.length) :
    Calls Try.prog 124 (#[finV x, finV y] ++ #[.pointer (some ⟨gb, 0, none⟩)]) W fun e w' => e = .returned (.int .i64 (cmpI (dlJ jobs x.val) (dlJ jobs y.val))) ∧ ∃ q, w' = W.drewN q := by
  have hx1 := x.isLt
  have hy1 := y.isLt
  obtain ⟨ad0, e0, _, _, hx, _⟩ := at_T67 hr (x.val : Int) (by omega) (by omega)
  cases e0
  obtain ⟨ad1, e1, _, _, hy, _⟩ := at_T67 hr (y.val : Int) (by omega) (by omega)
  cases e1
  simp only [Int.toNat_natCast] at hx hy
  have ex : (rd_T67 jobs (x.val : Int)).f2 = dlJ jobs x.val := rfl
  have ey : (rd_T67 jobs (y.val : Int)).f2 = dlJ jobs y.val := rfl
  rw [ex] at hx
  rw [ey] at hy
  obtain ⟨dx, hdx⟩ : ∃ dx, dx = dlJ jobs x.val := ⟨_, rfl⟩
  obtain ⟨dy, hdy⟩ : ∃ dy, dy = dlJ jobs y.val := ⟨_, rfl⟩
  rw [← hdx] at hx ⊢
  rw [← hdy] at hy ⊢
  have hmx : jobs.length ≤ 9223372036854775807 := hr.2.1
  show Calls Try.prog 124 #[.int .i64 (x.val : Int), .int .i64 (y.val : Int), .pointer (some ⟨gb, 0, none⟩)] W _
  generalize x.val = xn at *
  generalize y.val = yn at *
  have p0 : 0 ≤ (xn : Int) := by omega
  have p1 : (xn : Int) < (jobs.length : Int) := by omega
  have p2 : 0 ≤ (yn : Int) := by omega
  have p3 : (yn : Int) < (jobs.length : Int) := by omega
  have HC := Lib.hid (fun V => compare_calls dx dy V)
  have huJ := Try.underlying67
  clear ex ey hdx hdy hr hx1 hy1
  go_enter Try.func124, Try.ntmps124
  go_wp2_with fail
  go_quiet ((go_at_call 125; exact Calls.quiet_of (HC.out _)))
  go_wp2
  go_ret
  exact ⟨rfl, _, rfl⟩
/-- Jobs sorted by deadline. -/
def sortJ (jobs : List (S67)) (hp : 0 < jobs.length) (xs : List (Fin jobs.length)) : List (Fin jobs.length) := @sortF jobs.length ⟨⟨0, hp⟩⟩ (fun x y => cmpI (dlJ jobs x.val) (dlJ jobs y.val)) xs
theorem sortJ_len (jobs : List (S67)) (hp : 0 < jobs.length) (xs : List (Fin jobs.length)) : (sortJ jobs hp xs).length = xs.length := @sortF_len jobs.length ⟨⟨0, hp⟩⟩ _ xs
/-- slices.SortStableFunc by deadline, at a row of the call's own. -/
theorem g_sort (gb : Nat) (A : Option Addr) (c : Nat) (jobs : List (S67)) (Wt V : World) (hc : Wt.cell? ⟨gb, 0, none⟩ = some (.slice A jobs.length c)) (hr : Kd.C k67 Wt A jobs.length jobs) (hp : 0 < jobs.length)
    (g0 cap : Nat) (xs : List (Fin jobs.length)) (h19 : xs.length ≤ 19) (hV : Below Wt.heap.size Wt V)
    (hR : Kd.R (Kd.int .i64) 3 V Wt.heap.size (fun _ => True) (.slice (some ⟨g0, 0, none⟩) xs.length cap) (xs.map (fun i => (i.val : Int)))) :
    Calls Try.prog 123 #[.slice (some ⟨g0, 0, none⟩) xs.length cap, .func (.func 124) #[] #[.pointer (some ⟨gb, 0, none⟩)]] V fun e w' => e = .returned (.tuple #[]) ∧
      Kd.R (Kd.int .i64) 3 w' Wt.heap.size (fun _ => True) (.slice (some ⟨g0, 0, none⟩) xs.length cap) ((sortJ jobs hp xs).map (fun i => (i.val : Int))) ∧ Below Wt.heap.size Wt w' := by
  have ho := Kd.own_of_R hR
  have he : ∀ ys : List (Fin jobs.length), encs (Value.int .i64) (ys.map (fun i => (i.val : Int))) = ys.map finV := by
    intro ys
    unfold encs
    rw [List.map_map]
    rfl
  rw [he, List.length_map] at ho
  have h := @sortStable_calls jobs.length ⟨⟨0, hp⟩⟩ (fun x y => cmpI (dlJ jobs x.val) (dlJ jobs y.val)) 124 #[.pointer (some ⟨gb, 0, none⟩)] (enters_of Try.func124 (by kernel_rfl) rfl) Wt.heap.size g0 cap xs V Wt h19 ho hV
    (fun U hU hk hbU x y => g_cmp gb A c jobs U ((hbU.cell (World.block_lt_of_cell? _ _ hc)).trans hc) (Kd.C_below hr hbU) x y)
  refine h.mono ?_
  rintro e w' ⟨rfl, h1, h2⟩
  refine ⟨rfl, ?_, h2⟩
  have hl : ((sortJ jobs hp xs).map (fun i => (i.val : Int))).length = xs.length := by rw [List.length_map, sortJ_len]
  refine Kd.R_of_own (h1 := fun _ => rfl) ?_ (fun _ _ => trivial)
  rw [hl, he]
  exact h1

end Go.Proofs.Ytonifhkplniblaa.Print

namespace Go.Proofs.Ytonifhkplniblaa.Print
open Go.RowKit Go.Proofs.YtonifhkplniblaaW.PrintWords Go.Proofs.YtonifhkplniblaaW.PrintLast Go.Proofs.YtonifhkplniblaaW.PrintMore
attribute [local go_sem] max2_int min2_int max_two min_two max_three min_three max_four min_four
set_option linter.unusedVariables false
set_option linter.unusedSimpArgs false
open Go.Proofs.Ytonifhkplniblaa.Walk
section
variable {w W W2 : World} {g go g4 gb gr : Nat} {A : Option Addr} {c : Nat} {jobs : List (S67)} {dv fv : Value} {done fin : List Int} {now : Int}
/-- What the simulation holds in memory. -/
def GI (w : World) (g go g4 gb gr : Nat) (A : Option Addr) (c : Nat) (jobs : List (S67)) (dv fv : Value) (W : World) (done fin : List Int) (now : Int) : Prop :=
  W.heap[g]? = some (.cells #[.slice A jobs.length c, dv, .int .i64 now] 124 (0, 0)) ∧
  W.heap[go]? = some (.cells #[.slice (some ⟨gr, 0, none⟩) 120 120, fv] 80 (0, 0)) ∧
  W.heap[g4]? = some (.cells #[.slice none 0 0, .slice none 0 0] 80 (0, 0)) ∧
  W.heap[gb]? = some (.cells #[.slice A jobs.length c] 39 (0, 0)) ∧
  (∃ cs : Array Value, W.heap[gr]? = some (.cells cs 30 (0, 0)) ∧ cs.size = 120) ∧
  Kd.R (Kd.int .i64) 3 W w.heap.size (fun _ => True) dv done ∧ Kd.R (Kd.int .i64) 3 W w.heap.size (fun _ => True) fv fin ∧ Below w.heap.size w W
def GD (w : World) (g go g4 gb gr : Nat) (dv fv : Value) : Prop :=
  w.heap.size ≤ g ∧ w.heap.size ≤ go ∧ w.heap.size ≤ g4 ∧ w.heap.size ≤ gb ∧ w.heap.size ≤ gr ∧ go ≠ g4 ∧ (∀ k, dv.ownBlock = some k → fv.ownBlock ≠ some k)
theorem ne_of_type {W : World} {a b : Nat} {cs ds : Array Value} {t u : TypeId} (h : W.heap[a]? = some (.cells cs t (0, 0))) (k : W.heap[b]? = some (.cells ds u (0, 0))) (hne : t ≠ u) : a ≠ b := fun e => by
  rw [e, k] at h
  injection h with h
  injection h with _ h
  exact hne h.symm
theorem row_stepG {v : Value} {xs : List Int} {base : Nat} (h : Kd.R (Kd.int .i64) 3 W base (fun _ => True) v xs) (hm : ∀ k, v.ownBlock = some k → k < W.heap.size → W2.heap[k]? = W.heap[k]?) : Kd.R (Kd.int .i64) 3 W2 base (fun _ => True) v xs :=
  Kd.R_mono (Kd.R_step (Kd.R_tight rfl h) (fun k hk hlt => hm k hk.symm hlt)) (fun _ _ => trivial)
theorem GI.keep (h : GI w g go g4 gb gr A c jobs dv fv W done fin now) (hb : Below W.heap.size W W2) : GI w g go g4 gb gr A c jobs dv fv W2 done fin now := by
  obtain ⟨h1, h2, h3, h4, ⟨cs, h5, h5'⟩, h6, h7, h8⟩ := h
  exact ⟨blk_below h1 hb, blk_below h2 hb, blk_below h3 hb, blk_below h4 hb, ⟨cs, blk_below h5 hb, h5'⟩, Kd.R_below h6 hb, Kd.R_below h7 hb, below_step h8 hb⟩
theorem GI.setDone {gd n cd : Nat} (h : GI w g go g4 gb gr A c jobs (.slice (some ⟨gd, 0, none⟩) n cd) fv W done fin now) (hD : GD w g go g4 gb gr (.slice (some ⟨gd, 0, none⟩) n cd) fv) (i : Int) (x : Int) :
    GI w g go g4 gb gr A c jobs (.slice (some ⟨gd, 0, none⟩) n cd) fv (W.setCell ⟨gd, i.toNat, none⟩ (.int .i64 x)) (done.set i.toNat x) fin now := by
  obtain ⟨h1, h2, h3, h4, ⟨cs, h5, h5'⟩, h6, h7, h8⟩ := h
  obtain ⟨p1, p2⟩ := Kd.R_putg h6 i x
  have hgd : w.heap.size ≤ gd := Kd.R_base h6 gd rfl
  have e1 : g ≠ gd := fun e => Kd.R_ne h6 h1 (by decide) (by rw [e]; rfl)
  have e2 : go ≠ gd := fun e => Kd.R_ne h6 h2 (by decide) (by rw [e]; rfl)
  have e3 : g4 ≠ gd := fun e => Kd.R_ne h6 h3 (by decide) (by rw [e]; rfl)
  have e4 : gb ≠ gd := fun e => Kd.R_ne h6 h4 (by decide) (by rw [e]; rfl)
  have e5 : gr ≠ gd := fun e => Kd.R_ne h6 h5 (by decide) (by rw [e]; rfl)
  exact ⟨blk_far h1 e1 _, blk_far h2 e2 _, blk_far h3 e3 _, blk_far h4 e4 _, ⟨cs, blk_far h5 e5 _, h5'⟩, p1, row_stepG h7 (fun k e hlt => Below.heap_setCell _ _ _ k (fun e' => hD.2.2.2.2.2.2 gd rfl (by rw [e, e']))), h8.setCell hgd _⟩
theorem GI.setFin {gf n cf : Nat} (h : GI w g go g4 gb gr A c jobs dv (.slice (some ⟨gf, 0, none⟩) n cf) W done fin now) (hD : GD w g go g4 gb gr dv (.slice (some ⟨gf, 0, none⟩) n cf)) (i : Int) (x : Int) :
    GI w g go g4 gb gr A c jobs dv (.slice (some ⟨gf, 0, none⟩) n cf) (W.setCell ⟨gf, i.toNat, none⟩ (.int .i64 x)) done (fin.set i.toNat x) now := by
  obtain ⟨h1, h2, h3, h4, ⟨cs, h5, h5'⟩, h6, h7, h8⟩ := h
  obtain ⟨p1, p2⟩ := Kd.R_putg h7 i x
  have hgf : w.heap.size ≤ gf := Kd.R_base h7 gf rfl
  have e1 : g ≠ gf := fun e => Kd.R_ne h7 h1 (by decide) (by rw [e]; rfl)
  have e2 : go ≠ gf := fun e => Kd.R_ne h7 h2 (by decide) (by rw [e]; rfl)
  have e3 : g4 ≠ gf := fun e => Kd.R_ne h7 h3 (by decide) (by rw [e]; rfl)
  have e4 : gb ≠ gf := fun e => Kd.R_ne h7 h4 (by decide) (by rw [e]; rfl)
  have e5 : gr ≠ gf := fun e => Kd.R_ne h7 h5 (by decide) (by rw [e]; rfl)
  exact ⟨blk_far h1 e1 _, blk_far h2 e2 _, blk_far h3 e3 _, blk_far h4 e4 _, ⟨cs, blk_far h5 e5 _, h5'⟩, row_stepG h6 (fun k e hlt => Below.heap_setCell _ _ _ k (fun e' => hD.2.2.2.2.2.2 k e (by rw [e']; rfl))), p1, h8.setCell hgf _⟩
theorem GI.setNow (h : GI w g go g4 gb gr A c jobs dv fv W done fin now) (hD : GD w g go g4 gb gr dv fv) (x : Int) :
    GI w g go g4 gb gr A c jobs dv fv (W.setCell ⟨g, 2, none⟩ (.int .i64 x)) done fin x := by
  obtain ⟨h1, h2, h3, h4, ⟨cs, h5, h5'⟩, h6, h7, h8⟩ := h
  have e2 : go ≠ g := ne_of_type h2 h1 (by decide)
  have e3 : g4 ≠ g := ne_of_type h3 h1 (by decide)
  have e4 : gb ≠ g := ne_of_type h4 h1 (by decide)
  have e5 : gr ≠ g := ne_of_type h5 h1 (by decide)
  exact ⟨blk_put h1 2 _ rfl, blk_far h2 e2 _, blk_far h3 e3 _, blk_far h4 e4 _, ⟨cs, blk_far h5 e5 _, h5'⟩, row_stepG h6 (fun k e hlt => Below.heap_setCell _ _ _ k (fun e' => Kd.R_ne h6 h1 (by decide) (by rw [e, e']))), row_stepG h7 (fun k e hlt => Below.heap_setCell _ _ _ k (fun e' => Kd.R_ne h7 h1 (by decide) (by rw [e, e']))), h8.setCell hD.1 _⟩
theorem GI.setRow (h : GI w g go g4 gb gr A c jobs dv fv W done fin now) (hD : GD w g go g4 gb gr dv fv) (i : Nat) (u : Value) :
    GI w g go g4 gb gr A c jobs dv fv (W.setCell ⟨gr, i, none⟩ u) done fin now := by
  obtain ⟨h1, h2, h3, h4, ⟨cs, h5, h5'⟩, h6, h7, h8⟩ := h
  have e1 : g ≠ gr := ne_of_type h1 h5 (by decide)
  have e2 : go ≠ gr := ne_of_type h2 h5 (by decide)
  have e3 : g4 ≠ gr := ne_of_type h3 h5 (by decide)
  have e4 : gb ≠ gr := ne_of_type h4 h5 (by decide)
  exact ⟨blk_far h1 e1 _, blk_far h2 e2 _, blk_far h3 e3 _, blk_far h4 e4 _, ⟨_, blk_put h5 i u rfl, by rw [Array.size_setIfInBounds]; exact h5'⟩, row_stepG h6 (fun k e hlt => Below.heap_setCell _ _ _ k (fun e' => Kd.R_ne h6 h5 (by decide) (by rw [e, e']))), row_stepG h7 (fun k e hlt => Below.heap_setCell _ _ _ k (fun e' => Kd.R_ne h7 h5 (by decide) (by rw [e, e']))), h8.setCell hD.2.2.2.2.1 _⟩
end
theorem blk_new1 (w : World) (o o' : Obj) : ((w.alloc o).alloc o').heap[w.heap.size + 1]? = some o' := by
  have := blk_new (w.alloc o) o'
  rw [show (w.alloc o).heap.size = w.heap.size + 1 by simp] at this
  exact this
/-- Where the simulation begins. -/
theorem GI_start {w w3 w5 Wf : World} {g go gr gd gf cd cf base3 base5 c : Nat} {A : Option Addr} {jobs : List (S67)} (hBW : Below w.heap.size w w3) (hW3 : w.heap.size + 2 ≤ w3.heap.size) (hB5 : Below w3.heap.size w3 w5) (hWB : Below w.heap.size w Wf) (hfar : ∀ k, k < w5.heap.size → k ≠ go → Wf.heap[k]? = w5.heap[k]?)
    (hg : w3.heap[g]? = some (.cells #[.slice A jobs.length c, .slice (some ⟨gd, 0, none⟩) jobs.length cd, .int .i64 0] 124 (0, 0))) (hgw : w.heap.size ≤ g)
    (hbx : w3.heap[w.heap.size]? = some (.cells #[.slice A jobs.length c] 39 (0, 0))) (hrs : w3.heap[w.heap.size + 1]? = some (.cells #[.slice none 0 0, .slice none 0 0] 80 (0, 0)))
    (hrd : Kd.R (Kd.int .i64) 3 w3 base3 (fun _ => True) (.slice (some ⟨gd, 0, none⟩) jobs.length cd) (List.replicate jobs.length 0)) (hb3 : w.heap.size ≤ base3)
    (hrf : Kd.R (Kd.int .i64) 3 w5 base5 (fun _ => True) (.slice (some ⟨gf, 0, none⟩) jobs.length cf) (List.replicate jobs.length (-1))) (hb5 : w3.heap.size ≤ base5)
    (hgo : w3.heap.size ≤ go) (hgfo : gf ≠ go) (hO : Wf.heap[go]? = some (.cells #[.slice (some ⟨gr, 0, none⟩) 120 120, .slice (some ⟨gf, 0, none⟩) jobs.length cf] 80 (0, 0))) (hgr : w3.heap.size ≤ gr)
    (hR : Wf.heap[gr]? = some (.cells (madeCells #[.slice none 0 0] 120) 30 (0, 0))) :
    GI w g go (w.heap.size + 1) w.heap.size gr A c jobs (.slice (some ⟨gd, 0, none⟩) jobs.length cd) (.slice (some ⟨gf, 0, none⟩) jobs.length cf) Wf (List.replicate jobs.length 0) (List.replicate jobs.length (-1)) 0 ∧
    GD w g go (w.heap.size + 1) w.heap.size gr (.slice (some ⟨gd, 0, none⟩) jobs.length cd) (.slice (some ⟨gf, 0, none⟩) jobs.length cf) := by
  have hs := hB5.size
  have hgl := blk_lt hg
  have hdl : gd < w3.heap.size := Kd.R_lt hrd gd rfl
  have hfb : base5 ≤ gf := Kd.R_base hrf gf rfl
  have hdb : base3 ≤ gd := Kd.R_base hrd gd rfl
  have far : ∀ (k : Nat) (o : Obj), w3.heap[k]? = some o → Wf.heap[k]? = some o := fun k o h => by
    have hk := blk_lt h
    rw [hfar k (by omega) (by omega)]
    exact blk_below h hB5
  refine ⟨⟨far _ _ hg, hO, far _ _ hrs, far _ _ hbx, ⟨_, hR, by simp [madeCells]⟩, ?_, ?_, hWB⟩, hgw, by omega, by omega, Nat.le_refl _, by omega, by omega, ?_⟩
  · refine row_stepG (Kd.R_lower hrd hb3) (fun k e hlt => ?_)
    obtain rfl : gd = k := by simpa [Value.ownBlock] using e
    rw [hfar gd (by omega) (by omega)]
    exact hB5.block gd hdl
  · refine row_stepG (Kd.R_lower hrf (by omega)) (fun k e hlt => ?_)
    obtain rfl : gf = k := by simpa [Value.ownBlock] using e
    exact hfar gf hlt hgfo
  · intro k e h
    obtain rfl : gd = k := by simpa [Value.ownBlock] using e
    have : gf = gd := by simpa [Value.ownBlock] using h
    omega
/-- The numbers below n. -/
def finL (n : Nat) : List (Fin n) := (List.range n).pmap Fin.mk (fun _ h => List.mem_range.1 h)
theorem pmap_val {n : Nat} : ∀ (l : List Nat) (h : ∀ i ∈ l, i < n), (l.pmap (fun i hi => (⟨i, hi⟩ : Fin n)) h).map (fun i => i.val) = l
  | [], _ => rfl
  | x :: xs, h => by rw [List.pmap_cons, List.map_cons, pmap_val xs]
theorem finL_val (n : Nat) : (finL n).map (fun i => i.val) = List.range n := pmap_val _ _
/-- The jobs that are ready, among the first. -/
def readyL (jobs : List (S67)) (done : List Int) (t : Int) (j : Nat) : List Int := ((List.range j).filter (rdyB jobs done t)).map (fun (i : Nat) => (i : Int))
def readyF (jobs : List (S67)) (done : List Int) (t : Int) : List (Fin jobs.length) := (finL jobs.length).filter (fun i => rdyB jobs done t i.val)
theorem readyL_succ (jobs : List (S67)) (done : List Int) (t : Int) (j : Nat) : readyL jobs done t (j + 1) = if rdyB jobs done t j = true then readyL jobs done t j ++ [(j : Int)] else readyL jobs done t j := by
  unfold readyL
  rw [List.range_succ, List.filter_append, List.map_append]
  split
  · rename_i h; simp [h]
  · rename_i h; simp [h]
theorem readyL_len (jobs : List (S67)) (done : List Int) (t : Int) (j : Nat) : (readyL jobs done t j).length ≤ j := by
  unfold readyL
  rw [List.length_map]
  refine Nat.le_trans (List.length_filter_le _ _) ?_
  simp
theorem readyL_all (jobs : List (S67)) (done : List Int) (t : Int) : readyL jobs done t jobs.length = (readyF jobs done t).map (fun i => (i.val : Int)) := by
  unfold readyL readyF
  rw [← finL_val, List.filter_map, List.map_map]
  rfl
/-- One job runs one tick. -/
def gJob (jobs : List (S67)) (t : Nat) (x : List Int × List Int) (i : Int) : List Int × List Int :=
  (x.1.set i.toNat (wrap64 (x.1.getD i.toNat 0 + 1)), if wrap64 (x.1.getD i.toNat 0 + 1) = (jobs.getD i.toNat z67).f3 then x.2.set i.toNat ((t : Int) + 1) else x.2)
/-- The jobs of a tick. -/
def takeG (jobs : List (S67)) (hp : 0 < jobs.length) (cores : Nat) (done : List Int) (t : Nat) : List Int := ((sortJ jobs hp (readyF jobs done t)).map (fun i => (i.val : Int))).take cores
def gN (jobs : List (S67)) (hp : 0 < jobs.length) (cores : Nat) : Nat → List Int × List Int
  | 0 => (List.replicate jobs.length 0, List.replicate jobs.length (-1))
  | t + 1 => (takeG jobs hp cores (gN jobs hp cores t).1 t).foldl (gJob jobs t) (gN jobs hp cores t)
theorem gJob_len {jobs : List (S67)} {t : Nat} {n : Nat} : ∀ (l : List Int) (x : List Int × List Int), x.1.length = n → x.2.length = n → (l.foldl (gJob jobs t) x).1.length = n ∧ (l.foldl (gJob jobs t) x).2.length = n
  | [], x, h1, h2 => ⟨h1, h2⟩
  | i :: r, x, h1, h2 => by
    rw [List.foldl_cons]
    refine gJob_len r _ ?_ ?_
    · unfold gJob; simpa using h1
    · unfold gJob; simp only; split <;> simpa using h2
theorem gN_len {jobs : List (S67)} {hp : 0 < jobs.length} {cores : Nat} : ∀ t, (gN jobs hp cores t).1.length = jobs.length ∧ (gN jobs hp cores t).2.length = jobs.length
  | 0 => by simp [gN]
  | t + 1 => by
    have := gN_len (jobs := jobs) (hp := hp) (cores := cores) t
    exact gJob_len _ _ this.1 this.2
theorem sort_any (gb : Nat) (A : Option Addr) (c : Nat) (jobs : List (S67)) (Wt V : World) (hc : Wt.cell? ⟨gb, 0, none⟩ = some (.slice A jobs.length c)) (hr : Kd.C k67 Wt A jobs.length jobs) (hp : 0 < jobs.length)
    (v : Value) (xs : List (Fin jobs.length)) (h19 : xs.length ≤ 19) (hV : Below Wt.heap.size Wt V)
    (hR : Kd.R (Kd.int .i64) 3 V Wt.heap.size (fun _ => True) v (xs.map (fun i => (i.val : Int)))) :
    Calls Try.prog 123 #[v, .func (.func 124) #[] #[.pointer (some ⟨gb, 0, none⟩)]] V fun e w' => e = .returned (.tuple #[]) ∧
      Kd.R (Kd.int .i64) 3 w' Wt.heap.size (fun _ => True) v ((sortJ jobs hp xs).map (fun i => (i.val : Int))) ∧ Below Wt.heap.size Wt w' := by
  rcases Nat.eq_zero_or_pos xs.length with h0 | hpos
  · obtain rfl := List.eq_nil_of_length_eq_zero h0
    obtain ⟨A', c', rfl⟩ := Kd.R_slice hR
    refine (sortStable_nil A' c' _ V).mono ?_
    rintro e w' ⟨rfl, rfl⟩
    refine ⟨rfl, ?_, hV⟩
    rw [List.eq_nil_of_length_eq_zero (sortJ_len jobs hp [])]
    exact hR
  · obtain ⟨g0, cap, rfl, _⟩ := Kd.R_form hR (by rw [List.length_map]; exact hpos)
    rw [List.length_map] at hR ⊢
    exact g_sort gb A c jobs Wt V hc hr hp g0 cap xs h19 hV hR
theorem fold_take {α β : Type} (f : α → β → α) (d : β) : ∀ (xs : List β) (j : Nat) (s : α), j < xs.length → (xs.take (j + 1)).foldl f s = f ((xs.take j).foldl f s) (xs.getD j d) := by
  intro xs j s h
  rw [List.take_add_one, List.foldl_append, List.getD_eq_getElem?_getD, List.getElem?_eq_getElem h]
  rfl
theorem takeG_in {jobs : List (S67)} {hp : 0 < jobs.length} {cores : Nat} {done : List Int} {t : Nat} {j : Nat} (h : j < (takeG jobs hp cores done t).length) : 0 ≤ (takeG jobs hp cores done t).getD j 0 ∧ (takeG jobs hp cores done t).getD j 0 < jobs.length := by
  rw [List.getD_eq_getElem?_getD, List.getElem?_eq_getElem h]
  have hm : (takeG jobs hp cores done t)[j] ∈ takeG jobs hp cores done t := List.getElem_mem h
  obtain ⟨i, _, hi⟩ := List.mem_map.1 (List.mem_of_mem_take hm)
  have := i.isLt
  have hi' : ((i.val : Nat) : Int) = (takeG jobs hp cores done t)[j] := hi
  rw [Option.getD_some, ← hi']
  constructor <;> omega
set_option maxHeartbeats 8000000 in
set_option maxRecDepth 100000 in
theorem impl_RunGlobal.calls (A0 : Option Addr) (c0 : Nat) (l0 : List (S62)) (A : Option Addr) (c : Nat) (jobs : List (S67)) (cores : Nat) (w : World) (hr0 : Kd.C k62 w A0 l0.length l0) (hc0 : l0.length ≤ c0) (hj : Kd.C k67 w A jobs.length jobs) (hc : jobs.length ≤ c)
    (hleg : impl_JobsLegal.f l0 jobs = some true) (hcor : impl_isCores.f (cores : Int) = some true) (hp : 0 < jobs.length) (h19 : jobs.length ≤ 19) (hc1 : 1 ≤ cores) (hc5 : cores ≤ 5) :
    Calls Try.prog 51 #[.slice A0 l0.length c0, .slice A jobs.length c, .int .i64 (cores : Int)] w fun e w' => ∃ (gr_ : Nat) (v1_ : Value), e = .returned (.agg #[.slice (some ⟨gr_, 0, none⟩) 120 120, v1_]) ∧ Kd.R (Kd.int .i64) 3 w' w.heap.size (fun _ => True) v1_ (gN jobs hp cores 120).2 ∧ Below w.heap.size w w' := by
  have hu := Try.underlying80
  have huM := Try.underlying124
  have huJ := Try.underlying67
  have huR := Try.underlying33
  have hmf : ∀ (fn : Fn) (first cap : Array Value) (w : World), (Instr.makeFunc fn first cap).run Try.prog w = .ok (.func fn first cap) w := fun _ _ _ _ => rfl
  obtain ⟨W0, hW0⟩ : ∃ W0, W0 = (w.alloc (.cells #[.slice A jobs.length c] 39)).alloc (.cells #[.slice none 0 0, .slice none 0 0] 80) := ⟨_, rfl⟩
  have hB0 : Below w.heap.size w W0 := by rw [hW0]; exact below_alloc (below_alloc (Below.refl _ _) _) _
  have hsz0 : W0.heap.size = w.heap.size + 2 := by rw [hW0]; simp
  have hbx : W0.heap[w.heap.size]? = some (.cells #[.slice A jobs.length c] 39 (0, 0)) := by rw [hW0]; exact blk_alloc (blk_new _ _) _
  have hrs : W0.heap[w.heap.size + 1]? = some (.cells #[.slice none 0 0, .slice none 0 0] 80 (0, 0)) := by
    rw [hW0]
    have := blk_new (w.alloc (.cells #[.slice A jobs.length c] 39)) (.cells #[.slice none 0 0, .slice none 0 0] 80)
    rw [show (w.alloc (.cells #[.slice A jobs.length c] 39)).heap.size = w.heap.size + 1 by simp] at this
    exact this
  have HLEG := Lib.hid (fun V (hV : Below w.heap.size w V) => impl_JobsLegal.calls A0 c0 l0 A c jobs true V (Kd.C_below hr0 hV) hc0 (Kd.C_below hj hV) hc hleg)
  have HCOR := Lib.hid (fun V => impl_isCores.calls (cores : Int) true V hcor)
  have HNM := Lib.hid (fun W => newMachine_calls A c jobs W (by omega))
  have HN2 := Lib.hid (fun W => impl_none.calls jobs.length (List.replicate jobs.length (-1)) W (by unfold impl_none.f; rw [if_pos (by omega)]; simp))
  have HJ := Lib.hid hj
  have HC := Lib.hid hc
  have HWQ := Lib.hid hW0
  have HB0 := Lib.hid hB0
  have HBX := Lib.hid hbx
  have HRS := Lib.hid hrs
  have HSZ := Lib.hid hsz0
  have HP := Lib.hid hp
  have H19 := Lib.hid h19
  have HC1 := Lib.hid hc1
  have HC5 := Lib.hid hc5
  clear hr0 hc0 hj hc hleg hcor hW0 hB0 hsz0 hbx hrs h19 hc1 hc5
  go_enter Try.func51, Try.ntmps51
  go_upto_region 1 with (fail)
  rw [← HWQ.out]
  have hcb0 := (blk_cell HBX.out 0).trans rfl
  go_upto_region 4 with (first | (go_at_call 35; refine (HLEG.out _ HB0.out).mono ?_; rintro e w1 ⟨rfl, hb1⟩; have HB1 := Lib.hid hb1; have hcb1 := (hb1.cell (World.block_lt_of_cell? _ _ hcb0)).trans hcb0; clear hb1 hcb0) | (go_at_call 122; refine (HCOR.out _).mono ?_; rintro e w2 ⟨rfl, hd⟩; obtain ⟨md, rfl⟩ := hd.out; clear hd) | (go_at_call 118; refine (HNM.out _).mono ?_; rintro e w3 ⟨g, dv, rfl, hg, hbm, hrd, hb3⟩; obtain ⟨gd, cd, ed, _⟩ := Kd.R_form hrd (by rw [List.length_replicate]; exact HP.out); rw [show (List.replicate jobs.length (0 : Int)).length = jobs.length from List.length_replicate] at ed; subst ed; have HG := Lib.hid hg; have HBM := Lib.hid hbm; have HRD := Lib.hid hrd; have HB3 := Lib.hid hb3; clear hg hbm hrd hb3))
  have HBW3 := Lib.hid (below_step (pw_below_drewN (below_step HB0.out HB1.out) md) HB3.out)
  have HX3 := Lib.hid (blk_below (blk_drewN (blk_below HBX.out HB1.out) md) HB3.out)
  have HS3 := Lib.hid (blk_below (blk_drewN (blk_below HRS.out HB1.out) md) HB3.out)
  have HGW := Lib.hid (show w.heap.size + 2 ≤ (w1.drewN md).heap.size by have := HB1.out.size; have := HSZ.out; show w.heap.size + 2 ≤ w1.heap.size; omega)
  have hcb0 : w3.cell? ⟨w.heap.size, 0, none⟩ = some (.slice A jobs.length c) := (blk_cell HX3.out 0).trans rfl
  have hn0 : 0 ≤ (jobs.length : Int) := by omega
  have hinfo : (Try.prog.info? 30).map (fun i => (i.zero, i.size, i.bytes)) = some (some (.slice none 0 0), 1, 24) := by kernel_rfl
  have hmk : ∀ W : World, (Instr.makeSlice 33 (.int .i64 120) (.int .i64 120)).run Try.prog W = .ok (.slice (some ⟨W.heap.size, 0, none⟩) 120 120) (W.alloc (.cells (madeCells #[.slice none 0 0] 120) 30)) := fun W => Go.run_make_row' (P := Try.prog) 33 30 (.slice none 0 0) 24 Try.underlying33 hinfo rfl .i64 .i64 120 (by omega) (by omega) W
  clear hinfo
  clear hcb1
  go_cut [8] (fun v8 wc => ∃ (go gr gf cf : Nat), v8 = .pointer (some ⟨go, 0, none⟩) ∧ Aside0 (GI w g go (w.heap.size + 1) w.heap.size gr A c jobs (.slice (some ⟨gd, 0, none⟩) jobs.length cd) (.slice (some ⟨gf, 0, none⟩) jobs.length cf) wc (List.replicate jobs.length 0) (List.replicate jobs.length (-1)) 0) ∧ Aside0 (GD w g go (w.heap.size + 1) w.heap.size gr (.slice (some ⟨gd, 0, none⟩) jobs.length cd) (.slice (some ⟨gf, 0, none⟩) jobs.length cf)))
  case first =>
    have HCB := Lib.hid (fun (V : World) (hV : Below w3.heap.size w3 V) => (hV.cell (World.block_lt_of_cell? _ _ hcb0)).trans hcb0)
    go_region_held3 (fun w' => w'.cell? ⟨w.heap.size, 0, none⟩ = some (.slice A jobs.length c)) (first | go_keep | exact HCB.out _ (by repeat (first | exact Below.refl _ _ | apply below_alloc | apply below_drew | apply pw_below_drewN | refine below_set ?_ (Nat.le_refl _) | refine below_set ?_ (Nat.le_succ _) | refine below_step ?_ HB5.out))) (first | (go_at_call 79; refine (HN2.out _).mono ?_; rintro e w5 ⟨fv, rfl, hrf, hb5⟩; obtain ⟨gf, cf, ef, _⟩ := Kd.R_form hrf (by rw [List.length_replicate]; exact HP.out); rw [show (List.replicate jobs.length (-1 : Int)).length = jobs.length from List.length_replicate] at ef; subst ef; have HRF := Lib.hid hrf; have HB5 := Lib.hid hb5; (try (have hq : w5.heap[w3.heap.size]? = some (.cells #[.slice none 0 0, .slice none 0 0] 80 (0, 0)) := (hb5.block _ (by first | (simp; done) | (simp; omega))).trans (by with_reducible first | exact blk_new _ _ | exact blk_drew (blk_new _ _) | exact blk_alloc (blk_new _ _) _ | exact blk_drew (blk_alloc (blk_new _ _) _)); have hqa0 : ∀ o, (w5.alloc o).cell? ⟨w3.heap.size, 0, none⟩ = some (.slice none 0 0) := fun o => (blk_cell (blk_alloc hq o) 0).trans rfl; have hqa1 : ∀ o, (w5.alloc o).cell? ⟨w3.heap.size, 1, none⟩ = some (.slice none 0 0) := fun o => (blk_cell (blk_alloc hq o) 1).trans rfl; have hqb0 : ∀ o, (w5.alloc o).frozen? ⟨w3.heap.size, 0, none⟩ = false := fun o => blk_frozen (blk_alloc hq o) 0; have hqb1 : ∀ o, (w5.alloc o).frozen? ⟨w3.heap.size, 1, none⟩ = false := fun o => blk_frozen (blk_alloc hq o) 1; have hqc0 : w5.cell? ⟨w3.heap.size, 0, none⟩ = some (.slice none 0 0) := (blk_cell hq 0).trans rfl; have hqc1 : w5.cell? ⟨w3.heap.size, 1, none⟩ = some (.slice none 0 0) := (blk_cell hq 1).trans rfl; have hqf0 := blk_frozen hq 0; have hqf1 := blk_frozen hq 1; have hqn := Lib.hid hq; clear hq)); (try (have hq : w5.heap[w3.heap.size + 1]? = some (.cells #[.slice none 0 0, .slice none 0 0] 80 (0, 0)) := (hb5.block _ (by first | (simp; done) | (simp; omega))).trans (by with_reducible first | exact blk_new1 _ _ _ | exact blk_drew (blk_new1 _ _ _)); have hqa0 : ∀ o, (w5.alloc o).cell? ⟨w3.heap.size + 1, 0, none⟩ = some (.slice none 0 0) := fun o => (blk_cell (blk_alloc hq o) 0).trans rfl; have hqa1 : ∀ o, (w5.alloc o).cell? ⟨w3.heap.size + 1, 1, none⟩ = some (.slice none 0 0) := fun o => (blk_cell (blk_alloc hq o) 1).trans rfl; have hqb0 : ∀ o, (w5.alloc o).frozen? ⟨w3.heap.size + 1, 0, none⟩ = false := fun o => blk_frozen (blk_alloc hq o) 0; have hqb1 : ∀ o, (w5.alloc o).frozen? ⟨w3.heap.size + 1, 1, none⟩ = false := fun o => blk_frozen (blk_alloc hq o) 1; have hqc0 : w5.cell? ⟨w3.heap.size + 1, 0, none⟩ = some (.slice none 0 0) := (blk_cell hq 0).trans rfl; have hqc1 : w5.cell? ⟨w3.heap.size + 1, 1, none⟩ = some (.slice none 0 0) := (blk_cell hq 1).trans rfl; have hqf0 := blk_frozen hq 0; have hqf1 := blk_frozen hq 1; have hqn := Lib.hid hq; clear hq)); (try (have hn5 : w5.heap.size ≠ w3.heap.size := by (have hs5 := hb5.size; simp at hs5; omega); have hn5' := Ne.symm hn5)); (try (have hn6 : w5.heap.size ≠ w3.heap.size + 1 := by (have hs5 := hb5.size; simp at hs5; omega); have hn6' := Ne.symm hn6)); clear hrf hb5))
    all_goals (clear HCB HLEG HCOR HNM HN2 HWQ; go_wp2_with fail; go_meet)
    all_goals have hW3 : w.heap.size + 2 ≤ w3.heap.size := Nat.le_trans HGW.out HB3.out.size
    all_goals have hgw : w.heap.size ≤ g := by (have h1 := HGW.out; have h2 := HG.out; omega)
    all_goals have hB35 : Below w3.heap.size w3 w5 := by repeat (first | exact Below.refl _ _ | refine below_step ?_ HB5.out | apply below_drew | apply below_alloc)
    all_goals have HBW := below_step HBW3.out hB35
    all_goals have hs35 := hB35.size
    all_goals have hs5 := HB5.out.size
    all_goals have hfl := Kd.R_lt HRF.out gf rfl
    all_goals have hfb := Kd.R_base HRF.out gf rfl
    all_goals have hb0 : w.heap.size ≤ (w1.drewN md).heap.size := by (have h1 := HGW.out; omega)
    all_goals (try simp at hs5)
    all_goals (try simp at hfb)
    all_goals have hfb3 : w3.heap.size ≤ gf := by first | omega | exact Nat.le_trans (by simp) hfb
    · refine ⟨w5.heap.size, w3.heap.size, gf, cf, rfl, (fun h => ⟨⟨h.1⟩, ⟨h.2⟩⟩) (GI_start (go := w5.heap.size) (gr := w3.heap.size) (w5 := w5) HBW3.out hW3 hB35 ?gB1 ?gF1 HBM.out hgw HX3.out HS3.out HRD.out hb0 HRF.out ?gb1 (by omega) ?gne1 ?gO1 (by omega) ?gR1)⟩; (case gB1 => repeat (first | exact HBW | apply below_alloc | refine below_set ?_ (by omega))); (case gF1 => intro k hk hne; repeat (first | rfl | refine (Below.heap_alloc _ _ _ (by first | omega | (simp; omega))).trans ?_ | refine (Below.heap_setCell _ _ _ _ hne).trans ?_)); (case gb1 => first | exact Nat.le_refl _ | (simp; done) | (simp; omega)); (case gne1 => first | omega | exact Kd.R_ne HRF.out hqn.out (by decide) rfl | exact Ne.symm (Kd.R_ne HRF.out hqn.out (by decide) rfl) | (intro e; exact Kd.R_ne HRF.out hqn.out (by decide) (by rw [← e]; rfl))); (case gO1 => with_reducible first | exact blk_new _ _ | exact blk_alloc (blk_new _ _) _ | exact blk_new1 _ _ _ | exact blk_put (blk_put hqn.out 0 _ rfl) 1 _ rfl | exact blk_put (blk_put (blk_alloc hqn.out _) 0 _ rfl) 1 _ rfl); (case gR1 => with_reducible repeat (first | exact blk_new _ _ | exact blk_new1 _ _ _ | refine blk_far ?_ (by first | omega | (simp; done) | (simp; omega)) _ | refine blk_alloc ?_ _ | refine blk_below ?_ HB5.out | apply blk_drew))
    · refine ⟨(w3.heap.size + 1), w3.heap.size, gf, cf, rfl, (fun h => ⟨⟨h.1⟩, ⟨h.2⟩⟩) (GI_start (go := (w3.heap.size + 1)) (gr := w3.heap.size) (w5 := w5) HBW3.out hW3 hB35 ?gB2 ?gF2 HBM.out hgw HX3.out HS3.out HRD.out hb0 HRF.out ?gb2 (by omega) ?gne2 ?gO2 (by omega) ?gR2)⟩; (case gB2 => repeat (first | exact HBW | apply below_alloc | refine below_set ?_ (by omega))); (case gF2 => intro k hk hne; repeat (first | rfl | refine (Below.heap_alloc _ _ _ (by first | omega | (simp; omega))).trans ?_ | refine (Below.heap_setCell _ _ _ _ hne).trans ?_)); (case gb2 => first | exact Nat.le_refl _ | (simp; done) | (simp; omega)); (case gne2 => first | omega | exact Kd.R_ne HRF.out hqn.out (by decide) rfl | exact Ne.symm (Kd.R_ne HRF.out hqn.out (by decide) rfl) | (intro e; exact Kd.R_ne HRF.out hqn.out (by decide) (by rw [← e]; rfl))); (case gO2 => with_reducible first | exact blk_new _ _ | exact blk_alloc (blk_new _ _) _ | exact blk_new1 _ _ _ | exact blk_put (blk_put hqn.out 0 _ rfl) 1 _ rfl | exact blk_put (blk_put (blk_alloc hqn.out _) 0 _ rfl) 1 _ rfl); (case gR2 => with_reducible repeat (first | exact blk_new _ _ | exact blk_new1 _ _ _ | refine blk_far ?_ (by first | omega | (simp; done) | (simp; omega)) _ | refine blk_alloc ?_ _ | refine blk_below ?_ HB5.out | apply blk_drew))
    · refine ⟨(w5.heap.size + 1), w5.heap.size, gf, cf, rfl, (fun h => ⟨⟨h.1⟩, ⟨h.2⟩⟩) (GI_start (go := (w5.heap.size + 1)) (gr := w5.heap.size) (w5 := w5) HBW3.out hW3 hB35 ?gB3 ?gF3 HBM.out hgw HX3.out HS3.out HRD.out hb0 HRF.out ?gb3 (by omega) ?gne3 ?gO3 (by omega) ?gR3)⟩; (case gB3 => repeat (first | exact HBW | apply below_alloc | refine below_set ?_ (by omega))); (case gF3 => intro k hk hne; repeat (first | rfl | refine (Below.heap_alloc _ _ _ (by first | omega | (simp; omega))).trans ?_ | refine (Below.heap_setCell _ _ _ _ hne).trans ?_)); (case gb3 => first | exact Nat.le_refl _ | (simp; done) | (simp; omega)); (case gne3 => first | omega | exact Kd.R_ne HRF.out hqn.out (by decide) rfl | exact Ne.symm (Kd.R_ne HRF.out hqn.out (by decide) rfl) | (intro e; exact Kd.R_ne HRF.out hqn.out (by decide) (by rw [← e]; rfl))); (case gO3 => with_reducible first | exact blk_new _ _ | exact blk_alloc (blk_new _ _) _ | exact blk_new1 _ _ _ | exact blk_put (blk_put hqn.out 0 _ rfl) 1 _ rfl | exact blk_put (blk_put (blk_alloc hqn.out _) 0 _ rfl) 1 _ rfl); (case gR3 => with_reducible repeat (first | exact blk_new _ _ | exact blk_new1 _ _ _ | refine blk_far ?_ (by first | omega | (simp; done) | (simp; omega)) _ | refine blk_alloc ?_ _ | refine blk_below ?_ HB5.out | apply blk_drew))
    · refine ⟨w5.heap.size, (w5.heap.size + 1), gf, cf, rfl, (fun h => ⟨⟨h.1⟩, ⟨h.2⟩⟩) (GI_start (go := w5.heap.size) (gr := (w5.heap.size + 1)) (w5 := w5) HBW3.out hW3 hB35 ?gB4 ?gF4 HBM.out hgw HX3.out HS3.out HRD.out hb0 HRF.out ?gb4 (by omega) ?gne4 ?gO4 (by omega) ?gR4)⟩; (case gB4 => repeat (first | exact HBW | apply below_alloc | refine below_set ?_ (by omega))); (case gF4 => intro k hk hne; repeat (first | rfl | refine (Below.heap_alloc _ _ _ (by first | omega | (simp; omega))).trans ?_ | refine (Below.heap_setCell _ _ _ _ hne).trans ?_)); (case gb4 => first | exact Nat.le_refl _ | (simp; done) | (simp; omega)); (case gne4 => first | omega | exact Kd.R_ne HRF.out hqn.out (by decide) rfl | exact Ne.symm (Kd.R_ne HRF.out hqn.out (by decide) rfl) | (intro e; exact Kd.R_ne HRF.out hqn.out (by decide) (by rw [← e]; rfl))); (case gO4 => with_reducible first | exact blk_new _ _ | exact blk_alloc (blk_new _ _) _ | exact blk_new1 _ _ _ | exact blk_put (blk_put hqn.out 0 _ rfl) 1 _ rfl | exact blk_put (blk_put (blk_alloc hqn.out _) 0 _ rfl) 1 _ rfl); (case gR4 => with_reducible repeat (first | exact blk_new _ _ | exact blk_new1 _ _ _ | refine blk_far ?_ (by first | omega | (simp; done) | (simp; omega)) _ | refine blk_alloc ?_ _ | refine blk_below ?_ HB5.out | apply blk_drew))
    · refine ⟨w3.heap.size, (w3.heap.size + 1), gf, cf, rfl, (fun h => ⟨⟨h.1⟩, ⟨h.2⟩⟩) (GI_start (go := w3.heap.size) (gr := (w3.heap.size + 1)) (w5 := w5) HBW3.out hW3 hB35 ?gB5 ?gF5 HBM.out hgw HX3.out HS3.out HRD.out hb0 HRF.out ?gb5 (by omega) ?gne5 ?gO5 (by omega) ?gR5)⟩; (case gB5 => repeat (first | exact HBW | apply below_alloc | refine below_set ?_ (by omega))); (case gF5 => intro k hk hne; repeat (first | rfl | refine (Below.heap_alloc _ _ _ (by first | omega | (simp; omega))).trans ?_ | refine (Below.heap_setCell _ _ _ _ hne).trans ?_)); (case gb5 => first | exact Nat.le_refl _ | (simp; done) | (simp; omega)); (case gne5 => first | omega | exact Kd.R_ne HRF.out hqn.out (by decide) rfl | exact Ne.symm (Kd.R_ne HRF.out hqn.out (by decide) rfl) | (intro e; exact Kd.R_ne HRF.out hqn.out (by decide) (by rw [← e]; rfl))); (case gO5 => with_reducible first | exact blk_new _ _ | exact blk_alloc (blk_new _ _) _ | exact blk_new1 _ _ _ | exact blk_put (blk_put hqn.out 0 _ rfl) 1 _ rfl | exact blk_put (blk_put (blk_alloc hqn.out _) 0 _ rfl) 1 _ rfl); (case gR5 => with_reducible repeat (first | exact blk_new _ _ | exact blk_new1 _ _ _ | refine blk_far ?_ (by first | omega | (simp; done) | (simp; omega)) _ | refine blk_alloc ?_ _ | refine blk_below ?_ HB5.out | apply blk_drew))
    · refine ⟨w3.heap.size, w5.heap.size, gf, cf, rfl, (fun h => ⟨⟨h.1⟩, ⟨h.2⟩⟩) (GI_start (go := w3.heap.size) (gr := w5.heap.size) (w5 := w5) HBW3.out hW3 hB35 ?gB6 ?gF6 HBM.out hgw HX3.out HS3.out HRD.out hb0 HRF.out ?gb6 (by omega) ?gne6 ?gO6 (by omega) ?gR6)⟩; (case gB6 => repeat (first | exact HBW | apply below_alloc | refine below_set ?_ (by omega))); (case gF6 => intro k hk hne; repeat (first | rfl | refine (Below.heap_alloc _ _ _ (by first | omega | (simp; omega))).trans ?_ | refine (Below.heap_setCell _ _ _ _ hne).trans ?_)); (case gb6 => first | exact Nat.le_refl _ | (simp; done) | (simp; omega)); (case gne6 => first | omega | exact Kd.R_ne HRF.out hqn.out (by decide) rfl | exact Ne.symm (Kd.R_ne HRF.out hqn.out (by decide) rfl) | (intro e; exact Kd.R_ne HRF.out hqn.out (by decide) (by rw [← e]; rfl))); (case gO6 => with_reducible first | exact blk_new _ _ | exact blk_alloc (blk_new _ _) _ | exact blk_new1 _ _ _ | exact blk_put (blk_put hqn.out 0 _ rfl) 1 _ rfl | exact blk_put (blk_put (blk_alloc hqn.out _) 0 _ rfl) 1 _ rfl); (case gR6 => with_reducible repeat (first | exact blk_new _ _ | exact blk_new1 _ _ _ | refine blk_far ?_ (by first | omega | (simp; done) | (simp; omega)) _ | refine blk_alloc ?_ _ | refine blk_below ?_ HB5.out | apply blk_drew))
  case rest =>
    obtain ⟨go, gr, gf, cf, rfl, HI0, HD⟩ := hcut
    have HB3w := Below.refl w.heap.size w
    clear HG HBM HRD HB3 HX3 HS3 HGW hcb0 HBW3 HNM HN2 HLEG HCOR HWQ HB0 HBX HRS HSZ HB3w hmk
    go_wp2_with fail
    go_loopg [] 120 (fun kq w' => ∃ t : Nat, t + kq = 120 ∧ Aside0 (GI w g go (w.heap.size + 1) w.heap.size gr A c jobs (.slice (some ⟨gd, 0, none⟩) jobs.length cd) (.slice (some ⟨gf, 0, none⟩) jobs.length cf) w' (gN jobs hp cores t).1 (gN jobs hp cores t).2 (t : Int)))
    case atStart => exact ⟨0, rfl, HI0⟩
    case round =>
      clear HI0
      obtain ⟨t, ht, HI⟩ := hrel
      obtain ⟨wo, hwo⟩ : ∃ wo, wo = wr := ⟨_, rfl⟩
      subst hwo
      obtain ⟨h1, h2, h3, h4, ⟨cs, h5, h5s⟩, h6, h7, h8⟩ := HI.out
      have hm2 : wo.cell? ⟨g, 2, none⟩ = some (.int .i64 (t : Int)) := (blk_cell h1 2).trans rfl
      have hfz2 := blk_frozen h1 2
      cases gk with
      | zero =>
        have htt : t = 120 := by omega
        subst htt
        have b1 : decide (((120 : Nat) : Int) < 120) = false := by decide
        have ho0 : wo.cell? ⟨go, 0, none⟩ = some (.slice (some ⟨gr, 0, none⟩) 120 120) := (blk_cell h2 0).trans rfl
        have ho1 : wo.cell? ⟨go, 1, none⟩ = some (.slice (some ⟨gf, 0, none⟩) jobs.length cf) := (blk_cell h2 1).trans rfl
        have hq0 : wo.cell? ⟨w.heap.size + 1, 0, none⟩ = some (.slice none 0 0) := (blk_cell h3 0).trans rfl
        have hq1 : wo.cell? ⟨w.heap.size + 1, 1, none⟩ = some (.slice none 0 0) := (blk_cell h3 1).trans rfl
        have hqf0 := blk_frozen h3 0
        have hqf1 := blk_frozen h3 1
        have hgo := HD.out.2.2.2.2.2.1
        have H3 := Aside0.mk h3
        have hout : Kd.R (Kd.int .i64) 3 ((wo.setCell ⟨w.heap.size + 1, 0, none⟩ (.slice (some ⟨gr, 0, none⟩) 120 120)).setCell ⟨w.heap.size + 1, 1, none⟩ (.slice (some ⟨gf, 0, none⟩) jobs.length cf)) w.heap.size (fun _ => True) (.slice (some ⟨gf, 0, none⟩) jobs.length cf) (gN jobs hp cores 120).2 :=
          row_stepG h7 (fun k e hlt => (Below.heap_setCell _ _ _ k (fun e' => Kd.R_ne h7 h3 (by decide) (by rw [e, e']))).trans (Below.heap_setCell _ _ _ k (fun e' => Kd.R_ne h7 h3 (by decide) (by rw [e, e']))))
        have hob : Below w.heap.size w ((wo.setCell ⟨w.heap.size + 1, 0, none⟩ (.slice (some ⟨gr, 0, none⟩) 120 120)).setCell ⟨w.heap.size + 1, 1, none⟩ (.slice (some ⟨gf, 0, none⟩) jobs.length cf)) := (h8.setCell HD.out.2.2.1 _).setCell HD.out.2.2.1 _
        have HOUT := Aside0.mk hout
        have HOB := Aside0.mk hob
        clear h1 h2 h3 h4 h5 h6 h7 h8 hout hob
        go_wp2
        (try simp only [Exit.inBlock, Exit.then])
        refine bodyPost_ret (results_cell_row rfl _ _ (w.heap.size + 1) 80 #[.slice (some ⟨gr, 0, none⟩) 120 120, .slice (some ⟨gf, 0, none⟩) jobs.length cf] (0, 0) _ rfl (blk_put (blk_put H3.out 0 _ rfl) 1 _ rfl) Try.underlying80 rfl (by kernel_rfl)) rfl ?_
        exact ⟨_, _, rfl, HOUT.out, HOB.out⟩
      | succ k1 =>
        have b1 : decide ((t : Int) < 120) = true := decide_eq_true (by omega)
        have hk0 : wo.cell? ⟨w.heap.size, 0, none⟩ = some (.slice A jobs.length c) := (blk_cell h4 0).trans rfl
        obtain ⟨done, hdone⟩ : ∃ d, d = (gN jobs hp cores t).1 := ⟨_, rfl⟩
        obtain ⟨fin, hfin⟩ : ∃ d, d = (gN jobs hp cores t).2 := ⟨_, rfl⟩
        have hgn : gN jobs hp cores (t + 1) = (takeG jobs hp cores done t).foldl (gJob jobs t) (done, fin) := by rw [hdone, hfin]; rfl
        have hlen := gN_len (jobs := jobs) (hp := hp) (cores := cores) t
        rw [← hdone, ← hfin] at hlen
        rw [← hdone] at h6
        rw [← hfin] at h7
        rw [← hdone, ← hfin] at HI
        have HGN := Lib.hid hgn
        have HLN := Lib.hid hlen
        have hkj := Kd.C_below HJ.out h8
        have HKJ := Lib.hid hkj
        have HMR : Hid (∀ V, Below wo.heap.size wo V → MachR V g A c jobs (some ⟨gd, 0, none⟩) cd done (t : Int)) := Lib.hid (fun V hV => ⟨by rw [hlen.1]; exact blk_below h1 hV, Kd.C_below hkj hV, by have := (Kd.R_reads' (Kd.R_below h6 hV)).2.2; exact this, hlen.1⟩)
        have HK0 : Hid (∀ V, Below wo.heap.size wo V → V.cell? ⟨w.heap.size, 0, none⟩ = some (.slice A jobs.length c)) := Lib.hid (fun V hV => (hV.cell (World.block_lt_of_cell? _ _ hk0)).trans hk0)
        have HB := Aside0.mk (Below.refl wo.heap.size wo)
        have hmx : jobs.length ≤ 9223372036854775807 := by have := H19.out; omega
        have hgdl : gd < wo.heap.size := Kd.R_lt h6 gd rfl
        have hgfl : gf < wo.heap.size := Kd.R_lt h7 gf rfl
        have HGL := Lib.hid (And.intro hgdl hgfl)
        clear hdone hfin hgn hlen h1 h2 h3 h4 h5 h5s h6 h7 h8 hkj hgdl hgfl
        go_wp2_with fail
        go_loopw [9, 44] (fun v9 v44 w' => ∃ j : Nat, v44 = .int .i64 j ∧ Aside0 (j ≤ jobs.length) ∧ Aside0 (Kd.R (Kd.int .i64) 3 w' wo.heap.size (fun _ => True) v9 (readyL jobs done t j)) ∧ Aside0 (Below wo.heap.size wo w')) (fun v9 v44 _ => jobs.length - (intOf v44).toNat)
        case atStart => exact ⟨0, rfl, ⟨Nat.zero_le _⟩, ⟨Kd.R_nil _ _ _ _ _⟩, HB⟩
        case round =>
          clear HB
          obtain ⟨j, rfl, ⟨HJL⟩, HO, HB⟩ := hrel
          by_cases hlt : j < jobs.length
          · have b2 : decide ((j : Int) < (jobs.length : Int)) = true := decide_eq_true (by omega)
            have hst := readyL_succ jobs done t j
            have hle := readyL_len jobs done t j
            have HLE := Lib.hid hle
            have hr0 := fun V hV => ready_calls g A c jobs (some ⟨gd, 0, none⟩) cd done t j hlt V (HMR.out V hV)
            clear hle
            cases hr : rdyB jobs done t j with
            | false =>
              have HN : Hid (readyL jobs done t (j + 1) = readyL jobs done t j) := Lib.hid (by rw [hst, hr]; rfl)
              have HRDY : Hid (∀ V, Below wo.heap.size wo V → Calls Try.prog 110 #[.pointer (some ⟨g, 0, none⟩), .int .i64 (j : Int)] V fun e w' => e = .returned (.bool false) ∧ ∃ m, w' = V.drewN m) := Lib.hid (fun V hV => by rw [← hr]; exact hr0 V hV)
              clear hst hr hr0
              go_wp2_with (go_at_call 110; refine (HRDY.out _ (by repeat (first | (with_reducible first | exact HB.out | apply below_alloc | apply pw_below_drewN | apply below_drew1) | exact HB.out))).mono ?_; rintro e w2 ⟨rfl, mm, hw2⟩; have n0_ : Aside0 (Below wo.heap.size wo w2) := ⟨by rw [hw2]; exact (by repeat (first | (with_reducible first | exact HB.out | apply below_alloc | apply pw_below_drewN | apply below_drew1) | exact HB.out))⟩; have n1_ : Aside0 (Kd.R (Kd.int .i64) 3 w2 wo.heap.size (fun _ => True) u9 (readyL jobs done t j)) := ⟨by rw [hw2]; (with_reducible repeat (first | apply Kd.R_alloc | apply Kd.R_drewN | apply Kd.R_drew)); exact HO.out⟩; clear hw2 HB HO; have HB := n0_; have HO := n1_; clear n0_ n1_)
              go_roundw
              case rel => exact ⟨j + 1, by go_num, ⟨by omega⟩, ⟨by rw [HN.out]; (with_reducible repeat (first | apply Kd.R_alloc | apply Kd.R_drewN | apply Kd.R_drew)); exact HO.out⟩, ⟨(by repeat (first | (with_reducible first | exact HB.out | apply below_alloc | apply pw_below_drewN | apply below_drew1) | exact HB.out))⟩⟩
              case measure => simp [intOf]; omega
            | true =>
              have HN : Hid (readyL jobs done t (j + 1) = readyL jobs done t j ++ [(j : Int)]) := Lib.hid (by rw [hst, hr]; rfl)
              have HRDY : Hid (∀ V, Below wo.heap.size wo V → Calls Try.prog 110 #[.pointer (some ⟨g, 0, none⟩), .int .i64 (j : Int)] V fun e w' => e = .returned (.bool true) ∧ ∃ m, w' = V.drewN m) := Lib.hid (fun V hV => by rw [← hr]; exact hr0 V hV)
              clear hst hr hr0
              go_wp2_with (first | (go_at_call 110; refine (HRDY.out _ (by repeat (first | (with_reducible first | exact HB.out | apply below_alloc | apply pw_below_drewN | apply below_drew1) | exact HB.out))).mono ?_; rintro e w2 ⟨rfl, mm, hw2⟩; have n0_ : Aside0 (Below wo.heap.size wo w2) := ⟨by rw [hw2]; exact (by repeat (first | (with_reducible first | exact HB.out | apply below_alloc | apply pw_below_drewN | apply below_drew1) | exact HB.out))⟩; have n1_ : Aside0 (Kd.R (Kd.int .i64) 3 w2 wo.heap.size (fun _ => True) u9 (readyL jobs done t j)) := ⟨by rw [hw2]; (with_reducible repeat (first | apply Kd.R_alloc | apply Kd.R_drewN | apply Kd.R_drew)); exact HO.out⟩; clear hw2 HB HO; have HB := n0_; have HO := n1_; clear n0_ n1_) | ((with_reducible refine gate_builtin (b := .append) (xs := #[.tmp 50, .tmp 52]) rfl ?_); at_builtin; refine Kd.R_append (Kd.int .i64) (w0 := wo) wo.heap.size rfl (.tmp 50) (.tmp 52) 30 3 (.int .i64 0) 8 rfl Try.underlying30 info3 rfl (by decide) (by omega) u9 (readyL jobs done t j) (j : Int) [.int .i64 (j : Int)] (fun _ => True) (fun _ => False) rfl rfl ?aP (fun _ hk => hk.elim) ?aF ?aO ?aB ?aS ?aL ?_; (case aP => exact rfl); (case aB => exact (by repeat (first | (with_reducible first | exact HB.out | apply below_alloc | apply pw_below_drewN | apply below_drew1) | exact HB.out))); (case aF => exact (fun _ _ => trivial)); (case aO => exact (by (with_reducible repeat (first | apply Kd.R_alloc | apply Kd.R_drewN | apply Kd.R_drew)); exact HO.out)); (case aS => exact (below_size (by repeat (first | (with_reducible first | exact HB.out | apply below_alloc | apply pw_below_drewN | apply below_drew1) | exact HB.out)))); (case aL => have := HLE.out; have := H19.out; omega); intro v107 w11 ho hb hg hat; rw [← HN.out] at ho; have n0_ := Aside0.mk (hb); have n1_ := Aside0.mk (ho); clear HB; clear HO; have HB := n0_; have HO := n1_; clear n0_ n1_; clear ho hb hg hat))
              go_roundw
              case rel => exact ⟨j + 1, by go_num, ⟨by omega⟩, ⟨by (with_reducible repeat (first | apply Kd.R_alloc | apply Kd.R_drewN | apply Kd.R_drew)); exact HO.out⟩, ⟨(by repeat (first | (with_reducible first | exact HB.out | apply below_alloc | apply pw_below_drewN | apply below_drew1) | exact HB.out))⟩⟩
              case measure => simp [intOf]; omega
          · have b2 : decide ((j : Int) < (jobs.length : Int)) = false := decide_eq_false (by omega)
            have hje : j = jobs.length := by omega
            subst hje
            have hO2 := HO.out
            rw [readyL_all] at hO2
            have hfl : (readyF jobs done t).length ≤ 19 := by
              have h1 := readyL_len jobs done t jobs.length
              rw [readyL_all, List.length_map] at h1
              have := H19.out
              omega
            have hsrt := sort_any w.heap.size A c jobs wo wr hk0 HKJ.out hp u9 (readyF jobs done t) hfl HB.out hO2
            obtain ⟨As, cps, es⟩ := Kd.R_slice hO2
            rw [List.length_map] at es
            subst es
            obtain ⟨S, hS⟩ : ∃ S, S = (sortJ jobs hp (readyF jobs done t)).map (fun i => (i.val : Int)) := ⟨_, rfl⟩
            have hSl : S.length = (readyF jobs done t).length := by rw [hS, List.length_map, sortJ_len]
            have hT : takeG jobs hp cores done t = S.take cores := by rw [hS]; rfl
            have hTin := fun j h => takeG_in (jobs := jobs) (hp := hp) (cores := cores) (done := done) (t := t) (j := j) h
            rw [← hS] at hsrt
            rw [← hSl] at hsrt
            obtain ⟨T, hTe⟩ : ∃ T, T = takeG jobs hp cores done t := ⟨_, rfl⟩
            rw [← hTe] at hTin hT
            have hgn := HGN.out
            rw [← hTe] at hgn
            have hcapn : S.length ≤ cps := by have := (Kd.R_reads' hO2).2.1; rw [hSl]; exact this
            have hTm : T = S.take (min cores S.length) := by rw [hT]; exact List.take_eq_take_min
            have hTl : T.length = min cores S.length := by rw [hTm, List.length_take]; omega
            obtain ⟨m, hm⟩ : ∃ m, m = min cores S.length := ⟨_, rfl⟩
            rw [← hm] at hTm hTl
            have hmin : (if (S.length : Int) < (cores : Int) then (S.length : Int) else (cores : Int)) = (m : Int) := by split <;> omega
            have hmin1 : (if S.length < cores then (S.length : Int) else (cores : Int)) = (m : Int) := by split <;> omega
            have hmin3 : (if S.length < cores then S.length else cores) = m := by split <;> omega
            have hmS : m ≤ S.length := by omega
            have q0 : 0 ≤ (m : Int) := by omega
            have q1 : (m : Int) ≤ (cps : Int) := by omega
            have hS19 : S.length ≤ 19 := by omega
            have hcl : ∀ V : World, Kd.C (Kd.int .i64) V As S.length S → Calls Try.prog 126 #[.slice As m cps] V fun e w' => ∃ A cap, e = .returned (.slice A m m) ∧ Kd.R (Kd.int .i64) 3 w' V.heap.size (fun _ => True) (.slice A m cap) T ∧ Below V.heap.size V w' := fun V hV => by
              have := clone_Int As cps T V (by rw [hTm]; exact Kd.C_take hV hmS) (by omega) (by omega)
              rw [hTl] at this
              exact this
            rw [← hSl]
            have HSRT := Lib.hid hsrt
            have HCL := Lib.hid hcl
            have HGT := Lib.hid hgn
            have HTL := Lib.hid hTl
            have HTI := Lib.hid hTin
            clear hO2 hfl hsrt hS hSl hT hTin hTe hgn hcapn hTm hTl hm hmS hcl
            go_wp2_with (first | (go_at_call 123; refine HSRT.out.mono ?_; rintro e w4 ⟨rfl, hs4, hb4⟩; have HS4 := Lib.hid hs4; have HB4 := Lib.hid hb4; clear hs4 hb4) | (go_at_call 126; refine (HCL.out _ (Kd.R_reads' HS4.out).2.2).mono ?_; rintro e w5 ⟨Ac, cc, rfl, hr5, hb5⟩; have HR5 := Lib.hid hr5; have HB5 := Lib.hid hb5; clear hr5 hb5))
            have hI5 := HI.out.keep (below_step HB4.out HB5.out)
            have HI5 := Aside0.mk hI5
            have HT5 := Aside0.mk (Kd.R_lower HR5.out HB4.out.size)
            have hm99 : m ≤ 9223372036854775807 := by omega
            clear hI5 HSRT HCL HS4 HB4 HR5 HB5 HO HB HMR HK0 hk0 hm2 hfz2 hmin hmin1 hmin3 b2 q0 q1 HJL hlt hS19
            go_loopw [67] (fun v67 w' => ∃ j : Nat, v67 = .int .i64 j ∧ Aside0 (j ≤ m) ∧ Aside0 (GI w g go (w.heap.size + 1) w.heap.size gr A c jobs (.slice (some ⟨gd, 0, none⟩) jobs.length cd) (.slice (some ⟨gf, 0, none⟩) jobs.length cf) w' ((T.take j).foldl (gJob jobs t) (done, fin)).1 ((T.take j).foldl (gJob jobs t) (done, fin)).2 (t : Int)) ∧ Aside0 (Kd.R (Kd.int .i64) 3 w' wo.heap.size (fun _ => True) (.slice Ac m cc) T)) (fun v67 _ => m - (intOf v67).toNat)
            case atStart => exact ⟨0, rfl, ⟨Nat.zero_le _⟩, HI5, HT5⟩
            case round =>
              clear HI5 HT5
              obtain ⟨j, rfl, ⟨HJL⟩, HI6, HT6⟩ := hrel
              by_cases hlt : j < m
              · have b3 : decide ((j : Int) < (m : Int)) = true := decide_eq_true (by omega)
                have hfold := fold_take (gJob jobs t) 0 T j (done, fin) (by have := HTL.out; omega)
                have hln := gJob_len (jobs := jobs) (t := t) (T.take j) (done, fin) HLN.out.1 HLN.out.2
                have hti := HTI.out j (by have := HTL.out; omega)
                obtain ⟨X, hX⟩ : ∃ X, X = (T.take j).foldl (gJob jobs t) (done, fin) := ⟨_, rfl⟩
                rw [← hX] at hfold hln HI6
                clear hX
                obtain ⟨d1, f1⟩ := X
                simp only at hln HI6
                obtain ⟨x, hx⟩ : ∃ x, x = T.getD j 0 := ⟨_, rfl⟩
                have ht6 := HT6.out
                obtain ⟨gt, ct, et, _⟩ := Kd.R_form ht6 (by have := HTL.out; omega)
                injection et with et1 et2 et3
                subst et1 et3
                clear et2
                have hgt : wo.heap.size ≤ gt := Kd.R_base ht6 gt rfl
                obtain ⟨htc, htf⟩ := Kd.R_celln 0 ht6 (j : Int) (by omega) (by omega)
                have hrt : rdOf 0 T (j : Int) = T.getD j 0 := rfl
                rw [hrt] at htc
                rw [← hx] at htc hfold hti
                simp only [Int.toNat_natCast] at htc
                obtain ⟨n, rfl⟩ : ∃ n : Nat, x = (n : Int) := ⟨x.toNat, by omega⟩
                have hnl : n < jobs.length := by omega
                have q0 : 0 ≤ (j : Int) := by omega
                have q1 : (j : Int) < (m : Int) := by omega
                have q2 : 0 ≤ (n : Int) := by omega
                have q3 : (n : Int) < (jobs.length : Int) := by omega
                obtain ⟨h1, h2, h3, h4, ⟨cs, h5, h5s⟩, h6, h7, h8⟩ := HI6.out
                obtain ⟨hdc, hdf⟩ := Kd.R_celln 0 h6 (n : Int) (by omega) (by omega)
                have hrd : rdOf 0 d1 (n : Int) = d1.getD n 0 := rfl
                rw [hrd] at hdc
                obtain ⟨y, hy⟩ : ∃ y, y = d1.getD n 0 := ⟨_, rfl⟩
                rw [← hy] at hdc
                simp only [Int.toNat_natCast] at hdc hdf
                obtain ⟨z, hz⟩ : ∃ z, z = wrap64 (y + 1) := ⟨_, rfl⟩
                have hzw : IntKind.i64.wrap (y + 1) = z := by rw [i64_w, hz]
                have hm1 : wr.cell? ⟨g, 1, none⟩ = some (.slice (some ⟨gd, 0, none⟩) jobs.length cd) := (blk_cell h1 1).trans rfl
                have hI7 := HI6.out.setDone HD.out (n : Int) z
                have hT7 : Kd.R (Kd.int .i64) 3 (wr.setCell ⟨gd, (n : Int).toNat, none⟩ (.int .i64 z)) wo.heap.size (fun _ => True) (.slice (some ⟨gt, 0, none⟩) m cc) T := row_stepG ht6 (fun k e hlt => Below.heap_setCell _ _ _ k (by have := HGL.out.1; (obtain rfl : gt = k := by simpa [Value.ownBlock] using e); simp; omega))
                simp only [Int.toNat_natCast] at hI7 hT7
                have HI7 := Aside0.mk hI7
                have HT7 := Aside0.mk hT7
                have hgj : (T.take (j + 1)).foldl (gJob jobs t) (done, fin) = (d1.set n z, if z = (jobs.getD n z67).f3 then f1.set n ((t : Int) + 1) else f1) := by
                  rw [hfold]
                  unfold gJob
                  simp only [Int.toNat_natCast]
                  rw [← hy, ← hz]
                have HGJ := Lib.hid hgj
                have HL1 := Lib.hid hln
                clear h1 h2 h3 h4 h5 h5s h6 h7 h8 hI7 hT7 hgj hln hfold hti ht6 hrt hrd hy hz hx HI6 HT6
                go_upto_region 20 with (fail)
                clear hdc hdf htc htf hm1 hzw
                generalize World.setCell wr _ _ = w7 at HI7 HT7 ⊢
                obtain ⟨h1, h2, h3, h4, ⟨cs, h5, h5s⟩, h6, h7, h8⟩ := HI7.out
                obtain ⟨hdc, hdf⟩ := Kd.R_celln 0 h6 (n : Int) (by omega) (by omega)
                have hrd : rdOf 0 (d1.set n z) (n : Int) = z := by
                  show (d1.set n z).getD (n : Int).toNat 0 = z
                  rw [Int.toNat_natCast, List.getD_eq_getElem?_getD, List.getElem?_set_self (by have := HL1.out.1; omega)]
                  rfl
                rw [hrd] at hdc
                simp only [Int.toNat_natCast] at hdc hdf
                have hm1 : w7.cell? ⟨g, 1, none⟩ = some (.slice (some ⟨gd, 0, none⟩) jobs.length cd) := (blk_cell h1 1).trans rfl
                have hk0 : w7.cell? ⟨w.heap.size, 0, none⟩ = some (.slice A jobs.length c) := (blk_cell h4 0).trans rfl
                obtain ⟨adj, ej, hy0, hy1, hy2, hy3⟩ := at_T67 (Kd.C_below HJ.out h8) (n : Int) (by omega) (by omega)
                cases ej
                simp only [Int.toNat_natCast] at hy0 hy1 hy2 hy3
                have hrj : rd_T67 jobs (n : Int) = jobs.getD n z67 := rfl
                rw [hrj] at hy0 hy1 hy2 hy3
                obtain ⟨y, hy⟩ : ∃ y, y = (jobs.getD n z67).f3 := ⟨_, rfl⟩
                rw [← hy] at hy3
                have HY := Lib.hid hy
                clear hy0 hy1 hy2 hrj hrd hy
                by_cases heq : z = y
                · have heb : (z == y) = true := by rw [beq_iff_eq]; exact heq
                  have hgj : (T.take (j + 1)).foldl (gJob jobs t) (done, fin) = (d1.set n z, f1.set n ((t : Int) + 1)) := by rw [HGJ.out, ← HY.out, if_pos heq]
                  have HGF := Lib.hid hgj
                  have ho1 : w7.cell? ⟨go, 1, none⟩ = some (.slice (some ⟨gf, 0, none⟩) jobs.length cf) := (blk_cell h2 1).trans rfl
                  have hn2 : w7.cell? ⟨g, 2, none⟩ = some (.int .i64 (t : Int)) := (blk_cell h1 2).trans rfl
                  obtain ⟨hfc, hff⟩ := Kd.R_celln 0 h7 (n : Int) (by omega) (by omega)
                  simp only [Int.toNat_natCast] at hfc hff
                  have nf1 : gf ≠ g := fun e => Kd.R_ne h7 h1 (by decide) (by rw [← e]; rfl)
                  have nf2 : gf ≠ go := fun e => Kd.R_ne h7 h2 (by decide) (by rw [← e]; rfl)
                  have hw1 : IntKind.i64.wrap ((t : Int) + 1) = (t : Int) + 1 := by rw [i64_w]; unfold wrap64; omega
                  have q5 : (t : Int) < 120 := by omega
                  clear h1 h2 h3 h4 h5 h5s h6 h7 h8 heq hgj
                  go_wp2_with fail
                  go_quiet (fail)
                  go_wp2_with fail
                  go_region_held3 (fun w' => w'.cell? ⟨go, 1, none⟩ = some (.slice (some ⟨gf, 0, none⟩) jobs.length cf) ∧ w'.cell? ⟨g, 2, none⟩ = some (.int .i64 (t : Int))) (go_keep) (fail)
                  have hI8 := (HI7.out.keep (pw_below_drewN (Below.refl _ _) (nq + 1))).setFin HD.out (n : Int) ((t : Int) + 1)
                  have hT8 : Kd.R (Kd.int .i64) 3 ((w7.drewN (nq + 1)).setCell ⟨gf, (n : Int).toNat, none⟩ (.int .i64 ((t : Int) + 1))) wo.heap.size (fun _ => True) (.slice (some ⟨gt, 0, none⟩) m cc) T := row_stepG (Kd.R_drewN HT7.out (nq + 1)) (fun k e hlt => Below.heap_setCell _ _ _ k (by have := HGL.out.2; (obtain rfl : gt = k := by simpa [Value.ownBlock] using e); simp; omega))
                  simp only [Int.toNat_natCast] at hI8 hT8
                  have HI8 := Aside0.mk hI8
                  have HT8 := Aside0.mk hT8
                  clear hI8 hT8 hn2 ho1 hfc hff hdc hdf hm1 hy3 hk0
                  generalize World.setCell (World.drewN w7 _) _ _ = w8 at HI8 HT8 ⊢
                  go_wp2_with fail
                  go_roundw
                  case rel =>
                    exact ⟨j + 1, by go_num, ⟨by omega⟩, ⟨by rw [HGF.out]; exact HI8.out⟩, HT8⟩
                  case measure => simp [intOf]; omega
                · have heb : (z == y) = false := by rw [beq_eq_false_iff_ne]; exact heq
                  have hgj : (T.take (j + 1)).foldl (gJob jobs t) (done, fin) = (d1.set n z, f1) := by rw [HGJ.out, ← HY.out, if_neg heq]
                  have HGF := Lib.hid hgj
                  clear h1 h2 h3 h4 h5 h5s h6 h7 h8 heq hgj
                  go_wp2_with fail
                  go_quiet (fail)
                  have HI8 := Aside0.mk (HI7.out.keep (pw_below_drewN (Below.refl _ _) nq))
                  have HT8 := Aside0.mk (Kd.R_drewN HT7.out nq)
                  go_wp2_with fail
                  go_roundw
                  case rel => exact ⟨j + 1, by go_num, ⟨by omega⟩, ⟨by rw [HGF.out]; exact HI8.out⟩, HT8⟩
                  case measure => simp [intOf]; omega
              · have b3 : decide ((j : Int) < (m : Int)) = false := decide_eq_false (by omega)
                have hje : j = m := by omega
                subst hje
                have hfin : T.take j = T := List.take_of_length_le (by have := HTL.out; omega)
                have hI9 := HI6.out
                rw [hfin, ← HGT.out] at hI9
                have HI9 := Aside0.mk hI9
                obtain ⟨h1, h2, h3, h4, ⟨cs, h5, h5s⟩, h6, h7, h8⟩ := hI9
                have ho0 : wr.cell? ⟨go, 0, none⟩ = some (.slice (some ⟨gr, 0, none⟩) 120 120) := (blk_cell h2 0).trans rfl
                have hn2 : wr.cell? ⟨g, 2, none⟩ = some (.int .i64 (t : Int)) := (blk_cell h1 2).trans rfl
                have hrc : ∃ u, wr.cell? ⟨gr, t, none⟩ = some u := ⟨cs[t]'(by omega), by rw [blk_cell h5 t]; exact Array.getElem?_eq_getElem (by omega)⟩
                obtain ⟨u0, hrc⟩ := hrc
                have hrf := blk_frozen h5 t
                have q5 : (t : Int) < 120 := by omega
                have q6 : 0 ≤ (t : Int) := by omega
                have ng1 : gr ≠ g := Ne.symm (ne_of_type h1 h5 (by decide))
                have ng2 : gr ≠ go := Ne.symm (ne_of_type h2 h5 (by decide))
                clear h1 h2 h3 h4 h5 h5s h6 h7 h8 hfin HI6 HT6
                go_wp2_with fail
                go_region_held3 (fun w' => w'.cell? ⟨go, 0, none⟩ = some (.slice (some ⟨gr, 0, none⟩) 120 120) ∧ w'.cell? ⟨g, 2, none⟩ = some (.int .i64 (t : Int))) (go_keep) (fail)
                have hIA := (HI9.out.setRow HD.out t (.slice Ac j j)).keep (below_drew (Below.refl _ _))
                have HIA := Aside0.mk hIA
                clear hIA hrc hrf hn2 ho0
                generalize World.drew (World.setCell wr _ _) = w9 at HIA ⊢
                have hn2 : w9.cell? ⟨g, 2, none⟩ = some (.int .i64 (t : Int)) := (blk_cell HIA.out.1 2).trans rfl
                have hf2 := blk_frozen HIA.out.1 2
                go_wp2_with fail
                go_roundg k1
                case measure => omega
                case rel => exact ⟨t + 1, by omega, ⟨HIA.out.setNow HD.out _⟩⟩

end Go.Proofs.Ytonifhkplniblaa.Print

namespace Go.Proofs.Ytonifhkplniblaa.Print
open Go.RowKit Go.Proofs.YtonifhkplniblaaW.PrintWords Go.Proofs.YtonifhkplniblaaW.PrintLast Go.Proofs.YtonifhkplniblaaW.PrintMore
attribute [local go_sem] max2_int min2_int max_two min_two max_three min_three max_four min_four
set_option linter.unusedVariables false
set_option linter.unusedSimpArgs false
open Go.Proofs.Ytonifhkplniblaa.Walk
def dSet : List (S62) := [⟨1, 7, 11⟩, ⟨1, 7, 11⟩, ⟨8, 8, 12⟩]
def dJobs : List (S67) := [⟨0, 0, 7, 1⟩, ⟨1, 0, 7, 1⟩, ⟨2, 0, 8, 8⟩]
theorem d_jobs : impl_Synchronous.f 200 dSet 8 = some dJobs := by kernel_rfl
theorem d_part : impl_Partition.f 200 dSet 2 = some ([0, 0, 1], true) := by kernel_rfl
theorem d_legal : impl_JobsLegal.f dSet dJobs = some true := by kernel_rfl
theorem d_cores : impl_isCores.f 2 = some true := by kernel_rfl
theorem d_run : (gN dJobs (by decide) 2 120).2 = [1, 1, 9] := by kernel_rfl
theorem d_late : impl_missed.f dJobs [1, 1, 9] = some [2] := by kernel_rfl
theorem d_same : laws_sameInts.f 200 [2] [2] = some true := by kernel_rfl
theorem d_dens : impl_DensityFeasible.f 200 dSet 2 = some false := by kernel_rfl
set_option maxHeartbeats 2000000 in
set_option maxRecDepth 100000 in
/-- impl.GlobalMissed, whatever rows the run holds. -/
theorem gm_calls (A0 : Option Addr) (c0 : Nat) (l0 : List (S67)) (B : Option Addr) (n m : Nat) (A1 : Option Addr) (c1 : Nat) (l1 : List Int) (r : List Int) (w : World) (hr0 : Kd.C k67 w A0 l0.length l0) (hc0 : l0.length ≤ c0) (hr1 : Kd.C (Kd.int .i64) w A1 l1.length l1) (hc1 : l1.length ≤ c1) (h : impl_missed.f l0 l1 = some r) :
    Calls Try.prog 53 #[.slice A0 l0.length c0, .agg #[.slice B n m, .slice A1 l1.length c1]] w fun e w' => ∃ v0_ : Value, e = .returned (v0_) ∧ Kd.RR (Kd.int .i64) 3 w' w.heap.size (fun _ => True) v0_ r ∧ Below w.heap.size w w' := by
  have hu := Try.underlying80
  have H := Lib.hid (fun V (hV : Below w.heap.size w V) => impl_missed.calls A0 c0 l0 A1 c1 l1 r V (Kd.C_below hr0 hV) hc0 (Kd.C_below hr1 hV) hc1 h)
  clear hr0 hc0 hr1 hc1 h
  go_enter Try.func53, Try.ntmps53
  go_wp2_with (go_at_call 128; refine (H.out _ (by repeat (first | exact Below.refl _ _ | apply below_alloc | apply pw_below_drewN | apply below_drew))).mono ?_; rintro e w2 ⟨v, rfl, hr, hb⟩; have HR := Lib.hid hr; have HB := Lib.hid hb; clear hr hb)
  go_ret
  refine ⟨_, rfl, Kd.RR_lower HR.out (by simp), ?_⟩
  exact below_step (by repeat (first | exact Below.refl _ _ | apply below_alloc | apply pw_below_drewN | apply below_drew)) HB.out
set_option maxHeartbeats 4000000 in
set_option maxRecDepth 100000 in
theorem laws_FnDhall.calls (A0 : Option Addr) (c0 : Nat) (l0 : List Int) (w : World) (hr0 : Kd.C (Kd.int .u8) w A0 l0.length l0) (hc0 : l0.length ≤ c0) :
    Calls Try.prog 9 #[.slice A0 l0.length c0] w fun e w' => e = .returned (.bool true) ∧ Below w.heap.size w w' := by
  have hu62 := Try.underlying62
  have hu80 := Try.underlying80
  have hB := Below.refl w.heap.size w
  clear hr0 hc0
  by_cases c2 : (l0.length : Int) > 1048576
  · have c2b0 : decide (1048576 < (l0.length : Int)) = true := decide_eq_true c2
    have c2b1 : decide (1048576 < l0.length) = true := decide_eq_true (by omega)
    clear c2
    go_enter Try.func9, Try.ntmps9
    go_wp2
    go_ret
    exact ⟨rfl, hB⟩
  · have c2b0 : decide (1048576 < (l0.length : Int)) = false := decide_eq_false c2
    have c2b1 : decide (1048576 < l0.length) = false := decide_eq_false (by omega)
    clear c2 hB
    go_enter Try.func9, Try.ntmps9
    go_upto_region 4 with ((with_reducible refine gate_dst (N := 15) rfl ?_); refine Kd.R_lit k62 _ 62 ?hg (N := 15) ?hd (xs := ([(⟨1, 7, 11⟩ : S62), (⟨1, 7, 11⟩ : S62), (⟨8, 8, 12⟩ : S62)] : List (S62))) (inner := [.int .i64 1, .int .i64 7, .int .i64 11, .int .i64 1, .int .i64 7, .int .i64 11, .int .i64 8, .int .i64 8, .int .i64 12]) (ok := fun _ => True) (okp := fun _ => True) ?hr ?hp (fun _ hk => hk) trivial (Below.refl _ _) (Nat.le_refl _) (by simp) ?_; (case hd => rfl); (case hg => rfl); (case hr => first | (go_simp; done) | (go_simp; rfl)); (case hp => exact (Reps.c3 (show Kd.M k62 _ _ _ (⟨1, 7, 11⟩ : S62) [.int .i64 1, .int .i64 7, .int .i64 11] from (k62_mkM _ _ _ (⟨1, 7, 11⟩ : S62) )) (Reps.c3 (show Kd.M k62 _ _ _ (⟨1, 7, 11⟩ : S62) [.int .i64 1, .int .i64 7, .int .i64 11] from (k62_mkM _ _ _ (⟨1, 7, 11⟩ : S62) )) (Reps.c3 (show Kd.M k62 _ _ _ (⟨8, 8, 12⟩ : S62) [.int .i64 8, .int .i64 8, .int .i64 12] from (k62_mkM _ _ _ (⟨8, 8, 12⟩ : S62) )) (Reps.none _ _))))); intro v102 w9 ho10 hb hg_ hnew_; clear hg_ hnew_; have HO := Lib.hid ho10; have HB := Lib.hid hb; clear ho10 hb)
    obtain ⟨As, cs, es⟩ := Kd.R_slice HO.out
    have es' : v102 = .slice As 3 cs := es
    subst es'
    have hrd := Kd.R_reads' HO.out
    have hcs : 3 ≤ cs := hrd.2.1
    have hset : Kd.C k62 w9 As 3 dSet := hrd.2.2
    have HSYN := Lib.hid (fun V (hV : Below w9.heap.size w9 V) => impl_Synchronous.calls 200 As cs dSet 8 dJobs V (Kd.C_below hset hV) hcs d_jobs)
    have HPAR := Lib.hid (fun V (hV : Below w9.heap.size w9 V) => impl_Partition.calls 200 As cs dSet 2 [0, 0, 1] true V (Kd.C_below hset hV) hcs d_part)
    have HDEN := Lib.hid (fun V (hV : Below w9.heap.size w9 V) => impl_DensityFeasible.calls 200 As cs dSet 2 false V (Kd.C_below hset hV) hcs d_dens)
    have HGLO := Lib.hid (fun V (hV : Below w9.heap.size w9 V) (B : Option Addr) (c : Nat) (hj : Kd.C k67 V B 3 dJobs) (hc : 3 ≤ c) => impl_RunGlobal.calls As cs dSet B c dJobs 2 V (Kd.C_below hset hV) hcs hj hc d_legal d_cores (by decide) (by decide) (by decide) (by decide))
    clear hset hcs hrd es
    go_upto_region 5 with (go_at_call 37; refine (HSYN.out _ (Below.refl _ _)).mono ?_; rintro e w10 ⟨v, rfl, hs, hb⟩; have HS := Lib.hid hs; have HB10 := Lib.hid hb; clear hs hb)
    obtain ⟨Aj, cj, ej⟩ := Kd.RR_slice HS.out
    have ej' : v = .slice Aj 3 cj := ej
    subst ej'
    have hjr := Kd.RR_reads' HS.out
    have hcj : 3 ≤ cj := hjr.2.1
    have hjc : Kd.C k67 w10 Aj 3 dJobs := hjr.2.2
    have HJC := Lib.hid hjc
    have HCJ := Lib.hid hcj
    have HG0 := Lib.hid (HGLO.out w10 HB10.out Aj cj hjc hcj)
    clear ej hjr hcj hjc HSYN HGLO HO
    go_upto_region 6 with (go_at_call 51; refine HG0.out.mono ?_; rintro e w11 ⟨gr, v1, rfl, hv, hb⟩; have HV := Lib.hid hv; have HB11 := Lib.hid hb; clear hv hb; obtain ⟨Af, cf, ef⟩ := Kd.R_slice HV.out; rw [d_run] at ef; have ef' : v1 = .slice Af 3 cf := ef; subst ef'; clear ef)
    obtain ⟨w12, hw12⟩ : ∃ w12, w12 = w11.alloc (.cells #[.slice (some ⟨gr, 0, none⟩) 120 120, .slice Af 3 cf] 80) := ⟨_, rfl⟩
    have hv := HV.out
    rw [d_run] at hv
    have hfr := Kd.R_reads' hv
    have hcf : 3 ≤ cf := hfr.2.1
    have hfc : Kd.C (Kd.int .i64) w11 Af 3 [1, 1, 9] := hfr.2.2
    have hb12 : Below w11.heap.size w11 w12 := by rw [hw12]; exact below_alloc (Below.refl _ _) _
    have hbx : w12.heap[w11.heap.size]? = some (.cells #[.slice (some ⟨gr, 0, none⟩) 120 120, .slice Af 3 cf] 80 (0, 0)) := by rw [hw12]; exact blk_new _ _
    have hb10 := below_step HB11.out hb12
    have hb9 := below_step HB10.out hb10
    have HJ12 := Lib.hid (Kd.C_below HJC.out hb10)
    have HF12 := Lib.hid (Kd.C_below hfc hb12)
    have HB9 := Lib.hid hb9
    have HBX := Lib.hid hbx
    have HCF := Lib.hid hcf
    rw [← hw12]
    generalize w11.heap.size = go at HBX ⊢
    clear hfr hcf hfc hb12 hbx hb10 hb9 hw12 hv HG0 HV HB10 HB11 HJC HS
    go_upto_region 7 with (go_at_call 52; refine (HPAR.out _ HB9.out).mono ?_; rintro e w13 ⟨v, rfl, hs, hb⟩; have HB13 := Lib.hid hb; clear hs hb)
    have hq0 := (blk_cell (blk_below HBX.out HB13.out) 0).trans rfl
    have hq1 := (blk_cell (blk_below HBX.out HB13.out) 1).trans rfl
    have HGM := Lib.hid (gm_calls Aj cj dJobs (some ⟨gr, 0, none⟩) 120 120 Af cf [1, 1, 9] [2] w13 (Kd.C_below HJ12.out HB13.out) HCJ.out (Kd.C_below HF12.out HB13.out) HCF.out d_late)
    go_upto_region 8 with (go_at_call 53; refine HGM.out.mono ?_; rintro e w14 ⟨v2, rfl, hr, hb⟩; have HR14 := Lib.hid hr; have HB14 := Lib.hid hb; clear hr hb)
    obtain ⟨Ar, cr, er⟩ := Kd.RR_slice HR14.out
    have er' : v2 = .slice Ar 1 cr := er
    subst er'
    have hrr := Kd.RR_reads' HR14.out
    have hcr : 1 ≤ cr := hrr.2.1
    have hrc : Kd.C (Kd.int .i64) w14 Ar 1 [2] := hrr.2.2
    have HRC := Lib.hid hrc
    have HCR := Lib.hid hcr
    have HB90 := Lib.hid (below_step (below_step HB9.out HB13.out) HB14.out)
    clear er hrr hcr hrc hq0 hq1 HGM HBX HJ12 HF12 HPAR HR14 HB9 HB13 HB14
    have hk1 : Kd.C (Kd.int .i64) (w14.alloc (.cells #[.int .i64 2] 3)) (some ⟨w14.heap.size, 0, none⟩) 1 [2] := Kd.C_of_reads (d := (0 : Int)) (h1 := fun _ => rfl) ⟨rfl, by decide, fun _ => ⟨_, rfl, fun i hi => by
      obtain rfl : i = 0 := by omega
      exact (blk_cell (blk_new _ _) 0).trans rfl⟩⟩
    have HSM := Lib.hid (laws_sameInts.calls 200 Ar cr [2] (some ⟨w14.heap.size, 0, none⟩) 1 [2] true _ (Kd.C_alloc HRC.out _) HCR.out hk1 (by decide) d_same)
    have HB15 := Lib.hid (fun m => pw_below_drewN (below_alloc HB90.out (.cells #[.int .i64 2] 3)) m)
    clear hk1
    go_wp2_with (first | (go_at_call 40; refine HSM.out.mono ?_; rintro e w15 ⟨rfl, hd⟩; obtain ⟨mm, rfl⟩ := hd.out; clear hd) | (go_at_call 54; refine (HDEN.out _ (HB15.out _)).mono ?_; rintro e w16 ⟨rfl, hb⟩; have HB16 := Lib.hid hb; clear hb))
    go_ret
    exact ⟨rfl, below_step (below_step HB.out (HB15.out mm)) HB16.out⟩

end Go.Proofs.Ytonifhkplniblaa.Print
