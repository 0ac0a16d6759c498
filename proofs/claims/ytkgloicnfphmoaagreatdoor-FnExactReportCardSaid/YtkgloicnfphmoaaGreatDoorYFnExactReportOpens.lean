/- What reads as plain data of a type reads as a value of the print's kind: integers, strings, structs and slices of these. No condition. -/
import Derived.Test.YtkgloicnfphmoaaGreatDoorYFnExactReportWWords
import Derived.Deep.Slices
import Derived.ChangeArms
import Derived.WalkKit
import Derived.ProofKit
namespace Go.Proofs.YtkgloicnfphmoaaGreatDoor.Opens
open Go.ChangeShapes Go.WideShapes Go.RowKit Go.Deep Go.Proofs.YtkgloicnfphmoaaGreatDoorW.PrintWords

/-- An int of Go. -/
def wfI (n : Int) : Prop := -9223372036854775808 ≤ n ∧ n ≤ 9223372036854775807
def wfS (s : ByteArray) : Prop := s.size ≤ 9223372036854775807
def wfL {α : Type} (W : α → Prop) (l : List α) : Prop := l.length ≤ 9223372036854775807 ∧ ∀ x ∈ l, W x

def Opens {α : Type} (P : Program) (w : World) (t : TypeId) (d : Kd α) (W : α → Prop) : Prop :=
  ∀ (H : Type) (enc : TypeId × Value → H) (fuel : Nat) (cs : List Value) (x : DataW H × List MemPlace),
    DataW.trod enc P w 0 (fun _ => true) true fuel t cs = some x → ∃ a : α, d.K w a cs ∧ W a

section
variable {P : Program} {w : World} {t e : TypeId} {α β γ : Type}

theorem Opens.int (ht : P.underlying t = some (.int .i64)) : Opens P w t (Kd.int .i64) wfI := by
  intro H enc fuel cs x h
  obtain ⟨n, rfl, _, hw⟩ := DataW.trod_int ht h
  exact ⟨n, rfl, by simp [Lit.wf, IntKind.min, IntKind.max, IntKind.signed, IntKind.bits] at hw; unfold wfI; omega⟩

theorem Opens.string (ht : P.underlying t = some .string) : Opens P w t Kd.string wfS := by
  intro H enc fuel cs x h
  obtain ⟨s, rfl, _, hw⟩ := DataW.trod_string ht h
  exact ⟨s, rfl, by unfold maxLen at hw; exact hw⟩

theorem Opens.iso {d : Kd α} {W : α → Prop} {W' : β → Prop} (f : β → α) (g : α → β) (hg : ∀ a, f (g a) = a) (hW : ∀ a, W a → W' (g a)) (h : Opens P w t d W) : Opens P w t (Kd.iso d f) W' := by
  intro H enc fuel cs x hx
  obtain ⟨a, hk, hw⟩ := h H enc fuel cs x hx
  exact ⟨g a, by show d.K w (f (g a)) cs; rw [hg]; exact hk, hW a hw⟩

/-- Some fields in line, the first of them at off. -/
def OpensFs {α : Type} (P : Program) (w : World) (fs : List Field) (off tot : Nat) (d : Kd α) (W : α → Prop) : Prop :=
  ∀ (H : Type) (enc : TypeId × Value → H) (n : Nat) (cs : List Value) (xs : List (DataW H × List MemPlace)), cs.length = tot → xs.length = fs.length →
    (∀ (i : Nat) (f : Field), fs[i]? = some f → DataW.trod enc P w 0 (fun _ => true) true n f.type ((cs.drop f.offset).take (P.cellsOf f.type)) = xs[i]?) → ∃ a : α, d.K w a (cs.drop off) ∧ W a

theorem OpensFs.cons {f : Field} {fs : List Field} {off off' tot : Nat} {d : Kd α} {d' : Kd β} {W : α → Prop} {W' : β → Prop} (ho : f.offset = off) (hs : off + P.cellsOf f.type = off') (h : Opens P w f.type d W) (h' : OpensFs P w fs off' tot d' W') :
    OpensFs P w (f :: fs) off tot (Kd.pair d d') (fun a => W a.1 ∧ W' a.2) := by
  intro H enc n cs xs hc hl hx
  match xs, hl with
  | y :: ys, hl =>
    have h1 := hx 0 f rfl
    rw [ho] at h1
    obtain ⟨a, ha, wa⟩ := h H enc n _ y h1
    obtain ⟨b, hb, wb⟩ := h' H enc n cs ys hc (by simpa using hl) (fun i g hg => hx (i + 1) g hg)
    refine ⟨(a, b), ⟨_, _, ?_, ha, hb⟩, wa, wb⟩
    rw [← hs, ← List.drop_drop, List.take_append_drop]

theorem Opens.struct {fs : Array Field} {tot : Nat} {d : Kd α} {W : α → Prop} (ht : P.underlying t = some (.struct fs)) (hc : P.cellsOf t = tot) (h : OpensFs P w fs.toList 0 tot d W) : Opens P w t d W := by
  intro H enc fuel cs x hx
  obtain ⟨xs, n, _, _, hl, hlen, hf⟩ := DataW.trod_struct ht hx
  have := h H enc n cs xs (hl.trans hc) (by simpa using hlen) (fun i f hi => hf i f (by simpa using hi))
  simpa using this

theorem cells_get {w : World} {a : Addr} {n : Nat} {cs : List Value} (h : w.cells? 0 a n = some cs) : cs.length = n ∧ ∀ i u, cs[i]? = some u → w.cell? (a.add i) = some u := by
  obtain ⟨_, h1, h2⟩ := World.cells?_some h
  refine ⟨h1, fun i u hi => ?_⟩
  have hlt : i < cs.length := (List.getElem?_eq_some_iff.1 hi).1
  rw [h2 i (by omega)]
  exact hi

theorem list_of {α : Type} {len : Nat} {Q : Nat → α → Prop} (key : ∀ i, i < len → ∃ p, Q i p) : ∃ ps : List α, ps.length = len ∧ ∀ i p, ps[i]? = some p → Q i p := by
  induction len with
  | zero => exact ⟨[], rfl, fun i p hp => by simp at hp⟩
  | succ k ih =>
    obtain ⟨ps, h1, h2⟩ := ih (fun i hi => key i (by omega))
    obtain ⟨p, hp⟩ := key k (by omega)
    refine ⟨ps ++ [p], by simp [h1], fun i q hq => ?_⟩
    rcases Nat.lt_or_ge i ps.length with hlt | hge
    · rw [List.getElem?_append_left hlt] at hq
      exact h2 i q hq
    · rw [List.getElem?_append_right hge] at hq
      have hi : i = k := by
        rcases Nat.lt_or_ge (i - ps.length) 1 with h0 | h0
        · omega
        · rw [List.getElem?_eq_none (by simpa using h0)] at hq; cases hq
      subst hi
      rw [h1, Nat.sub_self] at hq
      simp at hq
      rw [← hq]
      exact hp

theorem Opens.slice {d : Kd α} {W : α → Prop} (e' : Nat) (ht : P.underlying t = some (.slice e)) (hc : P.cellsOf e = d.sz) (h : Opens P w e d W) : Opens P w t (Kd.slice e' d) (wfL W) := by
  intro H enc fuel cs x hx
  rcases open_slice ht hx with ⟨rfl, _⟩ | ⟨a, len, cap, m, n, D, Pl, rfl, _, hl, hm, hmm, _, he⟩
  · exact ⟨[], ⟨none, 0, rfl, Nat.le_refl _, ⟨rfl, by simp, fun h0 => absurd h0 (by simp)⟩⟩, by unfold wfL; simp⟩
  · simp at hmm
    subst hmm
    have key : ∀ i, i < len → ∃ p : α × List Value, p.2.length = d.sz ∧ d.K w p.1 p.2 ∧ W p.1 ∧ ∀ j u, p.2[j]? = some u → w.cell? (a.add (i * d.sz + j)) = some u := by
      intro i hi
      obtain ⟨cs', h1, h2⟩ := he i (by omega)
      obtain ⟨b, hb, wb⟩ := h H enc n cs' _ h2
      obtain ⟨h3, h4⟩ := cells_get h1
      rw [hc] at h3 h4
      refine ⟨(b, cs'), h3, hb, wb, fun j u hj => ?_⟩
      have := h4 j u hj
      rwa [Deep.add_add] at this
    obtain ⟨ps, hlen, hps⟩ := list_of key
    have hmx : len ≤ 9223372036854775807 := by unfold maxLen at hm; omega
    refine ⟨ps.map (·.1), ⟨some a, m, ?_, ?_, ⟨rfl, ?_, fun _ => ⟨a, rfl, fun j p hj => ?_⟩⟩⟩, ?_⟩
    · simp [hlen]
    · simpa [hlen] using hl
    · simpa [hlen] using hmx
    · rw [List.getElem?_map, Option.map_eq_some_iff] at hj
      obtain ⟨q, hq, rfl⟩ := hj
      obtain ⟨h1, h2, _, h4⟩ := hps j q hq
      exact ⟨q.2, h1, h2, h4⟩
    · refine ⟨by simpa [hlen] using hmx, fun b hb => ?_⟩
      obtain ⟨q, hq, rfl⟩ := List.mem_map.1 hb
      obtain ⟨i, hi⟩ := List.mem_iff_getElem?.1 hq
      exact (hps i q hi).2.2.1
end
end Go.Proofs.YtkgloicnfphmoaaGreatDoor.Opens
