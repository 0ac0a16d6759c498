/- Steps of a walk that the print's words lack: a call of a function value. No condition. -/
import Derived.Test.YtkgloicnfphmoaaGreatDoorYFnExactReportWMore
import Derived.Test.YtkgloicnfphmoaaGreatDoorYFnExactReportWLast
namespace Go.Proofs.YtkgloicnfphmoaaGreatDoor.Walk
open Go.RowKit Go.Proofs.YtkgloicnfphmoaaGreatDoorW.PrintWords Go.Proofs.YtkgloicnfphmoaaGreatDoorW.PrintLast
section
variable {P : Program} {ops : Array Oper} {Q : Exit → Act → World → Prop}
/-- A call of a function value that is known, in a plain region. -/
theorem goesF_ {rest : List Oper} {oi : Oper} {a : Act} {w : World} (N : Option Tmp) (hd : oi.dst = N) (hg : oi.guard = none) {c : Operand} {as : Array Operand} {ts : Array TypeId} (hop : oi.op = .call { callee := .value c, args := as, argTypes := ts })
    {f : FuncId} {first cap : Array Value} (hc : a.eval c = .func (.func f) first cap) {fn : Func} (hf : P.funcs[f]? = some fn) (hname : (fn.name == "runtime.NumGoroutine") = false) (hb : fn.body.isSome = true) (args : Array Value)
    (hargs : first ++ as.map a.eval ++ cap = args)
    (h : Calls P f args w fun e w' => ∃ v, e = .returned v ∧ wpList P ops Q rest (a.put N v) w') : wpList P ops Q (oi :: rest) a w := by
  refine wpList_plain hg fun K hK => ?_
  have he := enters_ hf hname hb args w
  have hrun : (execOp a.eval oi).run P w = .ok (.enter f args) w := by
    unfold execOp
    simp [hop, resolve, Deferred.ofValue, invoke, hc, hargs, he]
  unfold Oper.wp
  rw [hrun, Oper.upon_enter]
  refine h.mono fun e w'' hh => ?_
  obtain ⟨v, rfl, hk⟩ := hh
  subst hd
  exact hK _ _ hk
/-- The same, as a guard alone: the operation is a call of a function value held in slot n. -/
theorem gate_value {rest : List Oper} {o : Oper} {a : Act} {W : World} {n : Tmp} {as : Array Operand} {ts : Array TypeId} (_ho : o.op = .call { callee := .value (.tmp n), args := as, argTypes := ts }) (h : wpList P ops Q (o :: rest) a W) : wpList P ops Q (o :: rest) a W := h
end
def idxOf {α : Type} (p : α → Bool) (l : List α) : Int := match l.findIdx? p with | some i => i | none => -1
theorem idxOf_at {α : Type} {p : α → Bool} {l : List α} {j : Nat} (z : α) (hj : j < l.length) (hb : ∀ i, i < j → p (l.getD i z) = false) (hp : p (l.getD j z) = true) : idxOf p l = j := by
  have : l.findIdx? p = some j := by
    rw [List.findIdx?_eq_some_iff_getElem]
    refine ⟨hj, by simpa [List.getD_eq_getElem?_getD, hj] using hp, fun i hi => ?_⟩
    have := hb i hi
    simpa [List.getD_eq_getElem?_getD, show i < l.length by omega] using this
  simp [idxOf, this]
theorem idxOf_none {α : Type} {p : α → Bool} {l : List α} (z : α) (hb : ∀ i, i < l.length → p (l.getD i z) = false) : idxOf p l = -1 := by
  have : l.findIdx? p = none := by
    rw [List.findIdx?_eq_none_iff]
    intro x hx
    obtain ⟨i, hi, rfl⟩ := List.getElem_of_mem hx
    have := hb i hi
    simpa [List.getD_eq_getElem?_getD, hi] using this
  simp [idxOf, this]
theorem idxOf_neg {α : Type} (p : α → Bool) (l : List α) : decide (idxOf p l ≥ 0) = l.any p := by
  unfold idxOf
  split
  · rename_i i h
    rw [List.findIdx?_eq_some_iff_getElem] at h
    obtain ⟨hi, hp, _⟩ := h
    have : l.any p = true := by rw [List.any_eq_true]; exact ⟨l[i], List.getElem_mem hi, hp⟩
    rw [this]; simp
  · rename_i h
    rw [List.findIdx?_eq_none_iff] at h
    have : l.any p = false := by rw [List.any_eq_false]; exact fun x hx => by simp [h x hx]
    rw [this]; simp

theorem r_capmax {α : Type} {d : Kd α} {e : Nat} {w : World} {base : Nat} {ok : Nat → Prop} {A : Option Addr} {n c : Nat} {xs : List α} (h : d.R e w base ok (.slice A n c) xs) : c ≤ 9223372036854775807 := by
  obtain ⟨_, inner, ho, _⟩ := h
  rcases ho.2 with ⟨h1, _⟩ | ⟨g, cap, cur, h1, _, _, _, h2, _⟩
  · injection h1 with _ _ h3; omega
  · injection h1 with _ _ h3; subst h3; unfold maxLen at h2; omega
/-- A row of the call's own of flat elements, told as one that is only read; its value may be clipped. -/
theorem v_of_r {α : Type} {d : Kd α} (hflat : ∀ (W W' : World) (x : α) (c : List Value), d.K W x c → d.K W' x c) {e : Nat} {w : World} {base : Nat} {ok : Nat → Prop} {A : Option Addr} {n c c' : Nat} {xs : List α}
    (h : d.R e w base ok (.slice A n c) xs) (hn : n = xs.length) (hc : xs.length ≤ c') : Kd.V d e w base (fun k_ => (base ≤ k_)) (.slice A n c') xs := by
  subst hn
  refine ⟨A, c', rfl, hc, fun W' hW => ?_⟩
  obtain ⟨_, _, hC⟩ := Kd.R_reads' h
  refine ⟨rfl, hC.2.1, fun hp => ?_⟩
  obtain ⟨ad, rfl, hcell⟩ := hC.2.2 hp
  obtain ⟨g, cap, e1, hge, hlt, _⟩ := Kd.R_form h hp
  injection e1 with e1 _ _
  injection e1 with e1
  subst e1
  refine ⟨_, rfl, fun j p hj => ?_⟩
  obtain ⟨q, h1, h2, h3⟩ := hcell j p hj
  refine ⟨q, h1, hflat _ _ _ _ h2, fun i u hi => ?_⟩
  have := h3 i u hi
  have hb : ((⟨g, 0, none⟩ : Addr).add (j * d.sz + i)).block = g := by unfold Addr.add; split <;> rfl
  unfold World.cell? at this ⊢
  rw [hb] at this ⊢
  rw [hW g hge hlt]
  exact this
end Go.Proofs.YtkgloicnfphmoaaGreatDoor.Walk
