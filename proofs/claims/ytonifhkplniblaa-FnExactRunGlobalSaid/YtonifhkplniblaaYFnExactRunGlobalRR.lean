/- A row of the call's own whose value may have another capacity than its block has room (it has been clipped). No condition. -/
import Derived.Test.YtonifhkplniblaaYFnExactRunGlobalWMore
import Derived.Test.YtonifhkplniblaaYFnExactRunGlobalWLast
import Derived.Test.YtonifhkplniblaaYFnExactRunGlobalWApart
import Derived.Test.YtonifhkplniblaaYFnExactRunGlobalWalk
namespace Go.Proofs.Ytonifhkplniblaa.Print
open Go.RowKit Go.Proofs.YtonifhkplniblaaW.PrintWords Go.Proofs.YtonifhkplniblaaW.PrintLast Go.Proofs.YtonifhkplniblaaW.PrintMore
set_option linter.unusedVariables false
set_option linter.unusedSimpArgs false
theorem ob_eq (A : Option Addr) (n c n' c' : Nat) : (Value.slice A n c).ownBlock = (Value.slice A n' c').ownBlock := by cases A <;> rfl
/-- As Kd.R; the value's capacity is its own. -/
def Kd.RR {α : Type} (d : Kd α) (e : Nat) (w : World) (base : Nat) (ok : Nat → Prop) (v : Value) (xs : List α) : Prop := ∃ A n c c', v = .slice A n c ∧ (c = n ∨ c = c') ∧ n ≤ c ∧ d.R e w base ok (.slice A n c') xs
section
variable {α : Type} {d : Kd α} {e e' : Nat} {w w1 W W2 : World} {base b' : Nat} {ok ok' ok1 S : Nat → Prop} {u v : Value} {xs : List α}
theorem Kd.RR_nil (d : Kd α) (e : Nat) (w : World) (base : Nat) (ok : Nat → Prop) : Kd.RR d e w base ok (.slice none 0 0) [] := ⟨none, 0, 0, 0, rfl, .inl rfl, Nat.le_refl _, Kd.R_nil _ _ _ _ _⟩
theorem Kd.RR_ne (h : Kd.RR d e w base ok v xs) {g t : Nat} {cells : Array Value} (hb : w.heap[g]? = some (.cells cells t (0, 0))) (ht : e ≠ t) : some g ≠ v.ownBlock := by
  obtain ⟨A, n, c, c', rfl, hcc, hc, h⟩ := h
  rw [ob_eq A n c n c']
  exact Kd.R_ne h hb ht
theorem Kd.RR_clip {A : Option Addr} {n c' : Nat} (h : d.R e w base ok (.slice A n c') xs) (_ : n ≤ n) : Kd.RR d e w base ok (.slice A n n) xs := ⟨A, n, n, c', rfl, .inl rfl, Nat.le_refl _, h⟩
theorem Kd.RR_lower {base' : Nat} (h : Kd.RR d e w base ok v xs) (hb : base' ≤ base) : Kd.RR d e w base' ok v xs := by obtain ⟨A, n, c, c', rfl, hcc, hc, h⟩ := h; exact ⟨A, n, c, c', rfl, hcc, hc, Kd.R_lower h hb⟩
theorem Kd.RR_slice (h : Kd.RR d e w base ok v xs) : ∃ A c, v = .slice A xs.length c := by
  obtain ⟨A, n, c, c', rfl, hcc, hc, h⟩ := h
  obtain ⟨rfl, _⟩ := Kd.R_reads' h
  exact ⟨A, c, rfl⟩
theorem Kd.RR_reads' {A : Option Addr} {n c : Nat} (h : Kd.RR d e w base ok (.slice A n c) xs) : n = xs.length ∧ n ≤ c ∧ d.C w A xs.length xs := by
  obtain ⟨A', n', c', c'', he, hcc, hc, h⟩ := h
  injection he with h1 h2 h3
  subst h1 h2 h3
  obtain ⟨h1, _, h3⟩ := Kd.R_reads' h
  exact ⟨h1, hc, h3⟩
theorem Kd.RR_base (h : Kd.RR d e w base ok v xs) : ∀ k, v.ownBlock = some k → base ≤ k := by
  obtain ⟨A, n, c, c', rfl, hcc, hc, h⟩ := h
  rw [ob_eq A n c n c']
  exact Kd.R_base h
theorem Kd.RR_lt (h : Kd.RR d e w base ok v xs) : ∀ k, v.ownBlock = some k → k < w.heap.size := by
  obtain ⟨A, n, c, c', rfl, hcc, hc, h⟩ := h
  rw [ob_eq A n c n c']
  exact Kd.R_lt h
end
section
variable {α : Type} {enc : α → Value} {h1 : ∀ x, (enc x).oneCell' = true} {e : Nat} {W : World} {base : Nat} {ok : Nat → Prop} {xs : List α}
end
section
variable {P : Program} {ops : Array Oper} {o : Oper} {a : Act} {Q : Exit → Act → World → Prop} {Kc : Act → World → Prop} {α : Type}
section
variable {rest : List Oper}
end
end
end Go.Proofs.Ytonifhkplniblaa.Print
