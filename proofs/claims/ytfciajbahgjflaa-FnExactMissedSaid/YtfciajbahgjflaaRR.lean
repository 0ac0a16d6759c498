/- A row of the call's own whose value may have another capacity than its block has room (it has been clipped). No condition. -/
import Derived.Test.YtfciajbahgjflaaWMore
import Derived.Test.YtfciajbahgjflaaWLast
import Derived.Test.YtfciajbahgjflaaWApart
import Derived.Test.YtfciajbahgjflaaWalk
namespace Go.Proofs.Ytfciajbahgjflaa.Print
open Go.RowKit Go.Proofs.YtfciajbahgjflaaW.PrintWords Go.Proofs.YtfciajbahgjflaaW.PrintLast Go.Proofs.YtfciajbahgjflaaW.PrintMore
set_option linter.unusedVariables false
set_option linter.unusedSimpArgs false
theorem ob_eq (A : Option Addr) (n c n' c' : Nat) : (Value.slice A n c).ownBlock = (Value.slice A n' c').ownBlock := by cases A <;> rfl
/-- As Kd.R; the value's capacity is its own. -/
def Kd.RR {α : Type} (d : Kd α) (e : Nat) (w : World) (base : Nat) (ok : Nat → Prop) (v : Value) (xs : List α) : Prop := ∃ A n c c', v = .slice A n c ∧ n ≤ c ∧ d.R e w base ok (.slice A n c') xs
section
variable {α : Type} {d : Kd α} {e e' : Nat} {w w1 W W2 : World} {base b' : Nat} {ok ok' ok1 S : Nat → Prop} {u v : Value} {xs : List α}
theorem Kd.RR_of_R (h : d.R e w base ok v xs) : Kd.RR d e w base ok v xs := by
  obtain ⟨A, c, rfl⟩ := Kd.R_slice h
  exact ⟨A, _, c, c, rfl, (Kd.R_reads' h).2.1, h⟩
theorem Kd.RR_nil (d : Kd α) (e : Nat) (w : World) (base : Nat) (ok : Nat → Prop) : Kd.RR d e w base ok (.slice none 0 0) [] := ⟨none, 0, 0, 0, rfl, Nat.le_refl _, Kd.R_nil _ _ _ _ _⟩
theorem Kd.RR_ok (h : Kd.RR d e w base ok v xs) : ∀ k, v.ownBlock = some k → ok k := by
  obtain ⟨A, n, c, c', rfl, hc, h⟩ := h
  rw [ob_eq A n c n c']
  exact h.1
theorem Kd.RR_ne (h : Kd.RR d e w base ok v xs) {g t : Nat} {cells : Array Value} (hb : w.heap[g]? = some (.cells cells t (0, 0))) (ht : e ≠ t) : some g ≠ v.ownBlock := by
  obtain ⟨A, n, c, c', rfl, hc, h⟩ := h
  rw [ob_eq A n c n c']
  exact Kd.R_ne h hb ht
theorem Kd.RR_far (h : Kd.RR d e w base ok v xs) {p : Addr} (hok : ∀ k, ok k → k ≠ p.block) (u : Value) : Kd.RR d e (w.setCell p u) base ok v xs := by obtain ⟨A, n, c, c', rfl, hc, h⟩ := h; exact ⟨A, n, c, c', rfl, hc, Kd.R_far h hok u⟩
theorem Kd.RR_old (h : Kd.RR d e W base ok u xs) (hb : Below W.heap.size W w1) : Kd.RR d e w1 base (fun k => ok k ∧ k < W.heap.size) u xs := by obtain ⟨A, n, c, c', rfl, hc, h⟩ := h; exact ⟨A, n, c, c', rfl, hc, Kd.R_old h hb⟩
theorem Kd.RR_told {N : Nat} (h : Kd.RR d e w1 base (fun k => ok k ∧ k < N) u xs) (hbase : ∀ k, v.ownBlock = some k → N ≤ k) : Kd.RR d e w1 base (fun k => (ok k ∧ some k ≠ v.ownBlock) ∧ k < N) u xs := by obtain ⟨A, n, c, c', rfl, hc, h⟩ := h; exact ⟨A, n, c, c', rfl, hc, Kd.R_told h hbase⟩
theorem Kd.RR_types (h : Kd.RR d e w base ok v xs) {g t : Nat} {cells : Array Value} (hb : w.heap[g]? = some (.cells cells t (0, 0))) (ht : ∀ q, q ∈ e :: d.E → q ≠ t) : Kd.RR d e w base (fun k => ok k ∧ k ≠ g) v xs := by obtain ⟨A, n, c, c', rfl, hc, h⟩ := h; exact ⟨A, n, c, c', rfl, hc, Kd.R_types h hb ht⟩
theorem Kd.RR_clip {A : Option Addr} {n c c' : Nat} (h : d.R e w base ok (.slice A n c') xs) (hc : n ≤ c) : Kd.RR d e w base ok (.slice A n c) xs := ⟨A, n, c, c', rfl, hc, h⟩
theorem Kd.RR_alloc (h : Kd.RR d e w base ok v xs) (o : Obj) : Kd.RR d e (w.alloc o) base ok v xs := by obtain ⟨A, n, c, c', rfl, hc, h⟩ := h; exact ⟨A, n, c, c', rfl, hc, Kd.R_alloc h o⟩
theorem Kd.RR_drew (h : Kd.RR d e w base ok v xs) : Kd.RR d e w.drew base ok v xs := by obtain ⟨A, n, c, c', rfl, hc, h⟩ := h; exact ⟨A, n, c, c', rfl, hc, Kd.R_drew h⟩
theorem Kd.RR_drewN (h : Kd.RR d e w base ok v xs) (m : Nat) : Kd.RR d e (w.drewN m) base ok v xs := by obtain ⟨A, n, c, c', rfl, hc, h⟩ := h; exact ⟨A, n, c, c', rfl, hc, Kd.R_drewN h m⟩
theorem Kd.RR_below (h : Kd.RR d e w base ok v xs) (hb : Below w.heap.size w w1) : Kd.RR d e w1 base ok v xs := by obtain ⟨A, n, c, c', rfl, hc, h⟩ := h; exact ⟨A, n, c, c', rfl, hc, Kd.R_below h hb⟩
theorem Kd.RR_lower {base' : Nat} (h : Kd.RR d e w base ok v xs) (hb : base' ≤ base) : Kd.RR d e w base' ok v xs := by obtain ⟨A, n, c, c', rfl, hc, h⟩ := h; exact ⟨A, n, c, c', rfl, hc, Kd.R_lower h hb⟩
theorem Kd.RR_mono (h : Kd.RR d e w base ok v xs) (hok : ∀ k, ok k → ok' k) : Kd.RR d e w base ok' v xs := by obtain ⟨A, n, c, c', rfl, hc, h⟩ := h; exact ⟨A, n, c, c', rfl, hc, Kd.R_mono h hok⟩
theorem Kd.RR_keptB (h : Kd.RR d e W base ok v xs) (hk : Kept W W2 S) (hne : ∀ k, ok k → ¬ S k) : Kd.RR d e W2 base (fun k => ok k ∧ (¬ S k ∧ k < W.heap.size)) v xs := by obtain ⟨A, n, c, c', rfl, hc, h⟩ := h; exact ⟨A, n, c, c', rfl, hc, Kd.R_keptB h hk hne⟩
theorem Kd.RR_slice (h : Kd.RR d e w base ok v xs) : ∃ A c, v = .slice A xs.length c := by
  obtain ⟨A, n, c, c', rfl, hc, h⟩ := h
  obtain ⟨rfl, _⟩ := Kd.R_reads' h
  exact ⟨A, c, rfl⟩
theorem Kd.RR_reads' {A : Option Addr} {n c : Nat} (h : Kd.RR d e w base ok (.slice A n c) xs) : n = xs.length ∧ n ≤ c ∧ d.C w A xs.length xs := by
  obtain ⟨A', n', c', c'', he, hc, h⟩ := h
  injection he with h1 h2 h3
  subst h1 h2 h3
  obtain ⟨h1, _, h3⟩ := Kd.R_reads' h
  exact ⟨h1, hc, h3⟩
theorem Kd.RR_base (h : Kd.RR d e w base ok v xs) : ∀ k, v.ownBlock = some k → base ≤ k := by
  obtain ⟨A, n, c, c', rfl, hc, h⟩ := h
  rw [ob_eq A n c n c']
  exact Kd.R_base h
theorem Kd.RR_lt (h : Kd.RR d e w base ok v xs) : ∀ k, v.ownBlock = some k → k < w.heap.size := by
  obtain ⟨A, n, c, c', rfl, hc, h⟩ := h
  rw [ob_eq A n c n c']
  exact Kd.R_lt h
theorem Kd.RR_typed (h : Kd.RR d e w base ok v xs) : ∀ k, v.ownBlock = some k → ∃ cells, w.heap[k]? = some (.cells cells e (0, 0)) := by
  obtain ⟨A, n, c, c', rfl, hc, h⟩ := h
  rw [ob_eq A n c n c']
  exact Kd.R_typed h
theorem Kd.RR_apart' (h : Kd.RR d e W base ok u xs) (hty : ∀ k, v.ownBlock = some k → ∃ cells, W.heap[k]? = some (.cells cells e' (0, 0))) (ht : ∀ q, q ∈ e :: d.E → q ≠ e') : Kd.RR d e W base (fun k => ok k ∧ some k ≠ v.ownBlock) u xs := by
  obtain ⟨A, n, c, c', rfl, hc, h⟩ := h
  exact ⟨A, n, c, c', rfl, hc, Kd.R_apart' h hty ht⟩
theorem Kd.RR_elder' (hu : Kd.RR d e W base ok u xs) (hbase : ∀ k, v.ownBlock = some k → W.heap.size ≤ k) (hb : Below W.heap.size W w1) : Kd.RR d e w1 base (fun k => ok k ∧ some k ≠ v.ownBlock) u xs := by
  obtain ⟨A, n, c, c', rfl, hc, h⟩ := hu
  exact ⟨A, n, c, c', rfl, hc, Kd.R_elder' h hbase hb⟩
theorem Kd.RR_new' (h : Kd.RR d e w1 W.heap.size ok v xs) (hlt : ∀ k, u.ownBlock = some k → k < W.heap.size) : Kd.RR d e w1 W.heap.size (fun k => ok k ∧ some k ≠ u.ownBlock) v xs := by
  obtain ⟨A, n, c, c', rfl, hc, h⟩ := h
  exact ⟨A, n, c, c', rfl, hc, Kd.R_new' h hlt⟩
theorem Kd.RR_reok (hE : d.E = []) (h : Kd.RR d e W base ok1 v xs) (hok : ∀ k, v.ownBlock = some k → ok k) : Kd.RR d e W base ok v xs := by
  obtain ⟨A, n, c, c', rfl, hc, h⟩ := h
  exact ⟨A, n, c, c', rfl, hc, Kd.R_reok hE h (fun k hk => hok k (by rw [ob_eq A n c n c']; exact hk))⟩
theorem Kd.RR_tight (hE : d.E = []) (h : Kd.RR d e w base ok v xs) : Kd.RR d e w base (fun k => some k = v.ownBlock) v xs := by
  obtain ⟨A, n, c, c', rfl, hc, h⟩ := h
  rw [ob_eq A n c n c']
  exact ⟨A, n, c, c', rfl, hc, Kd.R_tight hE h⟩
theorem Kd.RR_form (h : Kd.RR d e w base ok v xs) (hp : 0 < xs.length) : ∃ g cap, v = .slice (some ⟨g, 0, none⟩) xs.length cap ∧ base ≤ g ∧ g < w.heap.size ∧ ∃ cells, w.heap[g]? = some (.cells cells e (0, 0)) := by
  obtain ⟨A, n, c, c', rfl, hc, h⟩ := h
  obtain ⟨g, cap, he, h2⟩ := Kd.R_form h hp
  injection he with h1 h3 h4
  subst h1 h3
  exact ⟨g, c, rfl, h2⟩
theorem Kd.RR_elem {g n cap : Nat} (h : Kd.RR d e W base ok (.slice (some ⟨g, 0, none⟩) n cap) xs) (z : α) (i : Int) (h0 : 0 ≤ i) (h1 : i < n) :
    ∃ c, c.length = d.sz ∧ d.M W base (fun k => ok k ∧ k ≠ g) (xs.getD i.toNat z) c ∧ (∀ j u, c[j]? = some u → W.cell? ⟨g, i.toNat * d.sz + j, none⟩ = some u) ∧ ∀ j, W.frozen? ⟨g, i.toNat * d.sz + j, none⟩ = false := by
  obtain ⟨A, n', c, c', he, hc, h⟩ := h
  injection he with h2 h3 h4
  subst h2 h3 h4
  exact Kd.R_elem h z i h0 h1
theorem Kd.RR_seg {g n cap : Nat} {okp : Nat → Prop} (h : Kd.RR d e W base ok (.slice (some ⟨g, 0, none⟩) n cap) xs) (i : Int) (h0 : 0 ≤ i) (h1 : i < n) {c seg : List Value} {j : Nat} (hcl : c.length = d.sz) (hcc : ∀ j u, c[j]? = some u → W.cell? ⟨g, i.toNat * d.sz + j, none⟩ = some u)
    (hj : j + seg.length ≤ d.sz) {x' : α} (hM : d.M W base okp x' (c.take j ++ seg ++ c.drop (j + seg.length))) (hokp : ∀ k, okp k → ok k ∧ k ≠ g) :
    Kd.RR d e (W.setCells g (i.toNat * d.sz + j) seg) base ok (.slice (some ⟨g, 0, none⟩) n cap) (xs.set i.toNat x') ∧ W.grownBy (W.setCells g (i.toNat * d.sz + j) seg) (some g) := by
  obtain ⟨A, n', c1, c', he, hc, h⟩ := h
  injection he with h2 h3 h4
  subst h2 h3 h4
  obtain ⟨r1, r2⟩ := Kd.R_seg h i h0 h1 hcl hcc hj hM hokp
  exact ⟨⟨_, _, _, _, rfl, hc, r1⟩, r2⟩
end
section
variable {α : Type} {enc : α → Value} {h1 : ∀ x, (enc x).oneCell' = true} {e : Nat} {W : World} {base : Nat} {ok : Nat → Prop} {xs : List α}
theorem Kd.RR_celln {g n cap : Nat} (d : α) (h : Kd.RR (Kd.scalar enc h1) e W base ok (.slice (some ⟨g, 0, none⟩) n cap) xs) (i : Int) (h0 : 0 ≤ i) (hi : i < n) : W.cell? ⟨g, i.toNat, none⟩ = some (enc (rdOf d xs i)) ∧ W.frozen? ⟨g, i.toNat, none⟩ = false := by
  obtain ⟨A, n', c1, c', he, hc, h⟩ := h
  injection he with h2 h3 h4
  subst h2 h3 h4
  exact Kd.R_celln d h i h0 hi
theorem Kd.RR_putg {g n cap : Nat} (h : Kd.RR (Kd.scalar enc h1) e W base ok (.slice (some ⟨g, 0, none⟩) n cap) xs) (i : Int) (x : α) : Kd.RR (Kd.scalar enc h1) e (W.setCell ⟨g, i.toNat, none⟩ (enc x)) base ok (.slice (some ⟨g, 0, none⟩) n cap) (xs.set i.toNat x) ∧ W.grownBy (W.setCell ⟨g, i.toNat, none⟩ (enc x)) (some g) := by
  obtain ⟨A, n', c1, c', he, hc, h⟩ := h
  injection he with h2 h3 h4
  subst h2 h3 h4
  obtain ⟨r1, r2⟩ := Kd.R_putg h i x
  exact ⟨⟨_, _, _, _, rfl, hc, r1⟩, r2⟩
end
end Go.Proofs.Ytfciajbahgjflaa.Print
