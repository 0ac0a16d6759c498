/- A row of the call's own whose value may have another capacity than its block has room (it has been clipped). No condition. -/
import Derived.Test.YtonifhkplniblaaWMore
import Derived.Test.YtonifhkplniblaaWLast
import Derived.Test.YtonifhkplniblaaWApart
import Derived.Test.YtonifhkplniblaaWalk
namespace Go.Proofs.Ytonifhkplniblaa.Print
open Go.RowKit Go.Proofs.YtonifhkplniblaaW.PrintWords Go.Proofs.YtonifhkplniblaaW.PrintLast Go.Proofs.YtonifhkplniblaaW.PrintMore
set_option linter.unusedVariables false
set_option linter.unusedSimpArgs false
theorem ob_eq (A : Option Addr) (n c n' c' : Nat) : (Value.slice A n c).ownBlock = (Value.slice A n' c').ownBlock := by cases A <;> rfl
/-- As Kd.R; the value's capacity is its own. -/
def Kd.RR {α : Type} (d : Kd α) (e : Nat) (w : World) (base : Nat) (ok : Nat → Prop) (v : Value) (xs : List α) : Prop := ∃ A n c c', v = .slice A n c ∧ (c = n ∨ c = c') ∧ n ≤ c ∧ d.R e w base ok (.slice A n c') xs
section
variable {α : Type} {d : Kd α} {e e' : Nat} {w w1 W W2 : World} {base b' : Nat} {ok ok' ok1 S : Nat → Prop} {u v : Value} {xs : List α}
theorem Kd.RR_of_R (h : d.R e w base ok v xs) : Kd.RR d e w base ok v xs := by
  obtain ⟨A, c, rfl⟩ := Kd.R_slice h
  exact ⟨A, _, c, c, rfl, .inr rfl, (Kd.R_reads' h).2.1, h⟩
theorem Kd.RR_nil (d : Kd α) (e : Nat) (w : World) (base : Nat) (ok : Nat → Prop) : Kd.RR d e w base ok (.slice none 0 0) [] := ⟨none, 0, 0, 0, rfl, .inl rfl, Nat.le_refl _, Kd.R_nil _ _ _ _ _⟩
theorem Kd.RR_ok (h : Kd.RR d e w base ok v xs) : ∀ k, v.ownBlock = some k → ok k := by
  obtain ⟨A, n, c, c', rfl, hcc, hc, h⟩ := h
  rw [ob_eq A n c n c']
  exact h.1
theorem Kd.RR_ne (h : Kd.RR d e w base ok v xs) {g t : Nat} {cells : Array Value} (hb : w.heap[g]? = some (.cells cells t (0, 0))) (ht : e ≠ t) : some g ≠ v.ownBlock := by
  obtain ⟨A, n, c, c', rfl, hcc, hc, h⟩ := h
  rw [ob_eq A n c n c']
  exact Kd.R_ne h hb ht
theorem Kd.RR_far (h : Kd.RR d e w base ok v xs) {p : Addr} (hok : ∀ k, ok k → k ≠ p.block) (u : Value) : Kd.RR d e (w.setCell p u) base ok v xs := by obtain ⟨A, n, c, c', rfl, hcc, hc, h⟩ := h; exact ⟨A, n, c, c', rfl, hcc, hc, Kd.R_far h hok u⟩
theorem Kd.RR_old (h : Kd.RR d e W base ok u xs) (hb : Below W.heap.size W w1) : Kd.RR d e w1 base (fun k => ok k ∧ k < W.heap.size) u xs := by obtain ⟨A, n, c, c', rfl, hcc, hc, h⟩ := h; exact ⟨A, n, c, c', rfl, hcc, hc, Kd.R_old h hb⟩
theorem Kd.RR_told {N : Nat} (h : Kd.RR d e w1 base (fun k => ok k ∧ k < N) u xs) (hbase : ∀ k, v.ownBlock = some k → N ≤ k) : Kd.RR d e w1 base (fun k => (ok k ∧ some k ≠ v.ownBlock) ∧ k < N) u xs := by obtain ⟨A, n, c, c', rfl, hcc, hc, h⟩ := h; exact ⟨A, n, c, c', rfl, hcc, hc, Kd.R_told h hbase⟩
theorem Kd.RR_types (h : Kd.RR d e w base ok v xs) {g t : Nat} {cells : Array Value} (hb : w.heap[g]? = some (.cells cells t (0, 0))) (ht : ∀ q, q ∈ e :: d.E → q ≠ t) : Kd.RR d e w base (fun k => ok k ∧ k ≠ g) v xs := by obtain ⟨A, n, c, c', rfl, hcc, hc, h⟩ := h; exact ⟨A, n, c, c', rfl, hcc, hc, Kd.R_types h hb ht⟩
theorem Kd.RR_clip {A : Option Addr} {n c' : Nat} (h : d.R e w base ok (.slice A n c') xs) (_ : n ≤ n) : Kd.RR d e w base ok (.slice A n n) xs := ⟨A, n, n, c', rfl, .inl rfl, Nat.le_refl _, h⟩
theorem Kd.RR_alloc (h : Kd.RR d e w base ok v xs) (o : Obj) : Kd.RR d e (w.alloc o) base ok v xs := by obtain ⟨A, n, c, c', rfl, hcc, hc, h⟩ := h; exact ⟨A, n, c, c', rfl, hcc, hc, Kd.R_alloc h o⟩
theorem Kd.RR_drew (h : Kd.RR d e w base ok v xs) : Kd.RR d e w.drew base ok v xs := by obtain ⟨A, n, c, c', rfl, hcc, hc, h⟩ := h; exact ⟨A, n, c, c', rfl, hcc, hc, Kd.R_drew h⟩
theorem Kd.RR_drewN (h : Kd.RR d e w base ok v xs) (m : Nat) : Kd.RR d e (w.drewN m) base ok v xs := by obtain ⟨A, n, c, c', rfl, hcc, hc, h⟩ := h; exact ⟨A, n, c, c', rfl, hcc, hc, Kd.R_drewN h m⟩
theorem Kd.RR_below (h : Kd.RR d e w base ok v xs) (hb : Below w.heap.size w w1) : Kd.RR d e w1 base ok v xs := by obtain ⟨A, n, c, c', rfl, hcc, hc, h⟩ := h; exact ⟨A, n, c, c', rfl, hcc, hc, Kd.R_below h hb⟩
theorem Kd.RR_lower {base' : Nat} (h : Kd.RR d e w base ok v xs) (hb : base' ≤ base) : Kd.RR d e w base' ok v xs := by obtain ⟨A, n, c, c', rfl, hcc, hc, h⟩ := h; exact ⟨A, n, c, c', rfl, hcc, hc, Kd.R_lower h hb⟩
theorem Kd.RR_mono (h : Kd.RR d e w base ok v xs) (hok : ∀ k, ok k → ok' k) : Kd.RR d e w base ok' v xs := by obtain ⟨A, n, c, c', rfl, hcc, hc, h⟩ := h; exact ⟨A, n, c, c', rfl, hcc, hc, Kd.R_mono h hok⟩
theorem Kd.RR_keptB (h : Kd.RR d e W base ok v xs) (hk : Kept W W2 S) (hne : ∀ k, ok k → ¬ S k) : Kd.RR d e W2 base (fun k => ok k ∧ (¬ S k ∧ k < W.heap.size)) v xs := by obtain ⟨A, n, c, c', rfl, hcc, hc, h⟩ := h; exact ⟨A, n, c, c', rfl, hcc, hc, Kd.R_keptB h hk hne⟩
theorem Kd.RR_slice (h : Kd.RR d e w base ok v xs) : ∃ A c, v = .slice A xs.length c := by
  obtain ⟨A, n, c, c', rfl, hcc, hc, h⟩ := h
  obtain ⟨rfl, _⟩ := Kd.R_reads' h
  exact ⟨A, c, rfl⟩
theorem Kd.RR_reads' {A : Option Addr} {n c : Nat} (h : Kd.RR d e w base ok (.slice A n c) xs) : n = xs.length ∧ n ≤ c ∧ d.C w A xs.length xs := by
  obtain ⟨A', n', c', c'', he, hcc, hc, h⟩ := h
  injection he with h1 h2 h3
  subst h1 h2 h3
  obtain ⟨h1, _, h3⟩ := Kd.R_reads' h
  exact ⟨h1, hc, h3⟩
theorem Kd.RR_base (h : Kd.RR d e w base ok v xs) : ∀ k, v.ownBlock = some k → base ≤ k := by
  obtain ⟨A, n, c, c', rfl, hcc, hc, h⟩ := h
  rw [ob_eq A n c n c']
  exact Kd.R_base h
theorem Kd.RR_lt (h : Kd.RR d e w base ok v xs) : ∀ k, v.ownBlock = some k → k < w.heap.size := by
  obtain ⟨A, n, c, c', rfl, hcc, hc, h⟩ := h
  rw [ob_eq A n c n c']
  exact Kd.R_lt h
theorem Kd.RR_typed (h : Kd.RR d e w base ok v xs) : ∀ k, v.ownBlock = some k → ∃ cells, w.heap[k]? = some (.cells cells e (0, 0)) := by
  obtain ⟨A, n, c, c', rfl, hcc, hc, h⟩ := h
  rw [ob_eq A n c n c']
  exact Kd.R_typed h
theorem Kd.RR_apart' (h : Kd.RR d e W base ok u xs) (hty : ∀ k, v.ownBlock = some k → ∃ cells, W.heap[k]? = some (.cells cells e' (0, 0))) (ht : ∀ q, q ∈ e :: d.E → q ≠ e') : Kd.RR d e W base (fun k => ok k ∧ some k ≠ v.ownBlock) u xs := by
  obtain ⟨A, n, c, c', rfl, hcc, hc, h⟩ := h
  exact ⟨A, n, c, c', rfl, hcc, hc, Kd.R_apart' h hty ht⟩
theorem Kd.RR_elder' (hu : Kd.RR d e W base ok u xs) (hbase : ∀ k, v.ownBlock = some k → W.heap.size ≤ k) (hb : Below W.heap.size W w1) : Kd.RR d e w1 base (fun k => ok k ∧ some k ≠ v.ownBlock) u xs := by
  obtain ⟨A, n, c, c', rfl, hcc, hc, h⟩ := hu
  exact ⟨A, n, c, c', rfl, hcc, hc, Kd.R_elder' h hbase hb⟩
theorem Kd.RR_new' (h : Kd.RR d e w1 W.heap.size ok v xs) (hlt : ∀ k, u.ownBlock = some k → k < W.heap.size) : Kd.RR d e w1 W.heap.size (fun k => ok k ∧ some k ≠ u.ownBlock) v xs := by
  obtain ⟨A, n, c, c', rfl, hcc, hc, h⟩ := h
  exact ⟨A, n, c, c', rfl, hcc, hc, Kd.R_new' h hlt⟩
theorem Kd.RR_reok (hE : d.E = []) (h : Kd.RR d e W base ok1 v xs) (hok : ∀ k, v.ownBlock = some k → ok k) : Kd.RR d e W base ok v xs := by
  obtain ⟨A, n, c, c', rfl, hcc, hc, h⟩ := h
  exact ⟨A, n, c, c', rfl, hcc, hc, Kd.R_reok hE h (fun k hk => hok k (by rw [ob_eq A n c n c']; exact hk))⟩
theorem Kd.RR_tight (hE : d.E = []) (h : Kd.RR d e w base ok v xs) : Kd.RR d e w base (fun k => some k = v.ownBlock) v xs := by
  obtain ⟨A, n, c, c', rfl, hcc, hc, h⟩ := h
  rw [ob_eq A n c n c']
  exact ⟨A, n, c, c', rfl, hcc, hc, Kd.R_tight hE h⟩
theorem Kd.RR_form (h : Kd.RR d e w base ok v xs) (hp : 0 < xs.length) : ∃ g cap, v = .slice (some ⟨g, 0, none⟩) xs.length cap ∧ base ≤ g ∧ g < w.heap.size ∧ ∃ cells, w.heap[g]? = some (.cells cells e (0, 0)) := by
  obtain ⟨A, n, c, c', rfl, hcc, hc, h⟩ := h
  obtain ⟨g, cap, he, h2⟩ := Kd.R_form h hp
  injection he with h1 h3 h4
  subst h1 h3
  exact ⟨g, c, rfl, h2⟩
theorem Kd.RR_elem {g n cap : Nat} (h : Kd.RR d e W base ok (.slice (some ⟨g, 0, none⟩) n cap) xs) (z : α) (i : Int) (h0 : 0 ≤ i) (h1 : i < n) :
    ∃ c, c.length = d.sz ∧ d.M W base (fun k => ok k ∧ k ≠ g) (xs.getD i.toNat z) c ∧ (∀ j u, c[j]? = some u → W.cell? ⟨g, i.toNat * d.sz + j, none⟩ = some u) ∧ ∀ j, W.frozen? ⟨g, i.toNat * d.sz + j, none⟩ = false := by
  obtain ⟨A, n', c, c', he, hcap, hc, h⟩ := h
  injection he with h2 h3 h4
  subst h2 h3 h4
  exact Kd.R_elem h z i h0 h1
theorem Kd.RR_seg {g n cap : Nat} {okp : Nat → Prop} (h : Kd.RR d e W base ok (.slice (some ⟨g, 0, none⟩) n cap) xs) (i : Int) (h0 : 0 ≤ i) (h1 : i < n) {c seg : List Value} {j : Nat} (hcl : c.length = d.sz) (hcc : ∀ j u, c[j]? = some u → W.cell? ⟨g, i.toNat * d.sz + j, none⟩ = some u)
    (hj : j + seg.length ≤ d.sz) {x' : α} (hM : d.M W base okp x' (c.take j ++ seg ++ c.drop (j + seg.length))) (hokp : ∀ k, okp k → ok k ∧ k ≠ g) :
    Kd.RR d e (W.setCells g (i.toNat * d.sz + j) seg) base ok (.slice (some ⟨g, 0, none⟩) n cap) (xs.set i.toNat x') ∧ W.grownBy (W.setCells g (i.toNat * d.sz + j) seg) (some g) := by
  obtain ⟨A, n', c1, c', he, hcap, hc, h⟩ := h
  injection he with h2 h3 h4
  subst h2 h3 h4
  obtain ⟨r1, r2⟩ := Kd.R_seg h i h0 h1 hcl hcc hj hM hokp
  exact ⟨⟨_, _, _, _, rfl, hcap, hc, r1⟩, r2⟩
end
section
variable {α : Type} {enc : α → Value} {h1 : ∀ x, (enc x).oneCell' = true} {e : Nat} {W : World} {base : Nat} {ok : Nat → Prop} {xs : List α}
theorem Kd.RR_celln {g n cap : Nat} (d : α) (h : Kd.RR (Kd.scalar enc h1) e W base ok (.slice (some ⟨g, 0, none⟩) n cap) xs) (i : Int) (h0 : 0 ≤ i) (hi : i < n) : W.cell? ⟨g, i.toNat, none⟩ = some (enc (rdOf d xs i)) ∧ W.frozen? ⟨g, i.toNat, none⟩ = false := by
  obtain ⟨A, n', c1, c', he, hcc, hc, h⟩ := h
  injection he with h2 h3 h4
  subst h2 h3 h4
  exact Kd.R_celln d h i h0 hi
theorem Kd.RR_putg {g n cap : Nat} (h : Kd.RR (Kd.scalar enc h1) e W base ok (.slice (some ⟨g, 0, none⟩) n cap) xs) (i : Int) (x : α) : Kd.RR (Kd.scalar enc h1) e (W.setCell ⟨g, i.toNat, none⟩ (enc x)) base ok (.slice (some ⟨g, 0, none⟩) n cap) (xs.set i.toNat x) ∧ W.grownBy (W.setCell ⟨g, i.toNat, none⟩ (enc x)) (some g) := by
  obtain ⟨A, n', c1, c', he, hcc, hc, h⟩ := h
  injection he with h2 h3 h4
  subst h2 h3 h4
  obtain ⟨r1, r2⟩ := Kd.R_putg h i x
  exact ⟨⟨_, _, _, _, rfl, hcc, hc, r1⟩, r2⟩
end
theorem run_append_clip {P : Program} (w : World) (base : Nat) (t ty e : TypeId) (i : TypeInfo) (z : Value) (size bytes : Nat) (ht : P.underlying t = some (.slice e)) (hi : P.info? e = some i) (hz : i.zero = some z)
    (hsize : i.size = size) (hby : i.bytes = bytes) (hzs : z.cells.size = size)
    (g n cap : Nat) (xs : List Value) (hown : w.ownsRow base e size (.slice (some ⟨g, 0, none⟩) n cap) n xs)
    (a : Addr) (m c : Nat) (news : List Value) (hl : news.length = m * size) (hnews : ∀ j u, news[j]? = some u → w.cell? (a.add j) = some u) (hm : 0 < m)
    (h63 : n + m ≤ maxLen) (hbytes : (n + m) * bytes ≤ 140737488355328) (hbase : base ≤ w.heap.size) :
    ∃ v' w', (Builtin.append_ #[t, t] ty #[.slice (some ⟨g, 0, none⟩) n n, .slice (some a) m c]).run P w = .ok v' w' ∧ w'.ownsRow base e size v' (n + m) (xs ++ news) ∧ w.grownBy w' (some g) ∧ v'.ownBlock = some w.heap.size := by
  subst hsize
  subst hby
  have hlen : (xs ++ news).length = (n + m) * i.size := by rw [List.length_append, hown.1, hl, Nat.add_mul]
  have holds : ∀ j u, xs[j]? = some u → w.cell? ((⟨g, 0, none⟩ : Addr).add j) = some u := hown.cells (g := g) rfl
  have hr := run_append_grow (P := P) w t ty e i z ht hi hz ⟨g, 0, none⟩ n n xs hown.1 holds a m c news hl hnews (by omega) (by simp only [maxLen] at h63; omega) (growslice_fits (by omega) hbytes)
  have hge := grownCap_ge w (n + m) n e
  have hcm : grownCap w (n + m) n e ≤ maxLen := grownCap_le_maxLen w (n + m) n e h63
  refine ⟨_, _, hr, ⟨hlen, .inr ⟨w.heap.size, _, _, rfl, hbase, heap_alloc_new w.drew _, hge, hcm, ?_, ?_⟩⟩, ⟨rfl, rfl, rfl, by simp, fun k hk _ => heap_alloc_old w.drew _ (r := k) hk⟩, rfl⟩
  · simp only [Array.size_append, List.size_toArray, size_zeroCells, hzs, hown.1, hl, ← Nat.add_mul]
    congr 1
    omega
  · simp only [Array.toList_append, List.append_assoc]
    rw [← List.append_assoc, ← hlen]
    exact List.take_left
section
variable {P : Program} {ops : Array Oper} {o : Oper} {a : Act} {Q : Exit → Act → World → Prop} {Kc : Act → World → Prop} {α : Type}
theorem Kd.RR_append_step (d : Kd α) {w0 W : World} (base : Nat) (hw : Region.wanted o (yielded ops a.tmps) = true) (s x : Operand) (t e : TypeId) (z : Value) (bytes : Nat)
    (ho : o.op = .call { callee := .builtin .append, args := #[s, x], argTypes := #[t, t] })
    (ht : P.underlying t = some (.slice e)) (hinfo : (P.info? e).map (fun i => (i.zero, i.size, i.bytes)) = some (some z, d.sz, bytes)) (hz : z.cells.size = d.sz) (hs0 : 0 < d.sz) (hb0 : 0 < bytes)
    (v : Value) (xs : List α) (p : α) (cs : List Value) (ok okp : Nat → Prop) (hs : a.eval s = v) (hx : a.eval x = .slice (some ⟨W.heap.size, 0, none⟩) 1 1) (hp : d.M W base okp p cs) (hokp : ∀ k, okp k → ok k ∧ some k ≠ v.ownBlock) (hfresh : ∀ k, W.heap.size ≤ k → ok k)
    (HO : Kd.RR d e W base ok v xs) (HB : Below base w0 W) (hbase : base ≤ W.heap.size) (hl : (xs.length + 1) * bytes ≤ 140737488355328)
    (h : ∀ v1 w1, Kd.RR d e w1 base ok v1 (xs ++ [p]) → Below base w0 w1 → W.grownBy w1 v.ownBlock → (v1.ownBlock = v.ownBlock ∨ ∃ b, v1.ownBlock = some b ∧ W.heap.size ≤ b) → Kc (a.put o.dst v1) w1) :
    if Region.wanted o (yielded ops a.tmps) = true then Oper.wp P o a (W.alloc (.cells cs.toArray e)) Kc Q else Kc (a.put o.dst undef) (W.alloc (.cells cs.toArray e)) := by
  obtain ⟨A, n, c, c', rfl, hcc, hc, HO⟩ := HO
  by_cases hsame : c = c'
  · subst hsame
    exact Kd.R_append_step d base hw s x t e z bytes ho ht hinfo hz hs0 hb0 _ xs p cs ok okp hs hx hp hokp hfresh HO HB hbase hl (fun v1 w1 hr => h v1 w1 (Kd.RR_of_R hr))
  · have hcn : c = n := by omega
    subst hcn
    obtain ⟨hnx, _, _⟩ := Kd.R_reads' HO
    obtain ⟨h0, inner, hown, hr⟩ := HO
    rcases hown.2 with ⟨he, _⟩ | ⟨g, cap, cur, he, hbg, hg, hnc, hcm, hcs, htake⟩
    · injection he with e1 e2 e3
      omega
    · injection he with e1 e2 e3
      subst e1
      have hown0 := hown
      subst hnx
      obtain ⟨i0, hi, hzz⟩ := Option.map_eq_some_iff.1 hinfo
      simp only [Prod.mk.injEq] at hzz
      obtain ⟨hz0, hz1, hz2⟩ := hzz
      have hys : cs.length = d.sz := d.K_len (d.K_of_M hp)
      have hlen : xs.length + 1 ≤ 140737488355328 := Nat.le_trans (Nat.le_mul_of_pos_right _ hb0) hl
      rw [if_pos hw]
      obtain ⟨v1, w1, hr1, hown1, hg1, hat1⟩ := run_append_clip (P := P) (W.alloc (.cells cs.toArray e)) base t o.type e i0 z d.sz bytes ht hi hz0 hz1 hz2 hz g xs.length c' inner (hown.alloc _) ⟨W.heap.size, 0, none⟩ 1 1 cs (by rw [hys]; simp)
        (by simpa using World.news_of_block (cs := cs.toArray) (t := e) (fr := (0, 0)) (heap_alloc_new W (.cells cs.toArray e))) (by omega) (by simp only [maxLen]; omega) hl (by simp; omega)
      unfold Oper.wp execOp
      simp only [ho, resolve, invoke, builtin, Sem.run_bind, Sem.run_pure, Result.andThen_ok, List.map_toArray, List.map_cons, List.map_nil, hs, hx, hr1]
      have hgW : W.grownBy w1 (some g) := World.grownBy.trans (World.grownBy_alloc W _ _) hg1
      have hat : v1.ownBlock = (Value.slice (some ⟨g, 0, none⟩) xs.length c').ownBlock ∨ ∃ b, v1.ownBlock = some b ∧ W.heap.size ≤ b := .inr ⟨_, hat1, by simp⟩
      refine h v1 w1 (Kd.RR_of_R (Kd.R_appended (W := W) h0 hr hp hokp hfresh hown1 hgW hat)) ((HB.alloc hbase _).grown hg1 (by simp; omega) (fun k hk => by injection hk with hk; omega)) hgW hat
section
variable {rest : List Oper}
theorem Kd.RR_lit (d : Kd α) {w0 W : World} (base e : Nat) (hgd : o.guard = none) {N : Tmp} (hd : o.dst = some N) {xs : List α} {inner : List Value} {ok okp : Nat → Prop}
    (hrun : (execOp a.eval o).run P W = .ok (.value (.slice (some ⟨W.heap.size, 0, none⟩) xs.length xs.length)) (W.alloc (.cells inner.toArray e)))
    (hrep : Reps (d.M W base okp) d.sz xs inner) (hok : ∀ k, okp k → ok k) (hfresh : ok W.heap.size) (HB : Below base w0 W) (hbase : base ≤ W.heap.size) (hm : xs.length ≤ 9223372036854775807)
    (h : ∀ v1 w1, Kd.RR d e w1 base ok v1 xs → Below base w0 w1 → W.grownBy w1 none → (∃ b, v1.ownBlock = some b ∧ W.heap.size ≤ b) → wpList P ops Q rest (a.put o.dst v1) w1) : wpList P ops Q (o :: rest) a W :=
  Kd.R_lit d base e hgd hd hrun hrep hok hfresh HB hbase hm (fun v1 w1 hr => h v1 w1 (Kd.RR_of_R hr))
theorem Kd.RR_append (d : Kd α) {w0 W : World} (base : Nat) (hgd : o.guard = none) (s x : Operand) (t e : TypeId) (z : Value) (bytes : Nat)
    (ho : o.op = .call { callee := .builtin .append, args := #[s, x], argTypes := #[t, t] })
    (ht : P.underlying t = some (.slice e)) (hinfo : (P.info? e).map (fun i => (i.zero, i.size, i.bytes)) = some (some z, d.sz, bytes)) (hz : z.cells.size = d.sz) (hs0 : 0 < d.sz) (hb0 : 0 < bytes)
    (v : Value) (xs : List α) (p : α) (cs : List Value) (ok okp : Nat → Prop) (hs : a.eval s = v) (hx : a.eval x = .slice (some ⟨W.heap.size, 0, none⟩) 1 1) (hp : d.M W base okp p cs) (hokp : ∀ k, okp k → ok k ∧ some k ≠ v.ownBlock) (hfresh : ∀ k, W.heap.size ≤ k → ok k)
    (HO : Kd.RR d e W base ok v xs) (HB : Below base w0 W) (hbase : base ≤ W.heap.size) (hl : (xs.length + 1) * bytes ≤ 140737488355328)
    (h : ∀ v1 w1, Kd.RR d e w1 base ok v1 (xs ++ [p]) → Below base w0 w1 → W.grownBy w1 v.ownBlock → (v1.ownBlock = v.ownBlock ∨ ∃ b, v1.ownBlock = some b ∧ W.heap.size ≤ b) → wpList P ops Q rest (a.put o.dst v1) w1) :
    wpList P ops Q (o :: rest) a (W.alloc (.cells cs.toArray e)) := by
  obtain ⟨A, n, c, c', rfl, hcc, hc, HO⟩ := HO
  by_cases hsame : c = c'
  · subst hsame
    exact Kd.R_append d base hgd s x t e z bytes ho ht hinfo hz hs0 hb0 _ xs p cs ok okp hs hx hp hokp hfresh HO HB hbase hl (fun v1 w1 hr => h v1 w1 (Kd.RR_of_R hr))
  · have hcn : c = n := by omega
    subst hcn
    obtain ⟨hnx, _, _⟩ := Kd.R_reads' HO
    obtain ⟨h0, inner, hown, hr⟩ := HO
    rcases hown.2 with ⟨he, _⟩ | ⟨g, cap, cur, he, hbg, hg, hnc, hcm, hcs, htake⟩
    · injection he with e1 e2 e3
      omega
    · injection he with e1 e2 e3
      subst e1
      have hown0 := hown
      subst hnx
      obtain ⟨i0, hi, hzz⟩ := Option.map_eq_some_iff.1 hinfo
      simp only [Prod.mk.injEq] at hzz
      obtain ⟨hz0, hz1, hz2⟩ := hzz
      have hys : cs.length = d.sz := d.K_len (d.K_of_M hp)
      have hlen : xs.length + 1 ≤ 140737488355328 := Nat.le_trans (Nat.le_mul_of_pos_right _ hb0) hl
      refine wpList_plain hgd fun K hK => ?_
      obtain ⟨v1, w1, hr1, hown1, hg1, hat1⟩ := run_append_clip (P := P) (W.alloc (.cells cs.toArray e)) base t o.type e i0 z d.sz bytes ht hi hz0 hz1 hz2 hz g xs.length c' inner (hown.alloc _) ⟨W.heap.size, 0, none⟩ 1 1 cs (by rw [hys]; simp)
        (by simpa using World.news_of_block (cs := cs.toArray) (t := e) (fr := (0, 0)) (heap_alloc_new W (.cells cs.toArray e))) (by omega) (by simp only [maxLen]; omega) hl (by simp; omega)
      unfold Oper.wp execOp
      simp only [ho, resolve, invoke, builtin, Sem.run_bind, Sem.run_pure, Result.andThen_ok, List.map_toArray, List.map_cons, List.map_nil, hs, hx, hr1]
      have hgW : W.grownBy w1 (some g) := World.grownBy.trans (World.grownBy_alloc W _ _) hg1
      have hat : v1.ownBlock = (Value.slice (some ⟨g, 0, none⟩) xs.length c').ownBlock ∨ ∃ b, v1.ownBlock = some b ∧ W.heap.size ≤ b := .inr ⟨_, hat1, by simp⟩
      refine hK _ _ (h v1 w1 (Kd.RR_of_R (Kd.R_appended (W := W) h0 hr hp hokp hfresh hown1 hgW hat)) ((HB.alloc hbase _).grown hg1 (by simp; omega) (fun k hk => by injection hk with hk; omega)) hgW hat)
end
theorem Kd.RR_lit_step (d : Kd α) {w0 W : World} (base e : Nat) (hw : Region.wanted o (yielded ops a.tmps) = true) {N : Tmp} (hd : o.dst = some N) {xs : List α} {inner : List Value} {ok okp : Nat → Prop}
    (hrun : (execOp a.eval o).run P W = .ok (.value (.slice (some ⟨W.heap.size, 0, none⟩) xs.length xs.length)) (W.alloc (.cells inner.toArray e)))
    (hrep : Reps (d.M W base okp) d.sz xs inner) (hok : ∀ k, okp k → ok k) (hfresh : ok W.heap.size) (HB : Below base w0 W) (hbase : base ≤ W.heap.size) (hm : xs.length ≤ 9223372036854775807)
    (h : ∀ v1 w1, Kd.RR d e w1 base ok v1 xs → Below base w0 w1 → W.grownBy w1 none → (∃ b, v1.ownBlock = some b ∧ W.heap.size ≤ b) → Kc (a.put o.dst v1) w1) : if Region.wanted o (yielded ops a.tmps) = true then Oper.wp P o a W Kc Q else Kc (a.put o.dst undef) W :=
  Kd.R_lit_step d base e hw hd hrun hrep hok hfresh HB hbase hm (fun v1 w1 hr => h v1 w1 (Kd.RR_of_R hr))
theorem Kd.RR_over' {d : Kd α} {e e' base : Nat} {W w1 : World} {ok : Nat → Prop} {u v : Value} {xs : List α} (h : Kd.RR d e W base ok u xs) (hty : ∀ k, v.ownBlock = some k → ∃ cells, W.heap[k]? = some (.cells cells e' (0, 0))) (ht : ∀ q, q ∈ e :: d.E → q ≠ e') (hg : W.grownBy w1 v.ownBlock) : Kd.RR d e w1 base ok u xs := by
  obtain ⟨A, n, c, c', rfl, hcc, hc, h⟩ := h; exact ⟨A, n, c, c', rfl, hcc, hc, Kd.R_over' h hty ht hg⟩
theorem Kd.RR_after {d : Kd α} {e base : Nat} {ok : Nat → Prop} {W w1 : World} {u v v1 : Value} {xs : List α} (h : Kd.RR d e W base (fun k => ok k ∧ some k ≠ v.ownBlock) u xs) (hg : W.grownBy w1 v.ownBlock) (hat : v1.ownBlock = v.ownBlock ∨ ∃ b, v1.ownBlock = some b ∧ W.heap.size ≤ b) : Kd.RR d e w1 base (fun k => ok k ∧ some k ≠ v1.ownBlock) u xs := by
  obtain ⟨A, n, c, c', rfl, hcc, hc, h⟩ := h; exact ⟨A, n, c, c', rfl, hcc, hc, Kd.R_after h hg hat⟩
theorem Kd.RR_append_rows_step (d : Kd α) {Rr : α → List Value → Prop} {w0 W : World} (base : Nat) (hw : Region.wanted o (yielded ops a.tmps) = true) (s x : Operand) (t e : TypeId) (z : Value) (bytes : Nat)
    (ho : o.op = .call { callee := .builtin .append, args := #[s, x], argTypes := #[t, t] })
    (ht : P.underlying t = some (.slice e)) (hinfo : (P.info? e).map (fun i => (i.zero, i.size, i.bytes)) = some (some z, d.sz, bytes)) (hz : z.cells.size = d.sz) (hs0 : 0 < d.sz) (hb0 : 0 < bytes)
    (v : Value) (xs ys : List α) (A : Option Addr) (m c : Nat) (ok okp : Nat → Prop) (hs : a.eval s = v) (hx : a.eval x = .slice A m c)
    (HO : Kd.RR d e W base ok v xs) (HR : ReadsRow Rr d.sz W A m ys) (hKM : ∀ x cs, Rr x cs → d.M W base okp x cs) (hokp : ∀ k, okp k → ok k ∧ some k ≠ v.ownBlock) (hfresh : ∀ k, W.heap.size ≤ k → ok k)
    (HB : Below base w0 W) (hbase : base ≤ W.heap.size) (hl : (xs.length + m) * bytes ≤ 140737488355328)
    (h : ∀ v1 w1, Kd.RR d e w1 base ok v1 (xs ++ ys) → Below base w0 w1 → W.grownBy w1 v.ownBlock → (v1.ownBlock = v.ownBlock ∨ ∃ b, v1.ownBlock = some b ∧ W.heap.size ≤ b) → Kc (a.put o.dst v1) w1) :
    if Region.wanted o (yielded ops a.tmps) = true then Oper.wp P o a W Kc Q else Kc (a.put o.dst undef) W := by
  obtain ⟨A', n, c1, c', rfl, hcc, hc1, HO⟩ := HO
  by_cases hsame : c1 = c'
  · subst hsame
    exact Kd.R_append_rows_step d base hw s x t e z bytes ho ht hinfo hz hs0 hb0 _ xs ys A m c ok okp hs hx HO HR hKM hokp hfresh HB hbase hl (fun v1 w1 hr => h v1 w1 (Kd.RR_of_R hr))
  · have hcn : c1 = n := by omega
    subst hcn
    have HO0 := HO
    obtain ⟨hnx, hnc', _⟩ := Kd.R_reads' HO
    obtain ⟨h0, inner, hown, hr⟩ := HO
    rcases hown.2 with ⟨he, _⟩ | ⟨g, cap, cur, he, hbg, hg, hnc, hcm, hcs, htake⟩
    · injection he with e1 e2 e3
      omega
    · injection he with e1 e2 e3
      subst e1
      subst hnx
      obtain ⟨i0, hi, hzz⟩ := Option.map_eq_some_iff.1 hinfo
      simp only [Prod.mk.injEq] at hzz
      obtain ⟨hz0, hz1, hz2⟩ := hzz
      have hm : ys.length = m := HR.1
      have hlen : xs.length + m ≤ 140737488355328 := Nat.le_trans (Nat.le_mul_of_pos_right _ hb0) hl
      have hrun : ∃ v1 w1, (Builtin.append_ #[t, t] o.type #[.slice (some ⟨g, 0, none⟩) xs.length xs.length, .slice A m c]).run P W = .ok v1 w1 ∧ Kd.RR d e w1 base ok v1 (xs ++ ys) ∧ W.grownBy w1 (some g) ∧ (v1.ownBlock = some g ∨ ∃ b, v1.ownBlock = some b ∧ W.heap.size ≤ b) := by
        by_cases hm0 : m = 0
        · subst hm0
          obtain rfl : ys = [] := List.eq_nil_of_length_eq_zero hm
          refine ⟨.slice (some ⟨g, 0, none⟩) xs.length xs.length, W, ?_, by rw [List.append_nil]; exact ⟨_, _, _, _, rfl, .inl rfl, Nat.le_refl _, HO0⟩, World.grownBy.refl W _, .inl rfl⟩
          rcases A with _ | ad
          · simp [Builtin.append_, run_underlying ht, sizeOf, typeInfo, hi, Builtin.lenOf, Builtin.firstCells, storeCells]
          · have hf := run_firstCells_some (P := P) W i0.size 0 ad 0 c [] (by simp) (by simp)
            simp [Builtin.append_, run_underlying ht, sizeOf, typeInfo, hi, Builtin.lenOf, hf, storeCells]
        · rcases A with _ | ad
          · obtain ⟨ad, h, _⟩ := HR.2.2 (by omega)
            cases h
          · obtain ⟨news, hnr, hncl⟩ := ReadsRow.inner_ HR
            have hnM : Reps (d.M W base okp) d.sz ys news := hnr.imp_ (fun p c hp => hKM p c hp)
            obtain ⟨v1, w1, hrun, h2, hg1, hat⟩ := run_append_clip (P := P) W base t o.type e i0 z d.sz bytes ht hi hz0 hz1 hz2 hz g xs.length c' inner hown ad m c news (by rw [hnM.1, hm]) hncl (by omega) (by simp only [maxLen]; omega) hl hbase
            have hne : ∀ k, k < W.heap.size → some k ≠ v1.ownBlock := by
              intro k hlt
              rw [hat]
              intro he
              injection he with he
              omega
            have step : ∀ {q : α} {c : List Value} {o : Nat → Prop}, d.M W base o q c → (∀ k, o k → ok k ∧ some k ≠ some g) → d.M w1 base (fun k => ok k ∧ some k ≠ v1.ownBlock) q c := by
              intro q c o hq ho
              have h1 := d.M_move (w1 := w1) (fun k hk => hg1.block k hk.2.2.1 (ho k hk.1).2) (d.M_bound hq)
              exact d.M_mono (fun k hk => ⟨(ho k hk.1).1, hne k hk.2.2.1⟩) h1
            refine ⟨v1, w1, hrun, Kd.RR_of_R ⟨fun k hk => ?_, inner ++ news, by rw [List.length_append, hm]; exact h2, Kd.reps_append (hr.imp_ (fun _ _ hq => step hq (fun _ hk => hk))) (hnM.imp_ (fun _ _ hq => step hq hokp))⟩, hg1, .inr ⟨_, hat, Nat.le_refl _⟩⟩
            rw [hat] at hk
            injection hk with hk
            exact hfresh k (by omega)
      obtain ⟨v1, w1, hr1, h1, hg1, hat⟩ := hrun
      rw [if_pos hw]
      unfold Oper.wp execOp
      simp only [ho, resolve, invoke, builtin, Sem.run_bind, Sem.run_pure, Result.andThen_ok, List.map_toArray, List.map_cons, List.map_nil, hs, hx, hr1]
      exact h v1 w1 h1 (HB.grown hg1 hbase (fun k hk => by injection hk with hk; omega)) hg1 hat
end
end Go.Proofs.Ytonifhkplniblaa.Print
