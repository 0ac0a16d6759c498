/- copy of a row's own first cells behind themselves. Its conditions: the row is the call's own. -/
import Derived.Test.YtkgloicnfphmoaaGreatDoorYFnExactReportWalk
import Derived.Laws.CopyRow
import Derived.Laws.IdiomCopy
namespace Go.Proofs.YtkgloicnfphmoaaGreatDoor.Walk
open Go.RowKit Go.Proofs.YtkgloicnfphmoaaGreatDoorW.PrintWords Go.Proofs.YtkgloicnfphmoaaGreatDoorW.PrintLast Go.Proofs.YtkgloicnfphmoaaGreatDoorW.PrintMore
set_option linter.unusedVariables false
set_option linter.unusedSimpArgs false
theorem copy_at {α : Type} {enc : α → Value} {h1 : ∀ x, (enc x).oneCell' = true} (d : α) {P : Program} {w0 W : World} {base e g m n cap : Nat} {ok : Nat → Prop} {xs : List α} (t t' ty : TypeId) (ht : P.underlying t = some (.slice e)) (hinfo : (P.info? e).map (·.size) = some 1)
    (HO : (Kd.scalar enc h1).R e W base ok (.slice (some ⟨g, 0, none⟩) n cap) xs) (hn : xs.length = n) (hm0 : 1 ≤ m) (hm : m < n) (HB : Below base w0 W) (hbase : base ≤ W.heap.size) :
    ∃ w1, (Builtin.copy_ #[t, t'] ty #[.slice (some ⟨g, m, none⟩) (n - m) (cap - m), .slice (some ⟨g, 0, none⟩) m cap]).run P W = .ok (goInt ((min m (n - m) : Nat) : Int)) w1 ∧
      (Kd.scalar enc h1).R e w1 base ok (.slice (some ⟨g, 0, none⟩) n cap) (xs.take m ++ xs.take (min m (n - m)) ++ xs.drop (m + min m (n - m))) ∧ Below base w0 w1 := by
  have hown := Kd.own_of_R HO
  have hRO := Kd.reads_of_C (d := d) (Kd.R_reads' HO).2.2
  obtain ⟨ad, hA, hc⟩ := hRO.2.2 (by omega)
  injection hA with hA
  subst hA
  rcases hown.2 with ⟨h, _⟩ | ⟨g', cap', cur, hv, hb, hh, hnc, hcm, hcs, htake⟩
  · cases h
  · injection hv with e1 e2 e3
    injection e1 with e1
    injection e1 with e1 _ _
    subst e1 e3
    obtain ⟨q, hq⟩ : ∃ q, q = min m (n - m) := ⟨_, rfl⟩
    rw [← hq]
    have hcs1 : cur.size = cap := by omega
    have hkl : (encs enc (xs.take q)).length = q := by rw [encs_length, List.length_take]; omega
    have hsrc : ∀ j u, (encs enc (xs.take q))[j]? = some u → W.cell? ((⟨g, 0, none⟩ : Addr).add j) = some u := by
      intro j u hu
      have hj : j < (xs.take q).length := by
        rcases Nat.lt_or_ge j (xs.take q).length with h | h
        · exact h
        · rw [List.getElem?_eq_none (by rw [encs_length]; exact h)] at hu
          cases hu
      have hjm : j < q := by rw [List.length_take] at hj; omega
      rw [encs_get (d := d) _ j hj] at hu
      rw [hc j (by omega), ← hu]
      simp [List.getD_eq_getElem?_getD, hjm]
    have hr := run_copy_cells (P := P) W t t' ty e g m (n - m) (cap - m) ⟨g, 0, none⟩ m cap (encs enc (xs.take q)) ht hinfo (by rw [hkl]; show q = min m (n - m); omega) hsrc
      (fun j hj => by rw [cell_of_row W g _ cur e (0, 0) hh]; simp; omega) (fun j _ => blk_frozen hh _) (by intro u hu; simp only [encs, List.mem_map] at hu; obtain ⟨z, _, rfl⟩ := hu; exact h1 z)
    obtain ⟨cur', h3, h4, h5⟩ := setCells_row (encs enc (xs.take q)) m W cur hh (by rw [hkl]; omega)
    obtain ⟨s1, s2, s3, s4⟩ := setCells_same g (encs enc (xs.take q)) m W
    have hln : (xs.take m ++ xs.take q ++ xs.drop (m + q)).length = xs.length := by
      rw [List.length_append, List.length_append, List.length_take, List.length_take, List.length_drop]
      omega
    refine ⟨_, by rw [hr, hkl], Kd.R_of_own ?_ HO.1, HB.grown (row := some g) ⟨s1, s2, s3, by rw [s4]; exact Nat.le_refl _, fun k _ hk => setCells_far _ _ k (fun he => hk (by rw [he]))⟩ hbase (fun k hk => by injection hk with hk; subst hk; exact hb)⟩
    rw [hln, hn]
    refine ⟨by rw [encs_length, hln, hn, Nat.mul_one], .inr ⟨g, cap, cur', rfl, hb, h3, by omega, hcm, by rw [h4, hcs], ?_⟩⟩
    have htk : cur.toList.take n = encs enc xs := by rw [← htake, Nat.mul_one, hn]
    have hcl : cur.toList.length = cap := by rw [Array.length_toList]; exact hcs1
    rw [h5, hkl, encs_append, encs_append, Nat.mul_one]
    have f1 : encs enc (xs.take m) = cur.toList.take m := by
      have : encs enc (xs.take m) = (encs enc xs).take m := by simp [encs, List.map_take]
      rw [this, ← htk, List.take_take, Nat.min_eq_left (by omega)]
    have f2 : encs enc (xs.drop (m + q)) = (cur.toList.drop (m + q)).take (n - (m + q)) := by
      have : encs enc (xs.drop (m + q)) = (encs enc xs).drop (m + q) := by simp [encs, List.map_drop]
      rw [this, ← htk, List.drop_take]
    rw [f1, f2]
    rw [List.take_append, List.length_append, List.length_take, hkl, List.take_append, List.length_take]
    rw [List.take_of_length_le (l := cur.toList.take m) (by rw [List.length_take]; omega), List.take_of_length_le (l := encs enc (xs.take q)) (by rw [hkl]; omega)]
    congr 2
    omega
theorem event_stepN {P : Program} {ops : Array Oper} {o : Oper} {a : Act} {Q : Exit → Act → World → Prop} {Kc : Act → World → Prop} {W w1 : World} {v : Value} {N : Option Tmp} (hw : Region.wanted o (yielded ops a.tmps) = true) (hN : o.dst = N) (hrun : (execOp a.eval o).run P W = .ok (.value v) w1) (h : Kc (a.put N v) w1) :
    if Region.wanted o (yielded ops a.tmps) = true then Oper.wp P o a W Kc Q else Kc (a.put N undef) W := by
  subst hN
  exact event_step hw hrun h
end Go.Proofs.YtkgloicnfphmoaaGreatDoor.Walk
