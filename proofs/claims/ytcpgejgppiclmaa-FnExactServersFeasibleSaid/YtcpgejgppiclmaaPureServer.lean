/- ServersValid, as the program and as the reference compute it. No condition. -/
import Derived.Test.YtcpgejgppiclmaaHelpServer
import Derived.Test.YtcpgejgppiclmaaPureTask
import Derived.Test.YtcpgejgppiclmaaPKc00
namespace Go.Proofs.Ytcpgejgppiclmaa.Print
open Go.RowKit Go.Proofs.YtcpgejgppiclmaaW.PrintWords Go.Proofs.Ytcpgejgppiclmaa.Evs Go.Proofs.Ytcpgejgppiclmaa.Opens
set_option linter.unusedSimpArgs false
set_option linter.unusedVariables false
def sv (l : List Server) (j : Nat) : Server := l.getD j z73
theorem rd_sv (l : List Server) (j : Nat) : rd_T73 l (j : Int) = sv l j := rfl
def okServers (l : List Server) : Bool := decide (l.length ≤ 2) && l.all okServer
theorem impl_ServersValid_ev (l : List Server) (hl : l.length ≤ 1048576) : Tl (fun _ => impl_ServersValid.f l) (okServers l) := Tl.of_eq fun _ => rfl
theorem okServers_at {l : List Server} (h : okServers l = true) {j : Nat} (hj : j < l.length) : 1 ≤ (sv l j).f0 ∧ (sv l j).f0 ≤ (sv l j).f1 ∧ (sv l j).f1 ≤ 12 := by
  unfold okServers at h
  rw [Bool.and_eq_true, List.all_eq_true] at h
  have h1 : sv l j ∈ l := by unfold sv; simp [List.getD_eq_getElem?_getD, hj]
  have := h.2 _ h1
  unfold okServer at this
  exact of_decide_eq_true this
theorem okServers_len {l : List Server} (h : okServers l = true) : l.length ≤ 2 := by unfold okServers at h; simp at h; exact h.1
theorem spec_ServersValid_ev (l : List Server) (hl : l.length ≤ 1048576) : Tl (fun k => spec_ServersValid.f k l) (okServers l) := by
  have key := Tl.all (F := fun k i => spec_ServersValid.l0 k l i) (n := l.length) (P := fun j => okServer (l.getD j z73)) (fin := decide (l.length ≤ 2)) ?_ ?_ ?_
  · rw [all_range] at key
    unfold okServers
    rw [Bool.and_comm]
    exact key
  · intro j hj hp r h
    have hp : okServer (sv l j) = true := hp
    unfold okServer at hp
    have hp := of_decide_eq_true hp
    refine Tl.step ?_
    simp only [spec_ServersValid.l0, rd_sv, spec_l1In_f, Option.bind_some]
    rw [wrap_succ hj (by omega)]
    exact Tl.iteT (by omega) (Tl.iteT (by omega) (Tl.iteT (by rw [decide_eq_true_eq]; omega) (Tl.iteT (by rw [decide_eq_true_eq]; omega) h)))
  · intro j hj hp
    have hp : okServer (sv l j) = false := hp
    unfold okServer at hp
    have hp := of_decide_eq_false hp
    refine Tl.step ?_
    simp only [spec_ServersValid.l0, rd_sv, spec_l1In_f, Option.bind_some]
    refine Tl.iteT (by omega) (Tl.iteT (by omega) ?_)
    by_cases h1 : 1 ≤ (sv l j).f0 ∧ (sv l j).f0 ≤ (sv l j).f1
    · exact Tl.iteT (by rw [decide_eq_true_eq]; exact h1) (Tl.iteF (by rw [decide_eq_true_eq]; omega) (Tl.ret _))
    · exact Tl.iteF (by rw [decide_eq_true_eq]; exact h1) (Tl.ret _)
  · refine Tl.step ?_
    simp only [spec_ServersValid.l0]
    refine Tl.iteF (by omega) ?_
    have : decide ((l.length : Int) ≤ 2) = decide (l.length ≤ 2) := by rw [decide_eq_decide]; omega
    rw [this]
    exact Tl.ret _
end Go.Proofs.Ytcpgejgppiclmaa.Print
