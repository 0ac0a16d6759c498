/- Server: what the laws' own helpers compute. No condition. -/
import Derived.Test.YtcpgejgppiclmaaLst
import Derived.Test.YtcpgejgppiclmaaPO
import Derived.Test.YtcpgejgppiclmaaPKc00
namespace Go.Proofs.Ytcpgejgppiclmaa.Print
open Go.RowKit Go.Proofs.YtcpgejgppiclmaaW.PrintWords Go.Proofs.Ytcpgejgppiclmaa.Evs Go.Proofs.Ytcpgejgppiclmaa.Opens
set_option linter.unusedSimpArgs false
abbrev LServer := S75
abbrev Server := S73
def cvServer (x : LServer) : Server := ⟨x.f0, x.f1⟩
theorem toServerS_ev (l : List LServer) (hl : l.length ≤ 1048576) : Tl (fun k => laws_toServerS.f k l) (l.map cvServer) := by
  unfold laws_toServerS.f
  have c1 := eq_true (show 0 ≤ (l.length : Int) by omega)
  have c2 := eq_true (show l.length ≤ 17592186044416 by omega)
  simp only [c1, c2, if_true, Int.toNat_natCast]
  have hlen : (l.map cvServer).length = l.length := by simp
  have key := down (Q := fun j => Tl (fun k => laws_toServerS.l0 k l ((l.map cvServer).take j ++ List.replicate ((l.map cvServer).length - j) z73) (j : Int)) (l.map cvServer)) l.length ?_ ?_
  · rw [fill_zero, hlen] at key; exact key
  · refine Tl.step ?_
    have c3 := eq_false (show ¬ ((l.length : Int) < (l.length : Int)) by omega)
    rw [← hlen, fill_end]
    simp only [hlen]
    simp only [laws_toServerS.l0, c3, if_false]
    exact Tl.ret _
  · intro j hj h
    refine Tl.step ?_
    have c3 := eq_true (show (j : Int) < (l.length : Int) by omega)
    have c4 := eq_true (show 0 ≤ (j : Int) by omega)
    have c5 := eq_true (show (j : Int) < (((l.map cvServer).take j ++ List.replicate ((l.map cvServer).length - j) z73).length : Int) by rw [fill_len _ _ (by omega)]; omega)
    simp only [laws_toServerS.l0, c3, c4, c5, if_true, laws_toServer.f, Option.bind_some, Int.toNat_natCast]
    rw [fill_set _ _ (by omega) _ (by rw [getD_map cvServer l j z75 _ hj]; rfl), wrap_succ hj (by omega)]
    exact h
theorem eqServer_self (x : Server) : laws_eqServer.f x.f0 x.f1 x.f0 x.f1 = some true := by simp [laws_eqServer.f]
theorem eqServerS_ev (l : List Server) (hl : l.length ≤ 1048576) : Tl (fun k => laws_eqServerS.f k l l) true := by
  unfold laws_eqServerS.f
  simp only [if_true]
  refine down (Q := fun j => Tl (fun k => laws_eqServerS.l0 k l l (j : Int)) true) l.length ?_ ?_
  · refine Tl.step ?_
    have c3 := eq_false (show ¬ ((l.length : Int) < (l.length : Int)) by omega)
    simp only [laws_eqServerS.l0, c3, if_false]
    exact Tl.ret _
  · intro j hj h
    refine Tl.step ?_
    have c3 := eq_true (show (j : Int) < (l.length : Int) by omega)
    have c4 := eq_true (show 0 ≤ (j : Int) by omega)
    simp only [laws_eqServerS.l0, c3, c4, if_true, eqServer_self, Option.bind_some]
    rw [wrap_succ hj (by omega)]
    exact h
theorem szServerS_f (l : List LServer) (a : Int) (h0 : 0 ≤ a) (h1 : a ≤ 1048576) (hl : l.length ≤ 9223372036854775807) : laws_szServerS.f l a = some (if a < l.length then -1 else a - l.length) := by
  unfold laws_szServerS.f
  rw [wrap_id (by omega) (by omega)]
  by_cases h : a < l.length
  · rw [if_pos (by omega), if_pos h]
  · rw [if_neg (by omega), if_neg h]
end Go.Proofs.Ytcpgejgppiclmaa.Print
