/- Functions of the translation as plain Lean functions, and their contracts: written by a program. No condition. -/
import Derived.Test.YtappbijjpcaocaaDoorPB
import Derived.Ground.NamesProg
import Derived.Shelf.Lay
import Derived.Shelf.Strconv.Itoa3
import Derived.Test.YtappbijjpcaocaaDoorWalk
namespace Go.Proofs.YtappbijjpcaocaaDoor.Print
open Go.RowKit Go.Proofs.YtappbijjpcaocaaDoorW.PrintWords Go.Proofs.YtappbijjpcaocaaDoorW.PrintLast Go.Proofs.YtappbijjpcaocaaDoorW.PrintMore
attribute [local go_sem] max2_int min2_int max_two min_two max_three min_three max_four min_four   -- for this text's walks alone
set_option linter.unusedVariables false
set_option linter.unusedSimpArgs false

/-! ### strconv_Itoa_10: function 10 (given) -/
end Go.Proofs.YtappbijjpcaocaaDoor.Print
namespace Go.Proofs
open Go.Shelf Go.RowKit Go.Lib
shelf_lay Lays.n171 Nm 171 at Tryd as Tryd.itoaL
end Go.Proofs
namespace Go.Proofs.YtappbijjpcaocaaDoor.Print
open Go.RowKit Go.Proofs.YtappbijjpcaocaaDoorW.PrintWords Go.Proofs.YtappbijjpcaocaaDoorW.PrintLast Go.Proofs.YtappbijjpcaocaaDoorW.PrintMore
attribute [local go_sem] max2_int min2_int max_two min_two max_three min_three max_four min_four
set_option linter.unusedVariables false
set_option linter.unusedSimpArgs false
def strconv_Itoa_10.f (a0 : Int) : Option ByteArray := if 0 ≤ a0 ∧ a0 < 100 then some ⟨(Lib.decDigits a0.toNat).toArray⟩ else none
theorem strconv_Itoa_10.calls (a0 : Int) (r : ByteArray) (w : World) (h : strconv_Itoa_10.f a0 = some r) :
    Calls Tryd.prog 10 #[.int .i64 a0] w fun e w' => e = .returned (.string r) ∧ Drawn0 w w' := by
  unfold strconv_Itoa_10.f at h
  split at h
  · rename_i hl
    obtain rfl := Option.some.inj h
    obtain ⟨m, rfl⟩ : ∃ m : Nat, a0 = (m : Int) := ⟨a0.toNat, by omega⟩
    rw [Int.toNat_natCast]
    have h1 := Go.Proofs.Any.strconv_Itoa_small Go.Proofs.Tryd.itoaL m (by omega) w
    refine h1.mono ?_
    rintro e w' ⟨rfl, rfl⟩
    exact ⟨rfl, Drawn0.refl _⟩
  · cases h

end Go.Proofs.YtappbijjpcaocaaDoor.Print
