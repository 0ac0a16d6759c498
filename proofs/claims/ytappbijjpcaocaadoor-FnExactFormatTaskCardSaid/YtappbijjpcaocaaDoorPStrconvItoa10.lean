/- Functions of the translation as plain Lean functions, and their contracts: written by a program. No condition. -/
import Derived.Test.YtappbijjpcaocaaDoorPB
import Derived.Ground.NamesProg
import Derived.Shelf.Strconv.Itoa3
import Derived.Test.YtappbijjpcaocaaDoorWalk
namespace Go.Proofs.YtappbijjpcaocaaDoor.Print
open Go.RowKit Go.Proofs.YtappbijjpcaocaaDoorW.PrintWords Go.Proofs.YtappbijjpcaocaaDoorW.PrintLast Go.Proofs.YtappbijjpcaocaaDoorW.PrintMore
attribute [local go_sem] max2_int min2_int max_two min_two max_three min_three max_four min_four   -- for this text's walks alone
set_option linter.unusedVariables false
set_option linter.unusedSimpArgs false

/-! ### strconv_Itoa_10: function 10 (given) -/
end Go.Proofs.YtappbijjpcaocaaDoor.Print
namespace Go.Proofs
open Go.Shelf Go.RowKit Go.Lib
def Tryd.itoaL_ren : Go.Shelf.Ren := ⟨fun | 171 => 10 | 243 => 13 | 246 => 14 | 283 => 15 | 284 => 16 | 285 => 17 | 286 => 18 | 129 => 20 | 317 => 19 | 318 => 21 | 319 => 22 | 320 => 23 | 337 => 24 | 338 => 25 | n => n, fun | 3 => 3 | 9 => 9 | 2 => 2 | 4 => 4 | 171 => 33 | 0 => 0 | 53 => 34 | 37 => 31 | 5 => 5 | 173 => 37 | 212 => 41 | 51 => 42 | 20 => 20 | 213 => 43 | 46 => 45 | 232 => 48 | 233 => 49 | n => n, fun | 17 => 0 | 18 => 1 | 19 => 2 | n => n⟩
theorem Tryd.itoaL : Go.Proofs.Lays.n171 Tryd.prog Tryd.itoaL_ren := {
  mixed := by kernel_rfl
  f129 := Tryd.func20.trans (congrArg some (by kernel_rfl))
  f171 := Tryd.func10.trans (congrArg some (by kernel_rfl))
  f243 := Tryd.func13.trans (congrArg some (by kernel_rfl))
  f246 := Tryd.func14.trans (congrArg some (by kernel_rfl))
  f283 := Tryd.func15.trans (congrArg some (by kernel_rfl))
  f284 := Tryd.func16.trans (congrArg some (by kernel_rfl))
  f285 := Tryd.func17.trans (congrArg some (by kernel_rfl))
  f286 := Tryd.func18.trans (congrArg some (by kernel_rfl))
  f317 := Tryd.func19.trans (congrArg some (by kernel_rfl))
  f318 := Tryd.func21.trans (congrArg some (by kernel_rfl))
  f319 := Tryd.func22.trans (congrArg some (by kernel_rfl))
  f320 := Tryd.func23.trans (congrArg some (by kernel_rfl))
  f337 := Tryd.func24.trans (congrArg some (by kernel_rfl))
  f338 := Tryd.func25.trans (congrArg some (by kernel_rfl))
  t0 := Tryd.underlying0
  a0 := Tryd.isAgg0
  z0 := Tryd.sizeOf0
  v0 := Tryd.zeroValue0
  t2 := Tryd.underlying2
  a2 := Tryd.isAgg2
  z2 := Tryd.sizeOf2
  v2 := Tryd.zeroValue2
  t3 := Tryd.underlying3
  a3 := Tryd.isAgg3
  z3 := Tryd.sizeOf3
  v3 := Tryd.zeroValue3
  t4 := Tryd.underlying4
  a4 := Tryd.isAgg4
  z4 := Tryd.sizeOf4
  v4 := Tryd.zeroValue4
  t5 := Tryd.underlying5
  a5 := Tryd.isAgg5
  z5 := Tryd.sizeOf5
  v5 := Tryd.zeroValue5
  t9 := Tryd.underlying9
  a9 := Tryd.isAgg9
  z9 := Tryd.sizeOf9
  v9 := Tryd.zeroValue9
  t20 := Tryd.underlying20
  a20 := Tryd.isAgg20
  z20 := Tryd.sizeOf20
  v20 := Tryd.zeroValue20
  t37 := Tryd.underlying31
  a37 := Tryd.isAgg31
  z37 := Tryd.sizeOf31
  v37 := Tryd.zeroValue31
  t46 := Tryd.underlying45
  a46 := Tryd.isAgg45
  z46 := Tryd.sizeOf45
  v46 := Tryd.zeroValue45
  t51 := Tryd.underlying42
  a51 := Tryd.isAgg42
  z51 := Tryd.sizeOf42
  v51 := Tryd.zeroValue42
  t53 := Tryd.underlying34
  a53 := Tryd.isAgg34
  z53 := Tryd.sizeOf34
  v53 := Tryd.zeroValue34
  t171 := Tryd.underlying33
  a171 := Tryd.isAgg33
  z171 := Tryd.sizeOf33
  v171 := Tryd.zeroValue33
  t173 := Tryd.underlying37
  a173 := Tryd.isAgg37
  z173 := Tryd.sizeOf37
  v173 := Tryd.zeroValue37
  t212 := Tryd.underlying41
  a212 := Tryd.isAgg41
  z212 := Tryd.sizeOf41
  v212 := Tryd.zeroValue41
  t213 := Tryd.underlying43
  a213 := Tryd.isAgg43
  z213 := Tryd.sizeOf43
  t232 := Tryd.underlying48
  a232 := Tryd.isAgg48
  z232 := Tryd.sizeOf48
  v232 := Tryd.zeroValue48
  t233 := Tryd.underlying49
  a233 := Tryd.isAgg49
  z233 := Tryd.sizeOf49
  v233 := Tryd.zeroValue49
  g17 := by kernel_rfl
  g18 := by kernel_rfl
  g19 := by kernel_rfl }
end Go.Proofs
namespace Go.Proofs.YtappbijjpcaocaaDoor.Print
open Go.RowKit Go.Proofs.YtappbijjpcaocaaDoorW.PrintWords Go.Proofs.YtappbijjpcaocaaDoorW.PrintLast Go.Proofs.YtappbijjpcaocaaDoorW.PrintMore
attribute [local go_sem] max2_int min2_int max_two min_two max_three min_three max_four min_four
set_option linter.unusedVariables false
set_option linter.unusedSimpArgs false
def strconv_Itoa_10.f (a0 : Int) : Option ByteArray := if 0 ≤ a0 ∧ a0 < 100 then some ⟨(Lib.decDigits a0.toNat).toArray⟩ else none
theorem strconv_Itoa_10.calls (a0 : Int) (r : ByteArray) (w : World) (h : strconv_Itoa_10.f a0 = some r) :
    Calls Tryd.prog 10 #[.int .i64 a0] w fun e w' => e = .returned (.string r) ∧ Drawn0 w w' := by
  unfold strconv_Itoa_10.f at h
  split at h
  · rename_i hl
    obtain rfl := Option.some.inj h
    obtain ⟨m, rfl⟩ : ∃ m : Nat, a0 = (m : Int) := ⟨a0.toNat, by omega⟩
    rw [Int.toNat_natCast]
    have h1 := Go.Proofs.Any.strconv_Itoa_small Go.Proofs.Tryd.itoaL m (by omega) w
    refine h1.mono ?_
    rintro e w' ⟨rfl, rfl⟩
    exact ⟨rfl, Drawn0.refl _⟩
  · cases h

end Go.Proofs.YtappbijjpcaocaaDoor.Print
