/- Walks by hand for FnExactParseTask: no condition beyond what each statement says. -/
import Derived.Test.YtkgloicnfphmoaaDoorPB
import Derived.Test.YtkgloicnfphmoaaDoorWalk
import Derived.Shelf.Strings.Split
import Derived.Shelf.Strconv.AtoiAll
import Derived.Ground.NamesProg
import Derived.Lib.Hide
import Derived.Test.YtkgloicnfphmoaaDoorPImplFormatTask
namespace Go.Proofs.YtkgloicnfphmoaaDoor.Print
open Go.RowKit Go.Proofs.YtkgloicnfphmoaaDoorW.PrintWords Go.Proofs.YtkgloicnfphmoaaDoorW.PrintLast Go.Proofs.YtkgloicnfphmoaaDoorW.PrintMore
attribute [local go_sem] max2_int min2_int max_two min_two max_three min_three max_four min_four
set_option linter.unusedVariables false
set_option linter.unusedSimpArgs false
end Go.Proofs.YtkgloicnfphmoaaDoor.Print
namespace Go.Proofs
open Go.Shelf Go.RowKit Go.Lib
def Tryd.atoiL_ren : Go.Shelf.Ren := ⟨fun | 172 => 12 | 244 => 17 | 245 => 18 | 247 => 24 | 279 => 25 | 280 => 26 | 281 => 27 | 282 => 28 | 287 => 35 | 316 => 36 | 171 => 20 | 205 => 37 | 321 => 44 | 322 => 45 | 243 => 30 | 246 => 38 | 283 => 46 | 284 => 47 | 285 => 48 | 286 => 49 | 129 => 53 | 317 => 52 | 318 => 54 | 319 => 55 | 320 => 56 | 337 => 57 | 338 => 58 | n => n, fun | 9 => 9 | 3 => 3 | 75 => 34 | 76 => 35 | 4 => 4 | 5 => 5 | 167 => 46 | 37 => 43 | 0 => 0 | 85 => 47 | 2 => 2 | 168 => 49 | 53 => 55 | 175 => 56 | 46 => 58 | 210 => 61 | 127 => 65 | 145 => 68 | 143 => 66 | 21 => 21 | 171 => 69 | 173 => 72 | 212 => 82 | 51 => 78 | 20 => 20 | 213 => 83 | 232 => 87 | 233 => 88 | 80 => 89 | n => n, fun | 15 => 0 | 16 => 1 | 17 => 5 | 18 => 6 | 19 => 7 | n => n⟩
theorem Tryd.atoiL : Go.Proofs.LaysC.n172 Tryd.prog Tryd.atoiL_ren := {
  mixed := by kernel_rfl
  f129 := Tryd.func53.trans (congrArg some (by kernel_rfl))
  f171 := Tryd.func20.trans (congrArg some (by kernel_rfl))
  f172 := Tryd.func12.trans (congrArg some (by kernel_rfl))
  f205 := Tryd.func37.trans (congrArg some (by kernel_rfl))
  f243 := Tryd.func30.trans (congrArg some (by kernel_rfl))
  f244 := Tryd.func17.trans (congrArg some (by kernel_rfl))
  f245 := Tryd.func18.trans (congrArg some (by kernel_rfl))
  f246 := Tryd.func38.trans (congrArg some (by kernel_rfl))
  f247 := Tryd.func24.trans (congrArg some (by kernel_rfl))
  f279 := Tryd.func25.trans (congrArg some (by kernel_rfl))
  f280 := Tryd.func26.trans (congrArg some (by kernel_rfl))
  f281 := Tryd.func27.trans (congrArg some (by kernel_rfl))
  f282 := Tryd.func28.trans (congrArg some (by kernel_rfl))
  f283 := Tryd.func46.trans (congrArg some (by kernel_rfl))
  f284 := Tryd.func47.trans (congrArg some (by kernel_rfl))
  f285 := Tryd.func48.trans (congrArg some (by kernel_rfl))
  f286 := Tryd.func49.trans (congrArg some (by kernel_rfl))
  f287 := Tryd.func35.trans (congrArg some (by kernel_rfl))
  f316 := Tryd.func36.trans (congrArg some (by kernel_rfl))
  f317 := Tryd.func52.trans (congrArg some (by kernel_rfl))
  f318 := Tryd.func54.trans (congrArg some (by kernel_rfl))
  f319 := Tryd.func55.trans (congrArg some (by kernel_rfl))
  f320 := Tryd.func56.trans (congrArg some (by kernel_rfl))
  f321 := Tryd.func44.trans (congrArg some (by kernel_rfl))
  f322 := Tryd.func45.trans (congrArg some (by kernel_rfl))
  f337 := Tryd.func57.trans (congrArg some (by kernel_rfl))
  f338 := Tryd.func58.trans (congrArg some (by kernel_rfl))
  t0 := Tryd.underlying0
  a0 := Tryd.isAgg0
  z0 := Tryd.sizeOf0
  v0 := Tryd.zeroValue0
  t2 := Tryd.underlying2
  a2 := Tryd.isAgg2
  z2 := Tryd.sizeOf2
  v2 := Tryd.zeroValue2
  t3 := Tryd.underlying3
  a3 := Tryd.isAgg3
  z3 := Tryd.sizeOf3
  v3 := Tryd.zeroValue3
  t4 := Tryd.underlying4
  a4 := Tryd.isAgg4
  z4 := Tryd.sizeOf4
  v4 := Tryd.zeroValue4
  t5 := Tryd.underlying5
  a5 := Tryd.isAgg5
  z5 := Tryd.sizeOf5
  v5 := Tryd.zeroValue5
  t9 := Tryd.underlying9
  a9 := Tryd.isAgg9
  z9 := Tryd.sizeOf9
  v9 := Tryd.zeroValue9
  t20 := Tryd.underlying20
  a20 := Tryd.isAgg20
  z20 := Tryd.sizeOf20
  v20 := Tryd.zeroValue20
  t21 := Tryd.underlying21
  a21 := Tryd.isAgg21
  z21 := Tryd.sizeOf21
  v21 := Tryd.zeroValue21
  t37 := Tryd.underlying43
  a37 := Tryd.isAgg43
  z37 := Tryd.sizeOf43
  v37 := Tryd.zeroValue43
  t46 := Tryd.underlying58
  a46 := Tryd.isAgg58
  z46 := Tryd.sizeOf58
  v46 := Tryd.zeroValue58
  t51 := Tryd.underlying78
  a51 := Tryd.isAgg78
  z51 := Tryd.sizeOf78
  v51 := Tryd.zeroValue78
  t53 := Tryd.underlying55
  a53 := Tryd.isAgg55
  z53 := Tryd.sizeOf55
  v53 := Tryd.zeroValue55
  t75 := Tryd.underlying34
  a75 := Tryd.isAgg34
  z75 := Tryd.sizeOf34
  v75 := Tryd.zeroValue34
  t76 := Tryd.underlying35
  a76 := Tryd.isAgg35
  z76 := Tryd.sizeOf35
  v76 := Tryd.zeroValue35
  t85 := Tryd.underlying47
  a85 := Tryd.isAgg47
  z85 := Tryd.sizeOf47
  v85 := Tryd.zeroValue47
  t127 := Tryd.underlying65
  a127 := Tryd.isAgg65
  z127 := Tryd.sizeOf65
  v127 := Tryd.zeroValue65
  t143 := Tryd.underlying66
  a143 := Tryd.isAgg66
  z143 := Tryd.sizeOf66
  v143 := Tryd.zeroValue66
  t145 := Tryd.underlying68
  a145 := Tryd.isAgg68
  z145 := Tryd.sizeOf68
  v145 := Tryd.zeroValue68
  t167 := Tryd.underlying46
  a167 := Tryd.isAgg46
  z167 := Tryd.sizeOf46
  v167 := Tryd.zeroValue46
  t168 := Tryd.underlying49
  a168 := Tryd.isAgg49
  z168 := Tryd.sizeOf49
  v168 := Tryd.zeroValue49
  t171 := Tryd.underlying69
  a171 := Tryd.isAgg69
  z171 := Tryd.sizeOf69
  v171 := Tryd.zeroValue69
  t173 := Tryd.underlying72
  a173 := Tryd.isAgg72
  z173 := Tryd.sizeOf72
  v173 := Tryd.zeroValue72
  t175 := Tryd.underlying56
  a175 := Tryd.isAgg56
  z175 := Tryd.sizeOf56
  v175 := Tryd.zeroValue56
  t210 := Tryd.underlying61
  a210 := Tryd.isAgg61
  z210 := Tryd.sizeOf61
  v210 := Tryd.zeroValue61
  t212 := Tryd.underlying82
  a212 := Tryd.isAgg82
  z212 := Tryd.sizeOf82
  v212 := Tryd.zeroValue82
  t213 := Tryd.underlying83
  a213 := Tryd.isAgg83
  z213 := Tryd.sizeOf83
  t232 := Tryd.underlying87
  a232 := Tryd.isAgg87
  z232 := Tryd.sizeOf87
  v232 := Tryd.zeroValue87
  t233 := Tryd.underlying88
  a233 := Tryd.isAgg88
  z233 := Tryd.sizeOf88
  v233 := Tryd.zeroValue88
  g15 := by kernel_rfl
  g16 := by kernel_rfl
  g17 := by kernel_rfl
  g18 := by kernel_rfl
  g19 := by kernel_rfl
  t80 := Tryd.underlying89
  a80 := Tryd.isAgg89
  z80 := Tryd.sizeOf89
  v80 := Tryd.zeroValue89
  i0 := by kernel_rfl
  i2 := by kernel_rfl
  i3 := by kernel_rfl
  i4 := by kernel_rfl
  i5 := by kernel_rfl
  i9 := by kernel_rfl
  i20 := by kernel_rfl
  i21 := by kernel_rfl
  i37 := by kernel_rfl
  i46 := by kernel_rfl
  i51 := by kernel_rfl
  i53 := by kernel_rfl
  i75 := by kernel_rfl
  i76 := by kernel_rfl
  i80 := by kernel_rfl
  i85 := by kernel_rfl
  i127 := by kernel_rfl
  i143 := by kernel_rfl
  i145 := by kernel_rfl
  i167 := by kernel_rfl
  i168 := by kernel_rfl
  i171 := by kernel_rfl
  i173 := by kernel_rfl
  i175 := by kernel_rfl
  i210 := by kernel_rfl
  i212 := by kernel_rfl
  i232 := by kernel_rfl
  i233 := by kernel_rfl
  m15 := by kernel_rfl
  m16 := by kernel_rfl
  m17 := by kernel_rfl
  m18 := by kernel_rfl
  m19 := by kernel_rfl
  c0 := by kernel_rfl
  c2 := by kernel_rfl
  c3 := by kernel_rfl
  c4 := by kernel_rfl
  c5 := by kernel_rfl
  c9 := by kernel_rfl
  c20 := by kernel_rfl
  c21 := by kernel_rfl
  c37 := by kernel_rfl
  c46 := by kernel_rfl
  c51 := by kernel_rfl
  c53 := by kernel_rfl
  c75 := by kernel_rfl
  c76 := by kernel_rfl
  c80 := by kernel_rfl
  c85 := by kernel_rfl
  c127 := by kernel_rfl
  c143 := by kernel_rfl
  c145 := by kernel_rfl
  c167 := by kernel_rfl
  c168 := by kernel_rfl
  c171 := by kernel_rfl
  c173 := by kernel_rfl
  c175 := by kernel_rfl
  c210 := by kernel_rfl
  c212 := by kernel_rfl
  c213 := by kernel_rfl
  c232 := by kernel_rfl
  c233 := by kernel_rfl }
def Tryd.splitL_ren : Go.Shelf.Ren := ⟨fun | 146 => 10 | 221 => 16 | 268 => 21 | 138 => 22 | 143 => 23 | 195 => 31 | 197 => 32 | 218 => 33 | 219 => 34 | 260 => 39 | 217 => 40 | 225 => 41 | 224 => 42 | 267 => 43 | 266 => 50 | 314 => 51 | n => n, fun | 9 => 9 | 31 => 28 | 3 => 3 | 4 => 4 | 0 => 0 | 105 => 52 | 21 => 21 | 5 => 5 | 46 => 58 | 119 => 74 | 139 => 77 | 138 => 76 | 146 => 79 | 51 => 78 | n => n, fun | 1 => 2 | 3 => 3 | 4 => 4 | n => n⟩
theorem Tryd.splitL : Go.Proofs.Lays.n146 Tryd.prog Tryd.splitL_ren := {
  mixed := by kernel_rfl
  f138 := Tryd.func22.trans (congrArg some (by kernel_rfl))
  f143 := Tryd.func23.trans (congrArg some (by kernel_rfl))
  f146 := Tryd.func10.trans (congrArg some (by kernel_rfl))
  f195 := Tryd.func31.trans (congrArg some (by kernel_rfl))
  f197 := Tryd.func32.trans (congrArg some (by kernel_rfl))
  f217 := Tryd.func40.trans (congrArg some (by kernel_rfl))
  f218 := Tryd.func33.trans (congrArg some (by kernel_rfl))
  f219 := Tryd.func34.trans (congrArg some (by kernel_rfl))
  f221 := Tryd.func16.trans (congrArg some (by kernel_rfl))
  f224 := Tryd.func42.trans (congrArg some (by kernel_rfl))
  f225 := Tryd.func41.trans (congrArg some (by kernel_rfl))
  f260 := Tryd.func39.trans (congrArg some (by kernel_rfl))
  f266 := Tryd.func50.trans (congrArg some (by kernel_rfl))
  f267 := Tryd.func43.trans (congrArg some (by kernel_rfl))
  f268 := Tryd.func21.trans (congrArg some (by kernel_rfl))
  f314 := Tryd.func51.trans (congrArg some (by kernel_rfl))
  t0 := Tryd.underlying0
  a0 := Tryd.isAgg0
  z0 := Tryd.sizeOf0
  v0 := Tryd.zeroValue0
  t3 := Tryd.underlying3
  a3 := Tryd.isAgg3
  z3 := Tryd.sizeOf3
  v3 := Tryd.zeroValue3
  t4 := Tryd.underlying4
  a4 := Tryd.isAgg4
  z4 := Tryd.sizeOf4
  v4 := Tryd.zeroValue4
  t5 := Tryd.underlying5
  a5 := Tryd.isAgg5
  z5 := Tryd.sizeOf5
  v5 := Tryd.zeroValue5
  t9 := Tryd.underlying9
  a9 := Tryd.isAgg9
  z9 := Tryd.sizeOf9
  v9 := Tryd.zeroValue9
  t21 := Tryd.underlying21
  a21 := Tryd.isAgg21
  z21 := Tryd.sizeOf21
  v21 := Tryd.zeroValue21
  t31 := Tryd.underlying28
  a31 := Tryd.isAgg28
  z31 := Tryd.sizeOf28
  v31 := Tryd.zeroValue28
  t46 := Tryd.underlying58
  a46 := Tryd.isAgg58
  z46 := Tryd.sizeOf58
  v46 := Tryd.zeroValue58
  t51 := Tryd.underlying78
  a51 := Tryd.isAgg78
  z51 := Tryd.sizeOf78
  v51 := Tryd.zeroValue78
  t105 := Tryd.underlying52
  a105 := Tryd.isAgg52
  z105 := Tryd.sizeOf52
  v105 := Tryd.zeroValue52
  t119 := Tryd.underlying74
  a119 := Tryd.isAgg74
  z119 := Tryd.sizeOf74
  t138 := Tryd.underlying76
  a138 := Tryd.isAgg76
  z138 := Tryd.sizeOf76
  v138 := Tryd.zeroValue76
  t139 := Tryd.underlying77
  a139 := Tryd.isAgg77
  z139 := Tryd.sizeOf77
  v139 := Tryd.zeroValue77
  t146 := Tryd.underlying79
  a146 := Tryd.isAgg79
  z146 := Tryd.sizeOf79
  v146 := Tryd.zeroValue79
  g1 := by kernel_rfl
  g3 := by kernel_rfl
  g4 := by kernel_rfl }

end Go.Proofs
namespace Go.Proofs.YtkgloicnfphmoaaDoor.Print
open Go.RowKit Go.Proofs.YtkgloicnfphmoaaDoorW.PrintWords Go.Proofs.YtkgloicnfphmoaaDoorW.PrintLast Go.Proofs.YtkgloicnfphmoaaDoorW.PrintMore
attribute [local go_sem] max2_int min2_int max_two min_two max_three min_three max_four min_four
set_option linter.unusedVariables false
set_option linter.unusedSimpArgs false
/-- The variables that the library reads hold what their types allow. -/
structure Met (w : World) : Prop where
  syn : ∃ ev, w.cell? ⟨0, 0, none⟩ = some ev ∧ (ev = .nilIface ∨ ∃ te pe, ev = .iface te pe)
  rng : ∃ ev, w.cell? ⟨1, 0, none⟩ = some ev ∧ (ev = .nilIface ∨ ∃ te pe, ev = .iface te pe)
  max : ∃ m, w.cell? ⟨2, 0, none⟩ = some (.int .i64 m)
theorem Met.below {w w' : World} (h : Met w) (hb : Below w.heap.size w w') : Met w' := by
  obtain ⟨⟨e1, h1, k1⟩, ⟨e2, h2, k2⟩, m, h3⟩ := h
  exact ⟨⟨e1, (hb.cell (World.block_lt_of_cell? _ _ h1)).trans h1, k1⟩, ⟨e2, (hb.cell (World.block_lt_of_cell? _ _ h2)).trans h2, k2⟩, m, (hb.cell (World.block_lt_of_cell? _ _ h3)).trans h3⟩
/-- The number that a piece spells, or 0. -/
def numB (s : ByteArray) : Int := match Lib.atoiAll s.data.toList with
  | .ok v => v
  | _ => 0
theorem atoi_calls (s : ByteArray) (hs : s.size ≤ 281474976710656) (w : World) (hm : Met w) :
    Calls Tryd.prog 12 #[.string s] w fun e w' => ∃ (n : Int) (ev : Value), e = .returned (.tuple #[.int .i64 n, ev]) ∧ ((ev = .nilIface ∧ n = numB s) ∨ ((∃ te pe, ev = .iface te pe) ∧ numB s = 0)) ∧ Below w.heap.size w w' := by
  obtain ⟨⟨e1, h1, k1⟩, ⟨e2, h2, k2⟩, m, h3⟩ := hm
  cases h : Lib.atoiAll s.data.toList
  · rename_i v
    refine (Go.Proofs.Any.strconv_Atoi_ok Go.Proofs.Tryd.atoiL s (by omega) v h w).mono ?_
    rintro e w' ⟨rfl, hw⟩
    refine ⟨v, .nilIface, rfl, Or.inl ⟨rfl, by unfold numB; rw [h]⟩, ?_⟩
    rcases hw with rfl | ⟨t, rfl⟩
    · exact Below.refl _ _
    · exact Lib.bytesWorld_below _ _ _
  · refine (Go.Proofs.Any.strconv_Atoi_syntax Go.Proofs.Tryd.atoiL s hs h e1 w h1 k1).mono ?_
    rintro e w' ⟨N, rfl, -, -, hb⟩
    exact ⟨_, _, rfl, Or.inr ⟨⟨_, _, rfl⟩, by unfold numB; rw [h]⟩, hb⟩
  · refine (Go.Proofs.Any.strconv_Atoi_range Go.Proofs.Tryd.atoiL s hs h e2 w h2 k2).mono ?_
    rintro e w' ⟨N, rfl, -, -, hb⟩
    exact ⟨_, _, rfl, Or.inr ⟨⟨_, _, rfl⟩, by unfold numB; rw [h]⟩, hb⟩
set_option maxHeartbeats 2000000 in
set_option maxRecDepth 100000 in
theorem number_calls (g S : Nat) (xs : List ByteArray) (i : Nat) (x : ByteArray) (w : World) (hl : xs.length = 4) (hi : i < 4) (hx : w.cell? ⟨S, i, none⟩ = some (.string x)) (hs : x.size ≤ 281474976710656) (hbox : w.cell? ⟨g, 0, none⟩ = some (.slice (some ⟨S, 0, none⟩) 4 4)) (hm : Met w) :
    Calls Tryd.prog 11 #[.int .i64 i, .pointer (some ⟨g, 0, none⟩)] w fun e w' => e = .returned (.int .i64 (numB x)) ∧ Below w.heap.size w w' := by
  have HA := Lib.hid (fun (V : World) (hV : Below w.heap.size w V) => atoi_calls x hs V (hm.below hV))
  have p1 : 0 ≤ (i : Int) := by omega
  have p2 : (i : Int) < 4 := by omega
  have p3 : (i < 4) = True := eq_true hi
  have p4 : (0 ≤ (i : Int)) = True := eq_true p1
  have p5 : ((i : Int) < 4) = True := eq_true p2
  go_enter Tryd.func11, Tryd.ntmps11
  go_wp2_with fail
  refine (HA.out w (Below.refl _ _)).mono ?_
  rintro e w1 ⟨n, ev, rfl, hor, hb⟩
  rcases hor with ⟨rfl, rfl⟩ | ⟨⟨te, pe, rfl⟩, h0⟩
  · go_wp2
    go_ret
    exact ⟨rfl, hb⟩
  · go_wp2
    go_ret
    exact ⟨by rw [h0]; rfl, hb⟩

end Go.Proofs.YtkgloicnfphmoaaDoor.Print
