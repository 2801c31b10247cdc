/- Part 29 of the texts that lead to bestWeakenCard_holds. No condition. -/
import Derived.Shelf.Strings.Builder1
import Derived.Shelf.Small.Strs
import Derived.Shelf.Strconv.Itoa0
import Derived.Shelf.Strconv.Itoa1
import Derived.Shelf.LaysM
import Derived.Shelf.Strconv.Itoa2
import Derived.Shelf.Strconv.Itoa3
import Derived.Shelf.Strings.Search1
import Derived.Test.YthoonenhakbkgaaGreatDoorProg
set_option linter.unusedSimpArgs false
set_option linter.unusedVariables false
set_option linter.unnecessarySimpa false
namespace Go.Proofs
open Go.Shelf
def Tryz.laysM246_ren : Go.Shelf.Ren := ⟨fun | 246 => 279 | 283 => 329 | 284 => 330 | 285 => 331 | 286 => 332 | 129 => 261 | 317 => 357 | 318 => 358 | 319 => 359 | 320 => 360 | 337 => 369 | 338 => 370 | n => n, fun | 2 => 2 | 3 => 3 | 9 => 9 | 4 => 4 | 171 => 460 | 0 => 0 | 53 => 408 | 37 => 224 | 5 => 5 | 173 => 462 | 212 => 484 | 51 => 406 | 20 => 20 | 213 => 485 | 46 => 286 | 232 => 493 | 233 => 494 | n => n, fun | 17 => 1 | 18 => 2 | 19 => 3 | n => n⟩
def Tryz.laysM243_ren : Go.Shelf.Ren := ⟨fun | 243 => 223 | 246 => 279 | 283 => 329 | 284 => 330 | 285 => 331 | 286 => 332 | 129 => 261 | 317 => 357 | 318 => 358 | 319 => 359 | 320 => 360 | 337 => 369 | 338 => 370 | n => n, fun | 3 => 3 | 9 => 9 | 2 => 2 | 4 => 4 | 171 => 460 | 0 => 0 | 53 => 408 | 37 => 224 | 5 => 5 | 173 => 462 | 212 => 484 | 51 => 406 | 20 => 20 | 213 => 485 | 46 => 286 | 232 => 493 | 233 => 494 | n => n, fun | 17 => 1 | 18 => 2 | 19 => 3 | n => n⟩
def Tryz.laysM171_ren : Go.Shelf.Ren := ⟨fun | 171 => 169 | 243 => 223 | 246 => 279 | 283 => 329 | 284 => 330 | 285 => 331 | 286 => 332 | 129 => 261 | 317 => 357 | 318 => 358 | 319 => 359 | 320 => 360 | 337 => 369 | 338 => 370 | n => n, fun | 3 => 3 | 9 => 9 | 2 => 2 | 4 => 4 | 171 => 460 | 0 => 0 | 53 => 408 | 37 => 224 | 5 => 5 | 173 => 462 | 212 => 484 | 51 => 406 | 20 => 20 | 213 => 485 | 46 => 286 | 232 => 493 | 233 => 494 | n => n, fun | 17 => 1 | 18 => 2 | 19 => 3 | n => n⟩
theorem Tryz.laysM171 : Go.Proofs.LaysM.n171 Tryz.prog Tryz.laysM171_ren := {
  mixed := by kernel_rfl
  f129 := Tryz.func261.trans (congrArg some (by kernel_rfl))
  f171 := Tryz.func169.trans (congrArg some (by kernel_rfl))
  f243 := Tryz.func223.trans (congrArg some (by kernel_rfl))
  f246 := Tryz.func279.trans (congrArg some (by kernel_rfl))
  f283 := Tryz.func329.trans (congrArg some (by kernel_rfl))
  f284 := Tryz.func330.trans (congrArg some (by kernel_rfl))
  f285 := Tryz.func331.trans (congrArg some (by kernel_rfl))
  f286 := Tryz.func332.trans (congrArg some (by kernel_rfl))
  f317 := Tryz.func357.trans (congrArg some (by kernel_rfl))
  f318 := Tryz.func358.trans (congrArg some (by kernel_rfl))
  f319 := Tryz.func359.trans (congrArg some (by kernel_rfl))
  f320 := Tryz.func360.trans (congrArg some (by kernel_rfl))
  f337 := Tryz.func369.trans (congrArg some (by kernel_rfl))
  f338 := Tryz.func370.trans (congrArg some (by kernel_rfl))
  t0 := Tryz.underlying0
  a0 := Tryz.isAgg0
  z0 := Tryz.sizeOf0
  v0 := Tryz.zeroValue0
  t2 := Tryz.underlying2
  a2 := Tryz.isAgg2
  z2 := Tryz.sizeOf2
  v2 := Tryz.zeroValue2
  t3 := Tryz.underlying3
  a3 := Tryz.isAgg3
  z3 := Tryz.sizeOf3
  v3 := Tryz.zeroValue3
  t4 := Tryz.underlying4
  a4 := Tryz.isAgg4
  z4 := Tryz.sizeOf4
  v4 := Tryz.zeroValue4
  t5 := Tryz.underlying5
  a5 := Tryz.isAgg5
  z5 := Tryz.sizeOf5
  v5 := Tryz.zeroValue5
  t9 := Tryz.underlying9
  a9 := Tryz.isAgg9
  z9 := Tryz.sizeOf9
  v9 := Tryz.zeroValue9
  t20 := Tryz.underlying20
  a20 := Tryz.isAgg20
  z20 := Tryz.sizeOf20
  v20 := Tryz.zeroValue20
  t37 := Tryz.underlying224
  a37 := Tryz.isAgg224
  z37 := Tryz.sizeOf224
  v37 := Tryz.zeroValue224
  t46 := Tryz.underlying286
  a46 := Tryz.isAgg286
  z46 := Tryz.sizeOf286
  v46 := Tryz.zeroValue286
  t51 := Tryz.underlying406
  a51 := Tryz.isAgg406
  z51 := Tryz.sizeOf406
  v51 := Tryz.zeroValue406
  t53 := Tryz.underlying408
  a53 := Tryz.isAgg408
  z53 := Tryz.sizeOf408
  v53 := Tryz.zeroValue408
  t171 := Tryz.underlying460
  a171 := Tryz.isAgg460
  z171 := Tryz.sizeOf460
  v171 := Tryz.zeroValue460
  t173 := Tryz.underlying462
  a173 := Tryz.isAgg462
  z173 := Tryz.sizeOf462
  v173 := Tryz.zeroValue462
  t212 := Tryz.underlying484
  a212 := Tryz.isAgg484
  z212 := Tryz.sizeOf484
  v212 := Tryz.zeroValue484
  t213 := Tryz.underlying485
  a213 := Tryz.isAgg485
  z213 := Tryz.sizeOf485
  t232 := Tryz.underlying493
  a232 := Tryz.isAgg493
  z232 := Tryz.sizeOf493
  v232 := Tryz.zeroValue493
  t233 := Tryz.underlying494
  a233 := Tryz.isAgg494
  z233 := Tryz.sizeOf494
  v233 := Tryz.zeroValue494
  g17 := by kernel_rfl
  g18 := by kernel_rfl
  g19 := by kernel_rfl
  i0 := by kernel_rfl
  i2 := by kernel_rfl
  i3 := by kernel_rfl
  i4 := by kernel_rfl
  i5 := by kernel_rfl
  i9 := by kernel_rfl
  i20 := by kernel_rfl
  i37 := by kernel_rfl
  i46 := by kernel_rfl
  i51 := by kernel_rfl
  i53 := by kernel_rfl
  i171 := by kernel_rfl
  i173 := by kernel_rfl
  i212 := by kernel_rfl
  i232 := by kernel_rfl
  i233 := by kernel_rfl
  m17 := by kernel_rfl
  m18 := by kernel_rfl
  m19 := by kernel_rfl }
open Go.RowKit Go.Sort Go.Lib in
theorem Tryz.strconv_Itoa (n : Int) (h0 : -9223372036854775808 ≤ n) (h1 : n ≤ 9223372036854775807) (w : World) (htab : Lib.TabIs Tryz.prog w "internal/strconv.uint64pow10" .u64 Lib.pow10Tab) :
    Calls Tryz.prog 169 #[.int .i64 n] w fun e w' => e = .returned (.string ⟨(Lib.itoa n).toArray⟩) ∧ ∃ k os, w' = grow (w.drewN k) os := Any.strconv_Itoa Tryz.laysM171 n h0 h1 w htab
end Go.Proofs
