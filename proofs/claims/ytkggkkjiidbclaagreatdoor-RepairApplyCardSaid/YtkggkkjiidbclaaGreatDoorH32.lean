/- Part 32 of the texts that lead to repairApplyCard_holds. No condition. -/
import Derived.Shelf.Strings.Builder1
import Derived.Shelf.Small.Strs
import Derived.Shelf.Strconv.Itoa0
import Derived.Shelf.Strconv.Itoa1
import Derived.Shelf.LaysM
import Derived.Shelf.Strconv.Itoa2
import Derived.Shelf.Strconv.Itoa3
import Derived.Shelf.Strings.Search1
import Derived.Shelf.Bits.Mul64
import Derived.Test.YtkggkkjiidbclaaGreatDoorProg
set_option linter.unusedSimpArgs false
set_option linter.unusedVariables false
set_option linter.unnecessarySimpa false
namespace Go.Proofs
open Go.Shelf
def Tryz.laysM246_ren : Go.Shelf.Ren := ⟨fun | 246 => 309 | 283 => 360 | 284 => 361 | 285 => 362 | 286 => 363 | 129 => 165 | 317 => 391 | 318 => 392 | 319 => 393 | 320 => 394 | 337 => 404 | 338 => 405 | n => n, fun | 2 => 2 | 3 => 3 | 9 => 9 | 4 => 4 | 171 => 485 | 0 => 0 | 53 => 308 | 37 => 320 | 5 => 5 | 173 => 487 | 212 => 508 | 51 => 306 | 20 => 20 | 213 => 509 | 46 => 223 | 232 => 518 | 233 => 519 | n => n, fun | 17 => 0 | 18 => 2 | 19 => 3 | n => n⟩
def Tryz.laysM243_ren : Go.Shelf.Ren := ⟨fun | 243 => 251 | 246 => 309 | 283 => 360 | 284 => 361 | 285 => 362 | 286 => 363 | 129 => 165 | 317 => 391 | 318 => 392 | 319 => 393 | 320 => 394 | 337 => 404 | 338 => 405 | n => n, fun | 3 => 3 | 9 => 9 | 2 => 2 | 4 => 4 | 171 => 485 | 0 => 0 | 53 => 308 | 37 => 320 | 5 => 5 | 173 => 487 | 212 => 508 | 51 => 306 | 20 => 20 | 213 => 509 | 46 => 223 | 232 => 518 | 233 => 519 | n => n, fun | 17 => 0 | 18 => 2 | 19 => 3 | n => n⟩
def Tryz.laysM171_ren : Go.Shelf.Ren := ⟨fun | 171 => 183 | 243 => 251 | 246 => 309 | 283 => 360 | 284 => 361 | 285 => 362 | 286 => 363 | 129 => 165 | 317 => 391 | 318 => 392 | 319 => 393 | 320 => 394 | 337 => 404 | 338 => 405 | n => n, fun | 3 => 3 | 9 => 9 | 2 => 2 | 4 => 4 | 171 => 485 | 0 => 0 | 53 => 308 | 37 => 320 | 5 => 5 | 173 => 487 | 212 => 508 | 51 => 306 | 20 => 20 | 213 => 509 | 46 => 223 | 232 => 518 | 233 => 519 | n => n, fun | 17 => 0 | 18 => 2 | 19 => 3 | n => n⟩
theorem Tryz.laysM171 : Go.Proofs.LaysM.n171 Tryz.prog Tryz.laysM171_ren := {
  mixed := by kernel_rfl
  f129 := Tryz.func165.trans (congrArg some (by kernel_rfl))
  f171 := Tryz.func183.trans (congrArg some (by kernel_rfl))
  f243 := Tryz.func251.trans (congrArg some (by kernel_rfl))
  f246 := Tryz.func309.trans (congrArg some (by kernel_rfl))
  f283 := Tryz.func360.trans (congrArg some (by kernel_rfl))
  f284 := Tryz.func361.trans (congrArg some (by kernel_rfl))
  f285 := Tryz.func362.trans (congrArg some (by kernel_rfl))
  f286 := Tryz.func363.trans (congrArg some (by kernel_rfl))
  f317 := Tryz.func391.trans (congrArg some (by kernel_rfl))
  f318 := Tryz.func392.trans (congrArg some (by kernel_rfl))
  f319 := Tryz.func393.trans (congrArg some (by kernel_rfl))
  f320 := Tryz.func394.trans (congrArg some (by kernel_rfl))
  f337 := Tryz.func404.trans (congrArg some (by kernel_rfl))
  f338 := Tryz.func405.trans (congrArg some (by kernel_rfl))
  t0 := Tryz.underlying0
  a0 := Tryz.isAgg0
  z0 := Tryz.sizeOf0
  v0 := Tryz.zeroValue0
  t2 := Tryz.underlying2
  a2 := Tryz.isAgg2
  z2 := Tryz.sizeOf2
  v2 := Tryz.zeroValue2
  t3 := Tryz.underlying3
  a3 := Tryz.isAgg3
  z3 := Tryz.sizeOf3
  v3 := Tryz.zeroValue3
  t4 := Tryz.underlying4
  a4 := Tryz.isAgg4
  z4 := Tryz.sizeOf4
  v4 := Tryz.zeroValue4
  t5 := Tryz.underlying5
  a5 := Tryz.isAgg5
  z5 := Tryz.sizeOf5
  v5 := Tryz.zeroValue5
  t9 := Tryz.underlying9
  a9 := Tryz.isAgg9
  z9 := Tryz.sizeOf9
  v9 := Tryz.zeroValue9
  t20 := Tryz.underlying20
  a20 := Tryz.isAgg20
  z20 := Tryz.sizeOf20
  v20 := Tryz.zeroValue20
  t37 := Tryz.underlying320
  a37 := Tryz.isAgg320
  z37 := Tryz.sizeOf320
  v37 := Tryz.zeroValue320
  t46 := Tryz.underlying223
  a46 := Tryz.isAgg223
  z46 := Tryz.sizeOf223
  v46 := Tryz.zeroValue223
  t51 := Tryz.underlying306
  a51 := Tryz.isAgg306
  z51 := Tryz.sizeOf306
  v51 := Tryz.zeroValue306
  t53 := Tryz.underlying308
  a53 := Tryz.isAgg308
  z53 := Tryz.sizeOf308
  v53 := Tryz.zeroValue308
  t171 := Tryz.underlying485
  a171 := Tryz.isAgg485
  z171 := Tryz.sizeOf485
  v171 := Tryz.zeroValue485
  t173 := Tryz.underlying487
  a173 := Tryz.isAgg487
  z173 := Tryz.sizeOf487
  v173 := Tryz.zeroValue487
  t212 := Tryz.underlying508
  a212 := Tryz.isAgg508
  z212 := Tryz.sizeOf508
  v212 := Tryz.zeroValue508
  t213 := Tryz.underlying509
  a213 := Tryz.isAgg509
  z213 := Tryz.sizeOf509
  t232 := Tryz.underlying518
  a232 := Tryz.isAgg518
  z232 := Tryz.sizeOf518
  v232 := Tryz.zeroValue518
  t233 := Tryz.underlying519
  a233 := Tryz.isAgg519
  z233 := Tryz.sizeOf519
  v233 := Tryz.zeroValue519
  g17 := by kernel_rfl
  g18 := by kernel_rfl
  g19 := by kernel_rfl
  i0 := by kernel_rfl
  i2 := by kernel_rfl
  i3 := by kernel_rfl
  i4 := by kernel_rfl
  i5 := by kernel_rfl
  i9 := by kernel_rfl
  i20 := by kernel_rfl
  i37 := by kernel_rfl
  i46 := by kernel_rfl
  i51 := by kernel_rfl
  i53 := by kernel_rfl
  i171 := by kernel_rfl
  i173 := by kernel_rfl
  i212 := by kernel_rfl
  i232 := by kernel_rfl
  i233 := by kernel_rfl
  m17 := by kernel_rfl
  m18 := by kernel_rfl
  m19 := by kernel_rfl }
open Go.RowKit Go.Sort Go.Lib in
theorem Tryz.strconv_Itoa (n : Int) (h0 : -9223372036854775808 ≤ n) (h1 : n ≤ 9223372036854775807) (w : World) (htab : Lib.TabIs Tryz.prog w "internal/strconv.uint64pow10" .u64 Lib.pow10Tab) :
    Calls Tryz.prog 183 #[.int .i64 n] w fun e w' => e = .returned (.string ⟨(Lib.itoa n).toArray⟩) ∧ ∃ k os, w' = grow (w.drewN k) os := Any.strconv_Itoa Tryz.laysM171 n h0 h1 w htab
end Go.Proofs
