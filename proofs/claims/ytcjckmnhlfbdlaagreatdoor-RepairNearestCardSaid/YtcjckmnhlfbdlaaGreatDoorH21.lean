/- Part 21 of the texts that lead to repairNearestCard_holds. No condition. -/
import Derived.Shelf.Strings.Builder1
import Derived.Shelf.Small.Strs
import Derived.Shelf.Strconv.Itoa0
import Derived.Shelf.Strconv.Itoa1
import Derived.Shelf.LaysM
import Derived.Shelf.Strconv.Itoa2
import Derived.Shelf.Strconv.Itoa3
import Derived.Shelf.Strings.Search1
import Derived.Test.YtcjckmnhlfbdlaaGreatDoorProg
set_option linter.all false
namespace Go.Proofs
open Go.Shelf
def Tryz.laysM246_ren : Go.Shelf.Ren := ⟨fun | 246 => 326 | 283 => 377 | 284 => 378 | 285 => 379 | 286 => 380 | 129 => 182 | 317 => 408 | 318 => 409 | 319 => 410 | 320 => 411 | 337 => 421 | 338 => 422 | n => n, fun | 2 => 2 | 3 => 3 | 9 => 9 | 4 => 4 | 171 => 494 | 0 => 0 | 53 => 317 | 37 => 329 | 5 => 5 | 173 => 496 | 212 => 517 | 51 => 315 | 20 => 20 | 213 => 518 | 46 => 234 | 232 => 527 | 233 => 528 | n => n, fun | 17 => 0 | 18 => 2 | 19 => 3 | n => n⟩
def Tryz.laysM243_ren : Go.Shelf.Ren := ⟨fun | 243 => 268 | 246 => 326 | 283 => 377 | 284 => 378 | 285 => 379 | 286 => 380 | 129 => 182 | 317 => 408 | 318 => 409 | 319 => 410 | 320 => 411 | 337 => 421 | 338 => 422 | n => n, fun | 3 => 3 | 9 => 9 | 2 => 2 | 4 => 4 | 171 => 494 | 0 => 0 | 53 => 317 | 37 => 329 | 5 => 5 | 173 => 496 | 212 => 517 | 51 => 315 | 20 => 20 | 213 => 518 | 46 => 234 | 232 => 527 | 233 => 528 | n => n, fun | 17 => 0 | 18 => 2 | 19 => 3 | n => n⟩
def Tryz.laysM171_ren : Go.Shelf.Ren := ⟨fun | 171 => 200 | 243 => 268 | 246 => 326 | 283 => 377 | 284 => 378 | 285 => 379 | 286 => 380 | 129 => 182 | 317 => 408 | 318 => 409 | 319 => 410 | 320 => 411 | 337 => 421 | 338 => 422 | n => n, fun | 3 => 3 | 9 => 9 | 2 => 2 | 4 => 4 | 171 => 494 | 0 => 0 | 53 => 317 | 37 => 329 | 5 => 5 | 173 => 496 | 212 => 517 | 51 => 315 | 20 => 20 | 213 => 518 | 46 => 234 | 232 => 527 | 233 => 528 | n => n, fun | 17 => 0 | 18 => 2 | 19 => 3 | n => n⟩
theorem Tryz.laysM171 : Go.Proofs.LaysM.n171 Tryz.prog Tryz.laysM171_ren := {
 mixed := by kernel_rfl
 f129 := Tryz.func182.trans (congrArg some (by kernel_rfl))
 f171 := Tryz.func200.trans (congrArg some (by kernel_rfl))
 f243 := Tryz.func268.trans (congrArg some (by kernel_rfl))
 f246 := Tryz.func326.trans (congrArg some (by kernel_rfl))
 f283 := Tryz.func377.trans (congrArg some (by kernel_rfl))
 f284 := Tryz.func378.trans (congrArg some (by kernel_rfl))
 f285 := Tryz.func379.trans (congrArg some (by kernel_rfl))
 f286 := Tryz.func380.trans (congrArg some (by kernel_rfl))
 f317 := Tryz.func408.trans (congrArg some (by kernel_rfl))
 f318 := Tryz.func409.trans (congrArg some (by kernel_rfl))
 f319 := Tryz.func410.trans (congrArg some (by kernel_rfl))
 f320 := Tryz.func411.trans (congrArg some (by kernel_rfl))
 f337 := Tryz.func421.trans (congrArg some (by kernel_rfl))
 f338 := Tryz.func422.trans (congrArg some (by kernel_rfl))
 t0 := Tryz.underlying0
 a0 := Tryz.isAgg0
 z0 := Tryz.sizeOf0
 v0 := Tryz.zeroValue0
 t2 := Tryz.underlying2
 a2 := Tryz.isAgg2
 z2 := Tryz.sizeOf2
 v2 := Tryz.zeroValue2
 t3 := Tryz.underlying3
 a3 := Tryz.isAgg3
 z3 := Tryz.sizeOf3
 v3 := Tryz.zeroValue3
 t4 := Tryz.underlying4
 a4 := Tryz.isAgg4
 z4 := Tryz.sizeOf4
 v4 := Tryz.zeroValue4
 t5 := Tryz.underlying5
 a5 := Tryz.isAgg5
 z5 := Tryz.sizeOf5
 v5 := Tryz.zeroValue5
 t9 := Tryz.underlying9
 a9 := Tryz.isAgg9
 z9 := Tryz.sizeOf9
 v9 := Tryz.zeroValue9
 t20 := Tryz.underlying20
 a20 := Tryz.isAgg20
 z20 := Tryz.sizeOf20
 v20 := Tryz.zeroValue20
 t37 := Tryz.underlying329
 a37 := Tryz.isAgg329
 z37 := Tryz.sizeOf329
 v37 := Tryz.zeroValue329
 t46 := Tryz.underlying234
 a46 := Tryz.isAgg234
 z46 := Tryz.sizeOf234
 v46 := Tryz.zeroValue234
 t51 := Tryz.underlying315
 a51 := Tryz.isAgg315
 z51 := Tryz.sizeOf315
 v51 := Tryz.zeroValue315
 t53 := Tryz.underlying317
 a53 := Tryz.isAgg317
 z53 := Tryz.sizeOf317
 v53 := Tryz.zeroValue317
 t171 := Tryz.underlying494
 a171 := Tryz.isAgg494
 z171 := Tryz.sizeOf494
 v171 := Tryz.zeroValue494
 t173 := Tryz.underlying496
 a173 := Tryz.isAgg496
 z173 := Tryz.sizeOf496
 v173 := Tryz.zeroValue496
 t212 := Tryz.underlying517
 a212 := Tryz.isAgg517
 z212 := Tryz.sizeOf517
 v212 := Tryz.zeroValue517
 t213 := Tryz.underlying518
 a213 := Tryz.isAgg518
 z213 := Tryz.sizeOf518
 t232 := Tryz.underlying527
 a232 := Tryz.isAgg527
 z232 := Tryz.sizeOf527
 v232 := Tryz.zeroValue527
 t233 := Tryz.underlying528
 a233 := Tryz.isAgg528
 z233 := Tryz.sizeOf528
 v233 := Tryz.zeroValue528
 g17 := by kernel_rfl
 g18 := by kernel_rfl
 g19 := by kernel_rfl
 i0 := by kernel_rfl
 i2 := by kernel_rfl
 i3 := by kernel_rfl
 i4 := by kernel_rfl
 i5 := by kernel_rfl
 i9 := by kernel_rfl
 i20 := by kernel_rfl
 i37 := by kernel_rfl
 i46 := by kernel_rfl
 i51 := by kernel_rfl
 i53 := by kernel_rfl
 i171 := by kernel_rfl
 i173 := by kernel_rfl
 i212 := by kernel_rfl
 i232 := by kernel_rfl
 i233 := by kernel_rfl
 m17 := by kernel_rfl
 m18 := by kernel_rfl
 m19 := by kernel_rfl }
open Go.RowKit Go.Sort Go.Lib in
theorem Tryz.strconv_Itoa (n : Int) (h0 : -9223372036854775808 ≤ n) (h1 : n ≤ 9223372036854775807) (w : World) (htab : Lib.TabIs Tryz.prog w "internal/strconv.uint64pow10" .u64 Lib.pow10Tab) :
 Calls Tryz.prog 200 #[.int .i64 n] w fun e w' => e = .returned (.string ⟨(Lib.itoa n).toArray⟩) ∧ ∃ k os, w' = grow (w.drewN k) os := Any.strconv_Itoa Tryz.laysM171 n h0 h1 w htab
end Go.Proofs
